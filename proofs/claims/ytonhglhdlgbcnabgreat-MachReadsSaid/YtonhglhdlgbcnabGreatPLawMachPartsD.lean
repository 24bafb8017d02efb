/- Several texts in one (CdBit, CdBakemake, CdTable, CdSlices, CdStd, CdDrive, CdChip, CdTimer, CdSerial, CdVideo, CdSound, CdPort, CdKChip, CdBoard, CdMach, CdCore, CdAlu, CdInternalstringslite, CdStrings, CdKMore), for the proof of LawMachParts. No condition beyond those in each lemma. -/
import Derived.Test.YtonhglhdlgbcnabGreatProg
import Derived.Test.YtonhglhdlgbcnabGreatPLawMachPartsC
import Derived.KernelRfl
namespace Go.Proofs.YtonhglhdlgbcnabGreat.Code
open Go Go.Proofs.YtonhglhdlgbcnabGreat.Calc
set_option maxRecDepth 100000
def c27x0:AC := .seq (.reg [m' 5 0,m' 6 1,aC' 7 69 [.t 6],aB' 8 .shl (i' 1) (.t 7),aB' 9 .sub (.t 8) (i' 1),aB' 10 .and (.t 5) (.t 9),m' 4 10] [4]) .ret
def c27:AC := .seq (.reg [aV' 4 0] [0,1]) c27x0
theorem k27:KQ Tryz.prog Tryz.f27 c27 [.t 4] := ⟨by kernel_rfl,by kernel_rfl⟩
theorem e27:enters Tryz.prog 27 = true := by kernel_rfl
def c69x0:AC := .seq (.reg [m' 3 0,o' 4 (.mnx false [.t 3,i' 62]),o' 5 (.mnx true [i' 0,.t 4]),m' 2 5] [2]) .ret
def c69:AC := .seq (.reg [aV' 2 0] [0]) c69x0
theorem k69:KQ Tryz.prog Tryz.f69 c69 [.t 2] := ⟨by kernel_rfl,by kernel_rfl⟩
theorem e69:enters Tryz.prog 69 = true := by kernel_rfl
def c130x0:AC := .seq (.reg [m' 21 0,aC' 22 27 [.t 21,i' 62],m' 23 9,aB' 24 .andNot (.t 22) (.t 23),m' 25 3,m' 26 2,aC' 27 27 [.t 25,.t 26],m' 28 1,aB' 29 .shl (.t 27) (.t 28),aB' 30 .or (.t 24) (.t 29),m' 8 30] [8]) .ret
def c130x1:AC := .seq (.reg [m' 16 2,aB' 17 .shl (i' 1) (.t 16),aB' 18 .sub (.t 17) (i' 1),m' 19 1,aB' 20 .shl (.t 18) (.t 19),m' 9 20] [0,1,2,3,9]) c130x0
def c130x2:AC := .seq (.reg [m' 11 1,m' 12 2,aC' 13 173 [.t 11,.t 12],m' 10 13,aE' 14 10 0,aE' 15 10 1,m' 1 14,m' 2 15] [0,1,2,3]) c130x1
def c130:AC := .seq (.reg [aV' 8 0] [0,1,2,3]) c130x2
theorem k130:KQ Tryz.prog Tryz.f130 c130 [.t 8] := ⟨by kernel_rfl,by kernel_rfl⟩
theorem e130:enters Tryz.prog 130 = true := by kernel_rfl
def c138x0:AC := .seq (.reg [m' 13 0,aC' 14 27 [.t 13,i' 62],m' 15 1,aB' 16 .shr (.t 14) (.t 15),m' 17 2,aC' 18 27 [.t 16,.t 17],m' 6 18] [6]) .ret
def c138x1:AC := .seq (.reg [m' 8 1,m' 9 2,aC' 10 173 [.t 8,.t 9],m' 7 10,aE' 11 7 0,aE' 12 7 1,m' 1 11,m' 2 12] [0,1,2]) c138x0
def c138:AC := .seq (.reg [aV' 6 0] [0,1,2]) c138x1
theorem k138:KQ Tryz.prog Tryz.f138 c138 [.t 6] := ⟨by kernel_rfl,by kernel_rfl⟩
theorem e138:enters Tryz.prog 138 = true := by kernel_rfl
def c165x1:AC := .reg [m' 19 0,m' 20 1,aB' 21 .shl (i' 1) (.t 20),aB' 22 .sub (.t 19) (.t 21),m' 0 22] [0]
def c165x3:AC := .seq (.reg [m' 10 1,aB' 11 .gtr (.t 10) (i' 0),m' 12 11,aG' 13 12 0,aG' 14 12 1,gT' 15 12 (.bin .sub (.t 14) (i' 1)),gT' 16 12 (.bin .shr (.t 13) (.t 15)),gT' 17 12 (.bin .eql (.t 16) (i' 1)),o' 18 (.pick (.t 12) (.t 17) kF')] [0,1,18]) (.cond (.t 18) c165x1 .skip)
def c165x5:AC := .seq (.reg [m' 7 0,m' 8 1,aC' 9 27 [.t 7,.t 8],m' 0 9] [0,1]) (.seq c165x3 (.seq (.reg [m' 23 0,m' 4 23] [4]) .ret))
def c165x6:AC := .seq (.reg [m' 5 1,aC' 6 69 [.t 5],m' 1 6] [0,1]) c165x5
def c165:AC := .seq (.reg [aV' 4 0] [0,1]) c165x6
theorem k165:KQ Tryz.prog Tryz.f165 c165 [.t 4] := ⟨by kernel_rfl,by kernel_rfl⟩
theorem e165:enters Tryz.prog 165 = true := by kernel_rfl
def c173x0:AC := .seq (.reg [m' 8 0,m' 9 1,m' 10 0,aB' 11 .sub (i' 62) (.t 10),o' 12 (.mnx false [.t 9,.t 11]),o' 13 (.mnx true [i' 0,.t 12]),m' 4 8,m' 5 13] [4,5]) .ret
def c173x1:AC := .seq (.reg [m' 6 0,aC' 7 69 [.t 6],m' 0 7] [0,1]) c173x0
def c173:AC := .seq (.reg [aV' 4 0,aV' 5 0] [0,1]) c173x1
theorem k173:KQ Tryz.prog Tryz.f173 c173 [.t 4,.t 5] := ⟨by kernel_rfl,by kernel_rfl⟩
theorem e173:enters Tryz.prog 173 = true := by kernel_rfl
def c180x0:AC := .seq (.dreg [m' 23 10,m' 24 3,aC' 25 27 [.t 23,.t 24],m' 26 10,m' 27 3,aB' 28 .shr (.t 26) (.t 27),m' 8 25,m' 9 28] (bf [[],[],[0,2],[],[],[3,5],[0,3],[0,7]]) [8,9]) .ret
def c180x1:AC := .seq (.reg [m' 13 0,m' 14 3,aC' 15 27 [.t 13,.t 14],m' 16 1,m' 17 3,aC' 18 27 [.t 16,.t 17],aB' 19 .add (.t 15) (.t 18),m' 20 2,aB' 21 .and (.t 20) (i' 1),aB' 22 .add (.t 19) (.t 21),m' 10 22] [3,10]) c180x0
def c180x2:AC := .seq (.reg [m' 11 3,aC' 12 69 [.t 11],m' 3 12] [0,1,2,3]) c180x1
def c180:AC := .seq (.reg [aV' 8 0,aV' 9 0] [0,1,2,3]) c180x2
theorem k180:KQ Tryz.prog Tryz.f180 c180 [.t 8,.t 9] := ⟨by kernel_rfl,by kernel_rfl⟩
theorem e180:enters Tryz.prog 180 = true := by kernel_rfl
def c183x0:AC := .seq (.reg [m' 29 10,m' 8 29,aV' 9 0] [8,9]) .ret
def c183x1:AC := .seq (.reg [m' 25 10,m' 26 3,aB' 27 .shl (i' 1) (.t 26),aB' 28 .add (.t 25) (.t 27),m' 8 28,aV' 9 1] [8,9]) .ret
def c183x3:AC := .seq (.reg [m' 23 10,aB' 24 .lss (.t 23) (i' 0)] [3,10,24]) (.cond (.t 24) c183x1 .skip)
def c183x5:AC := .seq (.reg [m' 13 0,m' 14 3,aC' 15 27 [.t 13,.t 14],m' 16 1,m' 17 3,aC' 18 27 [.t 16,.t 17],aB' 19 .sub (.t 15) (.t 18),m' 20 2,aB' 21 .and (.t 20) (i' 1),aB' 22 .sub (.t 19) (.t 21),m' 10 22] [3,10]) (.seq c183x3 c183x0)
def c183x6:AC := .seq (.reg [m' 11 3,aC' 12 69 [.t 11],m' 3 12] [0,1,2,3]) c183x5
def c183:AC := .seq (.reg [aV' 8 0,aV' 9 0] [0,1,2,3]) c183x6
theorem k183:KQ Tryz.prog Tryz.f183 c183 [.t 8,.t 9] := ⟨by kernel_rfl,by kernel_rfl⟩
theorem e183:enters Tryz.prog 183 = true := by kernel_rfl
def c184x0:AC := .seq (.dreg [m' 17 0,m' 18 2,aC' 19 27 [.t 17,.t 18],m' 20 0,m' 21 2,aB' 22 .shr (.t 20) (.t 21),m' 6 19,m' 7 22] (bf [[],[],[0,2],[],[],[3,5],[0,3],[0,7]]) [6,7]) .ret
def c184x1:AC := .seq (.reg [m' 10 0,m' 11 2,aC' 12 27 [.t 10,.t 11],aB' 13 .shl (.t 12) (.k (.int .u64 1)),m' 14 1,aB' 15 .and (.t 14) (i' 1),aB' 16 .or (.t 13) (.t 15),m' 0 16] [0,2]) c184x0
def c184x2:AC := .seq (.reg [m' 8 2,aC' 9 69 [.t 8],m' 2 9] [0,1,2]) c184x1
def c184:AC := .seq (.reg [aV' 6 0,aV' 7 0] [0,1,2]) c184x2
theorem k184:KQ Tryz.prog Tryz.f184 c184 [.t 6,.t 7] := ⟨by kernel_rfl,by kernel_rfl⟩
theorem e184:enters Tryz.prog 184 = true := by kernel_rfl
def c185x0:AC := .seq (.reg [m' 18 0,aB' 19 .shr (.t 18) (.k (.int .u64 1)),m' 20 0,aB' 21 .and (.t 20) (i' 1),m' 6 19,m' 7 21] [6,7]) .ret
def c185x1:AC := .seq (.dreg [m' 10 0,m' 11 2,aC' 12 27 [.t 10,.t 11],m' 13 1,aB' 14 .and (.t 13) (i' 1),m' 15 2,aB' 16 .shl (.t 14) (.t 15),aB' 17 .or (.t 12) (.t 16),m' 0 17] (bf [[],[],[0,2],[],[3,4],[],[3,6],[0,7],[0,8]]) [0]) c185x0
def c185x2:AC := .seq (.reg [m' 8 2,aC' 9 69 [.t 8],m' 2 9] [0,1,2]) c185x1
def c185:AC := .seq (.reg [aV' 6 0,aV' 7 0] [0,1,2]) c185x2
theorem k185:KQ Tryz.prog Tryz.f185 c185 [.t 6,.t 7] := ⟨by kernel_rfl,by kernel_rfl⟩
theorem e185:enters Tryz.prog 185 = true := by kernel_rfl
def c5x0:AC := .seq (.reg [aM' 129 8 4,aS' 8 2 129] [2]) .ret
def c5x1:AC := .seq (.dreg [aF' 118 6 4,aL' 119 118,m' 120 3,aN' 121 120,aF' 122 0 121,aL' 123 122,aC' 124 19 [.t 123],o' 125 (.build zLC [(0,1,(.k (.string ⟨#[114,111,109]⟩))),(1,1,(i' 1)),(2,1,(i' 65280)),(3,1,(i' 256)),(4,1,(.t 124))]),o' 126 (.bsl zLC 1 [(0,(.t 125))]),o' 127 (.app 5 64 (.t 119) (.t 126)),aF' 128 6 4,aS' 1 128 127] (bf [[],[0,1],[],[2,3],[2,4],[2,5],[2,6],[2,7],[2,8],[0,9],[0,10],[0,11]]) [2,4]) c5x0
def c5x2:AC := .reg [aB' 117 .add (.t 23) (i' 1),m' 23 117] [2,3,4,5,22,23]
def c5x3:AC := .reg [aF' 108 7 4,aL' 109 108,aF' 110 0 8,aL' 111 110,o' 112 (.bin .add (.t 111) (.k (.string ⟨#[46,105,114,113]⟩))),o' 113 (.build [(.string ⟨#[]⟩),(.string ⟨#[]⟩)] [(0,1,(.t 112)),(1,1,(.k (.string ⟨#[99,112,117,46,105,114,113]⟩)))]),o' 114 (.bsl [(.string ⟨#[]⟩),(.string ⟨#[]⟩)] 1 [(0,(.t 113))]),o' 115 (.app 2 32 (.t 109) (.t 114)),aF' 116 7 4,aS' 1 116 115] [2,3,4,5,22,23]
def c5x5:AC := .seq (.reg [m' 93 7,aB' 94 .eql (.t 93) (i' 3),m' 95 94,gF' 96 95 (.mv (.t 7)),gF' 97 95 (.bin .eql (.t 96) (i' 5)),o' 98 (.pick (.t 95) kT' (.t 97)),m' 99 98,gF' 100 99 (.mv (.t 7)),gF' 101 99 (.bin .eql (.t 100) (i' 8)),o' 102 (.pick (.t 99) kT' (.t 101)),m' 103 102,aG' 104 103 3,gT' 105 103 (.call 17 [.t 104,i' 3]),gT' 106 103 (.bin .gtr (.t 105) (i' 0)),o' 107 (.pick (.t 103) (.t 106) kF')] [2,3,4,5,8,22,23,107]) (.cond (.t 107) c5x3 .skip)
def c5x6:AC := .seq (.reg [m' 86 5,aF' 87 3 8,aL' 88 87,aB' 89 .add (.t 88) (i' 15),aB' 90 .quo (.t 89) (i' 16),aB' 91 .mul (.t 90) (i' 16),aB' 92 .add (.t 86) (.t 91),m' 5 92] [2,3,4,5,7,8,22,23]) c5x5
def c5x7:AC := .seq (.reg [aF' 80 6 4,aL' 81 80,aM' 82 5 8,o' 83 (.bsl zLC 1 [(0,(.t 82))]),o' 84 (.app 5 64 (.t 81) (.t 83)),aF' 85 6 4,aS' 1 85 84] [2,3,4,5,7,8,22,23]) c5x6
def c5x8:AC := .reg [m' 69 3,aC' 70 17 [.t 69,i' 256],m' 71 3,aC' 72 17 [.t 71,i' 256],o' 73 (.bsl zLI 2 [(0,(.t 70)),(1,(.t 72))]),m' 74 3,aC' 75 17 [.t 74,i' 3],aB' 76 .mul (i' 8) (.t 75),aB' 77 .add (i' 8) (.t 76),aC' 78 18 [.t 73,.t 77],aF' 79 4 8,aS' 1 79 78] [2,3,4,5,7,8,22,23]
def c5x10:AC := .seq (.reg [m' 67 7,aB' 68 .eql (.t 67) (i' 2)] [2,3,4,5,7,8,22,23,68]) (.cond (.t 68) c5x8 .skip)
def c5x12:AC := .reg [aB' 66 .add (.t 54) (i' 1),m' 54 66] [2,3,4,5,6,7,8,22,23,53,54]
def c5x13:AC := .reg [aF' 57 4 8,aL' 58 57,m' 59 9,m' 60 9,aB' 61 .mul (.t 60) (i' 7),m' 62 6,aB' 63 .add (.t 61) (.t 62),o' 64 (.cvt .u8 (.t 63)),aX' 65 1 58 59,aS' 1 65 64] [2,3,4,5,6,7,8,22,23,53,54]
def c5x14:AC := .seq (.reg [m' 56 54,m' 9 56] [2,3,4,5,6,7,8,9,22,23,53,54]) c5x13
def c5x19:AC := .seq (.reg [aB' 55 .lss (.t 54) (.t 53)] [2,3,4,5,6,7,8,22,23,53,54,55]) (.seq (.cond (.t 55) .skip (.exit 2)) (.seq (.block 3 c5x14) c5x12))
def c5x22:AC := .seq (.reg [aF' 51 4 8,aL' 52 51,aT' 53 52,aV' 54 0] [2,3,4,5,6,7,8,22,23,53,54]) (.block 2 (.loop c5x19))
def c5x23:AC := .seq (.reg [m' 45 3,aC' 46 17 [.t 45,i' 2],aB' 47 .add (i' 1) (.t 46),aB' 48 .mul (i' 256) (.t 47),o' 49 (.mksl [(.int .u8 0)] 1 (.t 48) (.t 48)),aF' 50 4 8,aS' 1 50 49] [2,3,4,5,6,7,8,22,23]) c5x22
def c5x25:AC := .seq (.reg [m' 43 7,aB' 44 .eql (.t 43) (i' 8)] [2,3,4,5,6,7,8,22,23,44]) (.cond (.t 44) c5x23 .skip)
def c5x27:AC := .seq (.reg [m' 31 6,aB' 32 .add (i' 97) (.t 31),o' 33 (.cvt .i32 (.t 32)),o' 34 (.i2s (.t 33)),o' 35 (.bin .add (.k (.string ⟨#[99,104,105,112,45]⟩)) (.t 34)),m' 36 7,m' 37 5,o' 38 (.bsl zLI 9 [(0,(i' 0)),(1,(i' 0)),(2,(i' 9)),(3,(i' 4)),(4,(i' 2)),(5,(i' 3)),(6,(i' 32)),(7,(i' 8)),(8,(i' 4))]),m' 39 7,aX' 40 1 38 39,aL' 41 40,o' 42 (.build zLC [(0,1,(.t 35)),(1,1,(.t 36)),(2,1,(.t 37)),(3,1,(.t 41))]),o' 8 (.zero zLC),aS' 5 8 42] [2,3,4,5,6,7,8,22,23]) (.seq c5x25 (.seq c5x10 c5x7))
def c5x28:AC := .seq (.reg [o' 26 (.bsl zLI 8 [(0,(i' 3)),(1,(i' 5)),(2,(i' 4)),(3,(i' 6)),(4,(i' 7)),(5,(i' 8)),(6,(i' 2)),(7,(i' 3))]),m' 27 3,aC' 28 17 [.t 27,i' 8],aX' 29 1 26 28,aL' 30 29,m' 7 30] [2,3,4,5,6,7,22,23]) c5x27
def c5x29:AC := .seq (.reg [m' 25 23,m' 6 25] [2,3,4,5,6,22,23]) c5x28
def c5x34:AC := .seq (.reg [aB' 24 .lss (.t 23) (.t 22)] [2,3,4,5,22,23,24]) (.seq (.cond (.t 24) .skip (.exit 0)) (.seq (.block 1 c5x29) c5x2))
def c5x37:AC := .seq (.reg [m' 21 3,aC' 22 17 [.t 21,i' 5],aV' 23 0] [2,3,4,5,22,23]) (.block 0 (.loop c5x34))
def c5x40:AC := .seq (.reg [aF' 15 6 4,aL' 16 15,o' 17 (.build zLC [(0,1,(.k (.string ⟨#[114,97,109]⟩))),(1,1,(i' 0)),(3,1,(i' 768))]),o' 18 (.bsl zLC 1 [(0,(.t 17))]),o' 19 (.app 5 64 (.t 16) (.t 18)),aF' 20 6 4,aS' 1 20 19] [2,3,4]) (.seq (.reg [aV' 5 57344] [2,3,4,5]) (.seq c5x37 c5x1))
def c5x41:AC := .seq (.reg [aC' 13 16 [],o' 14 (.build zLB [(0,1,(.k (.string ⟨#[98,111,97,114,100]⟩))),(1,5,(.t 13))]),o' 4 (.zero zLB),aS' 8 4 14] [2,3,4]) c5x40
def c5x42:AC := .seq (.reg [m' 10 0,o' 11 (.build [(.slice none 0 0)] [(0,1,(.t 10))]),o' 12 (.new 1 (.t 11)),m' 3 12] [2,3]) c5x41
def c5:AC := .seq (.reg [o' 2 (.zero zLB)] [0,2]) c5x42
theorem k5:KQ Tryz.prog Tryz.f5 c5 [.cell (some 8) 2] := ⟨by kernel_rfl,by kernel_rfl⟩
theorem e5:enters Tryz.prog 5 = true := by kernel_rfl
def c6x1:AC := .reg [m' 10 0,m' 11 1,aB' 12 .add (.t 10) (.t 11),m' 0 12] [0]
def c6x3:AC := .seq (.reg [m' 8 0,aB' 9 .lss (.t 8) (i' 0)] [0,1,9]) (.cond (.t 9) c6x1 .skip)
def c6x4:AC := .seq (.reg [m' 5 0,m' 6 1,aB' 7 .rem (.t 5) (.t 6),m' 0 7] [0,1]) c6x3
def c6:AC := .seq (.reg [aV' 4 0] [0,1]) (.seq c6x4 (.seq (.reg [m' 13 0,m' 4 13] [4]) .ret))
theorem k6:KQ Tryz.prog Tryz.f6 c6 [.t 4] := ⟨by kernel_rfl,by kernel_rfl⟩
theorem e6:enters Tryz.prog 6 = true := by kernel_rfl
def c9x1:AC := .reg [m' 45 6,m' 46 7,m' 47 8,m' 48 5,aC' 49 17 [.t 48,i' 256],o' 50 (.build [(.int .i64 0),(.string ⟨#[]⟩),(.int .i64 0)] [(0,1,(.t 46)),(1,1,(.t 47)),(2,1,(.t 49))]),o' 51 (.bsl [(.int .i64 0),(.string ⟨#[]⟩),(.int .i64 0)] 1 [(0,(.t 50))]),o' 52 (.app 3 32 (.t 45) (.t 51)),m' 6 52] [2,5,6,7]
def c9x2:AC := .reg [aF' 39 6 2,aL' 40 39,m' 41 9,aX' 42 5 40 41,aF' 43 0 42,aL' 44 43,m' 8 44] [2,5,6,7,8]
def c9x4:AC := .seq (.reg [m' 34 9,aF' 35 6 2,aL' 36 35,aT' 37 36,aB' 38 .lss (.t 34) (.t 37)] [2,5,6,7,8,9,38]) (.cond (.t 38) c9x2 .skip)
def c9x5:AC := .seq (.reg [m' 28 5,aF' 29 6 2,aL' 30 29,aT' 31 30,aB' 32 .add (.t 31) (i' 1),aC' 33 17 [.t 28,.t 32],m' 9 33] [2,5,6,7,8,9]) c9x4
def c9x7:AC := .seq (.reg [o' 8 (.mv (.k (.string ⟨#[99,112,117]⟩)))] [2,5,6,7,8]) (.seq c9x5 c9x1)
def c9x8:AC := .seq (.reg [m' 24 7,m' 25 5,aC' 26 17 [.t 25,i' 90],aB' 27 .add (.t 24) (.t 26),m' 7 27] [2,5,6,7]) c9x7
def c9x11:AC := .seq (.reg [m' 13 5,aN' 14 13,aF' 15 0 14,aL' 16 15,aT' 17 16,aB' 18 .gtr (.t 17) (i' 0),m' 19 18,aG' 20 19 6,gT' 21 19 (.len (.t 20)),gT' 22 19 (.bin .lss (.t 21) (i' 40)),o' 23 (.pick (.t 19) (.t 22) kF')] [2,5,6,7,23]) (.cond (.t 23) .skip (.exit 0))
def c9x17:AC := .seq (.reg [o' 6 (.mv (.k (.slice none 0 0)))] [2,5,6]) (.seq (.reg [aV' 7 0] [2,5,6,7]) (.seq (.block 0 (.loop (.seq c9x11 (.block 1 c9x8)))) (.seq (.reg [m' 53 6,m' 4 53] [4]) .ret)))
def c9x18:AC := .seq (.reg [m' 10 1,o' 11 (.build [(.slice none 0 0)] [(0,1,(.t 10))]),o' 12 (.new 1 (.t 11)),m' 5 12] [2,5]) c9x17
def c9:AC := .seq (.reg [o' 2 (.new 8 (.t 0)),o' 4 (.mv (.k (.slice none 0 0)))] [1,2]) c9x18
theorem k9:KQ Tryz.prog Tryz.f9 c9 [.t 4] := ⟨by kernel_rfl,by kernel_rfl⟩
theorem e9:enters Tryz.prog 9 = true := by kernel_rfl
def c17x0:AC := .seq (.reg [m' 30 5,m' 31 1,aC' 32 6 [.t 30,.t 31],m' 4 32] [4]) .ret
def c17x1:AC := .seq (.reg [m' 22 0,m' 23 0,aN' 24 23,aF' 25 0 24,aL' 26 25,o' 27 (.slc 1 (.t 26) (some (i' 1)) none),aN' 28 22,aF' 29 0 28,aS' 1 29 27] [1,5]) c17x0
def c17x2:AC := .seq (.reg [m' 16 0,aN' 17 16,aF' 18 0 17,aL' 19 18,o' 20 (.idx 1 none (.t 19) (i' 0)),aL' 21 20,m' 5 21] [0,1,5]) c17x1
def c17x5:AC := .seq (.reg [m' 6 1,aB' 7 .lss (.t 6) (i' 1),m' 8 7,gF' 9 8 (.mv (.t 0)),gF' 10 8 (.nilc (.t 9)),gF' 11 8 (.fad 0 (.t 10)),gF' 12 8 (.ld none (.t 11)),gF' 13 8 (.len (.t 12)),gF' 14 8 (.bin .eql (.t 13) (i' 0)),o' 15 (.pick (.t 8) kT' (.t 14))] [0,1,15]) (.cond (.t 15) (.seq (.reg [aV' 4 0] [4]) .ret) .skip)
def c17:AC := .seq (.reg [aV' 4 0] [0,1]) (.seq c17x5 c17x2)
theorem k17:KQ Tryz.prog Tryz.f17 c17 [.t 4] := ⟨by kernel_rfl,by kernel_rfl⟩
theorem e17:enters Tryz.prog 17 = true := by kernel_rfl
def c18x1:AC := .reg [aB' 25 .add (.t 16) (i' 1),m' 16 25] [5,6,15,16]
def c18x2:AC := .reg [m' 19 6,m' 20 7,m' 21 5,aC' 22 17 [.t 21,i' 256],o' 23 (.cvt .u8 (.t 22)),aX' 24 1 19 20,aS' 1 24 23] [5,6,15,16]
def c18x8:AC := .seq (.reg [aB' 17 .lss (.t 16) (.t 15)] [5,6,15,16,17]) (.seq (.cond (.t 17) .skip (.exit 0)) (.seq (.block 1 (.seq (.reg [m' 18 16,m' 7 18] [5,6,7,15,16]) c18x2)) c18x1))
def c18x11:AC := .seq (.reg [m' 14 6,aT' 15 14,aV' 16 0] [5,6,15,16]) (.block 0 (.loop c18x8))
def c18x13:AC := .seq (.reg [m' 11 1,o' 12 (.mnx true [i' 0,.t 11]),o' 13 (.mksl [(.int .u8 0)] 1 (.t 12) (.t 12)),m' 6 13] [5,6]) (.seq c18x11 (.seq (.reg [m' 26 6,m' 4 26] [4]) .ret))
def c18x14:AC := .seq (.reg [m' 8 0,o' 9 (.build [(.slice none 0 0)] [(0,1,(.t 8))]),o' 10 (.new 1 (.t 9)),m' 5 10] [1,5]) c18x13
def c18:AC := .seq (.reg [o' 4 (.mv (.k (.slice none 0 0)))] [0,1]) c18x14
theorem k18:KQ Tryz.prog Tryz.f18 c18 [.t 4] := ⟨by kernel_rfl,by kernel_rfl⟩
theorem e18:enters Tryz.prog 18 = true := by kernel_rfl
def c19x1:AC := .seq (.reg [m' 65 4,m' 66 4,o' 67 (.idx 1 none (.t 65) (i' 252)),n' (.st 1 (.t 67) (.k (.int .u8 0))),o' 68 (.idx 1 none (.t 66) (i' 253)),n' (.st 1 (.t 68) (.k (.int .u8 255)))] [4]) (.seq (.reg [m' 69 4,m' 2 69] [2]) .ret)
def c19x2:AC := .reg [aB' 64 .add (.t 53) (i' 1),m' 53 64] [4,51,52,53]
def c19x3:AC := .reg [m' 57 4,m' 58 9,m' 59 4,m' 60 9,aB' 61 .add (.t 60) (i' 1),aX' 62 1 57 58,n' (.st 1 (.t 62) (.k (.int .u8 180))),aX' 63 1 59 61,n' (.st 1 (.t 63) (.k (.int .u8 255)))] [4,51,52,53]
def c19x4:AC := .seq (.reg [aX' 55 1 51 53,aL' 56 55,m' 9 56] [4,9,51,52,53]) c19x3
def c19x9:AC := .seq (.reg [aB' 54 .lss (.t 53) (.t 52)] [4,51,52,53,54]) (.seq (.cond (.t 54) .skip (.exit 0)) (.seq (.block 1 c19x4) c19x2))
def c19x12:AC := .seq (.reg [o' 51 (.bsl zLI 2 [(0,(i' 250)),(1,(i' 254))]),aT' 52 51,aV' 53 0] [4,51,52,53]) (.block 0 (.loop c19x9))
def c19x14:AC := .seq (.reg [m' 47 4,o' 48 (.slc 1 (.t 47) (some (i' 180)) none),m' 49 7,o' 50 (.copy 1 (.t 48) (.t 49))] [4]) (.seq c19x12 c19x1)
def c19x15:AC := .seq (.reg [o' 38 (.call 42 [(.k (.string ⟨#[112,104,112]⟩))]),o' 39 (.call 42 [(.k (.string ⟨#[112,104,97]⟩))]),o' 40 (.call 43 [(.k (.string ⟨#[105,110,99]⟩)),(i' 2)]),o' 41 (.call 43 [(.k (.string ⟨#[108,100,97]⟩)),(i' 4)]),o' 42 (.call 43 [(.k (.string ⟨#[108,100,97]⟩)),(i' 4)]),o' 43 (.call 42 [(.k (.string ⟨#[112,108,97]⟩))]),o' 44 (.call 42 [(.k (.string ⟨#[112,108,112]⟩))]),o' 45 (.call 42 [(.k (.string ⟨#[114,116,105]⟩))]),o' 46 (.bsl [(.int .u8 0)] 13 [(0,(.t 38)),(1,(.t 39)),(2,(.t 40)),(3,(.k (.int .u8 9))),(4,(.t 41)),(5,(.k (.int .u8 3))),(6,(.k (.int .u8 224))),(7,(.t 42)),(8,(.k (.int .u8 16))),(9,(.k (.int .u8 224))),(10,(.t 43)),(11,(.t 44)),(12,(.t 45))]),m' 7 46] [4,7]) c19x14
def c19x16:AC := .seq (.reg [m' 26 4,m' 27 6,m' 28 4,m' 29 6,aB' 30 .add (.t 29) (i' 1),m' 31 4,m' 32 6,aB' 33 .add (.t 32) (i' 2),o' 34 (.call 42 [(.k (.string ⟨#[106,109,112]⟩))]),aX' 35 1 26 27,aS' 1 35 34,aX' 36 1 28 30,n' (.st 1 (.t 36) (.k (.int .u8 0))),aX' 37 1 31 33,n' (.st 1 (.t 37) (.k (.int .u8 255)))] [4]) c19x15
def c19x17:AC := .seq (.reg [m' 23 4,m' 24 5,o' 25 (.copy 1 (.t 23) (.t 24)),m' 6 25] [4,6]) c19x16
def c19x18:AC := .reg [o' 19 (.call 42 [(.k (.string ⟨#[99,108,105]⟩))]),o' 20 (.bsl [(.int .u8 0)] 1 [(0,(.t 19))]),m' 21 5,o' 22 (.app 1 1 (.t 20) (.t 21)),m' 5 22] [4,5]
def c19x20:AC := .seq (.reg [m' 16 3,aC' 17 17 [.t 16,i' 3],aB' 18 .gtr (.t 17) (i' 0)] [4,5,18]) (.cond (.t 18) c19x18 .skip)
def c19x22:AC := .seq (.reg [m' 14 3,aC' 15 41 [.t 14,i' 160],m' 5 15] [3,4,5]) (.seq c19x20 c19x17)
def c19x23:AC := .seq (.reg [o' 13 (.mksl [(.int .u8 0)] 1 (i' 256) (i' 256)),m' 4 13] [3,4]) c19x22
def c19x24:AC := .seq (.reg [m' 10 0,o' 11 (.build [(.slice none 0 0)] [(0,1,(.t 10))]),o' 12 (.new 1 (.t 11)),m' 3 12] [3]) c19x23
def c19:AC := .seq (.reg [o' 2 (.mv (.k (.slice none 0 0)))] [0]) c19x24
theorem k19:KQ Tryz.prog Tryz.f19 c19 [.t 2] := ⟨by kernel_rfl,by kernel_rfl⟩
theorem e19:enters Tryz.prog 19 = true := by kernel_rfl
def c41x1:AC := .reg [m' 46 6,m' 47 8,o' 48 (.app 1 1 (.t 46) (.t 47)),m' 6 48] [0,1,5,6]
def c41x3:AC := .seq (.reg [m' 39 6,aT' 40 39,m' 41 8,aT' 42 41,aB' 43 .add (.t 40) (.t 42),m' 44 1,aB' 45 .gtr (.t 43) (.t 44)] [0,1,5,6,8,45]) (.cond (.t 45) (.exit 0) .skip)
def c41x5:AC := .seq (.dreg [aF' 31 0 7,aL' 32 31,o' 33 (.cvt .u8 (.t 32)),o' 34 (.bsl [(.int .u8 0)] 1 [(0,(.t 33))]),m' 35 0,aM' 36 4 7,aC' 37 93 [.t 35,.t 36],o' 38 (.app 1 1 (.t 34) (.t 37)),m' 8 38] (bf [[],[0,1],[0,2],[0,3],[],[],[4,6],[0,7],[0,8]]) [0,1,5,6,8]) (.seq c41x3 c41x1)
def c41x6:AC := .seq (.dreg [aF' 22 1 5,aL' 23 22,m' 24 0,aF' 25 1 5,aL' 26 25,aT' 27 26,aC' 28 17 [.t 24,.t 27],aX' 29 4 23 28,aM' 30 4 29,o' 7 (.zero [(.int .i64 0),(.string ⟨#[]⟩),(.int .i64 0),(.slice none 0 0)]),aS' 4 7 30] (bf [[],[0,1],[],[],[3,4],[3,5],[2,6],[0,7],[0,8],[],[0,10]]) [0,1,5,6,7]) c41x5
def c41x9:AC := .seq (.reg [m' 10 0,aN' 11 10,aF' 12 0 11,aL' 13 12,aT' 14 13,aB' 15 .gtr (.t 14) (i' 0),m' 16 15,gT' 17 16 (.fad 1 (.t 5)),gT' 18 16 (.ld none (.t 17)),gT' 19 16 (.len (.t 18)),gT' 20 16 (.bin .gtr (.t 19) (i' 0)),o' 21 (.pick (.t 16) (.t 20) kF')] [0,1,5,6,21]) (.cond (.t 21) .skip (.exit 0))
def c41x14:AC := .seq (.reg [o' 6 (.mv (.k (.slice none 0 0)))] [0,1,5,6]) (.seq (.block 0 (.loop (.seq c41x9 (.block 1 c41x6)))) (.seq (.reg [m' 49 6,m' 4 49] [4]) .ret))
def c41x15:AC := .seq (.reg [aC' 9 16 [],o' 5 (.zero [(.string ⟨#[]⟩),(.slice none 0 0),(.slice none 0 0),(.slice none 0 0),(.slice none 0 0)]),aS' 5 5 9] [0,1,5]) c41x14
def c41:AC := .seq (.reg [o' 4 (.mv (.k (.slice none 0 0)))] [0,1]) c41x15
theorem k41:KQ Tryz.prog Tryz.f41 c41 [.t 4] := ⟨by kernel_rfl,by kernel_rfl⟩
theorem e41:enters Tryz.prog 41 = true := by kernel_rfl
def c42x0:AC := .seq (.reg [m' 3 0,aC' 4 43 [.t 3,i' 0],m' 5 0,aC' 6 43 [.t 5,i' 4],o' 7 (.mnx true [.t 4,.t 6]),m' 2 7] [2]) .ret
def c42:AC := .seq (.reg [o' 2 (.mv (.k (.int .u8 0)))] [0]) c42x0
theorem k42:KQ Tryz.prog Tryz.f42 c42 [.t 2] := ⟨by kernel_rfl,by kernel_rfl⟩
theorem e42:enters Tryz.prog 42 = true := by kernel_rfl
def c43x1:AC := .reg [aB' 27 .add (.t 10) (i' 1),m' 10 27] [0,1,8,9,10]
def c43x2:AC := .seq (.reg [aF' 24 0 6,aL' 25 24,o' 26 (.cvt .u8 (.t 25)),m' 4 26] [4]) .ret
def c43x4:AC := .seq (.reg [aF' 14 1 6,aL' 15 14,m' 16 0,aB' 17 .eql (.t 15) (.t 16),m' 18 17,gT' 19 18 (.fad 2 (.t 6)),gT' 20 18 (.ld none (.t 19)),aG' 21 18 1,gT' 22 18 (.bin .eql (.t 20) (.t 21)),o' 23 (.pick (.t 18) (.t 22) kF')] [0,1,6,8,9,10,23]) (.cond (.t 23) c43x2 .skip)
def c43x5:AC := .seq (.reg [aX' 12 4 8 10,aM' 13 4 12,o' 6 (.zero [(.int .i64 0),(.string ⟨#[]⟩),(.int .i64 0),(.slice none 0 0)]),aS' 4 6 13] [0,1,6,8,9,10]) c43x4
def c43x10:AC := .seq (.reg [aB' 11 .lss (.t 10) (.t 9)] [0,1,8,9,10,11]) (.seq (.cond (.t 11) .skip (.exit 0)) (.seq (.block 1 c43x5) c43x1))
def c43x13:AC := .seq (.reg [aC' 7 16 [],o' 8 (.fld 1 none (.t 7)),aT' 9 8,aV' 10 0] [0,1,8,9,10]) (.block 0 (.loop c43x10))
def c43:AC := .seq (.reg [o' 4 (.mv (.k (.int .u8 0)))] [0,1]) (.seq c43x13 (.seq (.reg [o' 4 (.mv (.k (.int .u8 0)))] [4]) .ret))
theorem k43:KQ Tryz.prog Tryz.f43 c43 [.t 4] := ⟨by kernel_rfl,by kernel_rfl⟩
theorem e43:enters Tryz.prog 43 = true := by kernel_rfl
def c93x1:AC := .seq (.reg [m' 10 0,aC' 11 17 [.t 10,i' 256],o' 12 (.cvt .u8 (.t 11)),o' 13 (.bsl [(.int .u8 0)] 1 [(0,(.t 12))]),m' 4 13] [4]) .ret
def c93x2:AC := .seq (.reg [m' 18 0,aC' 19 17 [.t 18,i' 16],o' 20 (.cvt .u8 (.t 19)),o' 21 (.bsl [(.int .u8 0)] 1 [(0,(.t 20))]),m' 4 21] [4]) .ret
def c93x3:AC := .seq (.reg [m' 24 0,aC' 25 17 [.t 24,i' 8],aB' 26 .sub (.t 25) (i' 3),o' 27 (.cvt .u8 (.t 26)),o' 28 (.bsl [(.int .u8 0)] 1 [(0,(.t 27))]),m' 4 28] [4]) .ret
def c93x4:AC := .seq (.reg [m' 53 5,o' 54 (.cvt .u8 (.t 53)),m' 55 5,aB' 56 .shr (.t 55) (.k (.int .u64 8)),o' 57 (.cvt .u8 (.t 56)),o' 58 (.bsl [(.int .u8 0)] 2 [(0,(.t 54)),(1,(.t 57))]),m' 4 58] [4]) .ret
def c93x5:AC := .reg [m' 44 0,aC' 45 17 [.t 44,i' 64],aB' 46 .add (i' 65280) (.t 45),m' 5 46] [5]
def c93x6:AC := .reg [m' 50 0,aC' 51 17 [.t 50,i' 64],aB' 52 .add (i' 512) (.t 51),m' 5 52] [5]
def c93x8:AC := .seq (.reg [m' 47 0,aC' 48 17 [.t 47,i' 3],aB' 49 .eql (.t 48) (i' 0)] [0,5,49]) (.cond (.t 49) c93x6 .skip)
def c93x10:AC := .seq (.reg [aF' 36 1 3,aL' 37 36,o' 38 (.bin .eql (.t 37) (.k (.string ⟨#[106,109,112]⟩))),m' 39 38,gF' 40 39 (.fad 1 (.t 3)),gF' 41 39 (.ld none (.t 40)),gF' 42 39 (.bin .eql (.t 41) (.k (.string ⟨#[106,115,114]⟩))),o' 43 (.pick (.t 39) kT' (.t 42))] [0,5,43]) (.cond (.t 43) c93x5 c93x8)
def c93x12:AC := .seq (.reg [m' 33 0,aC' 34 17 [.t 33,i' 48],aB' 35 .add (i' 57344) (.t 34),m' 5 35] [0,3,5]) (.seq c93x10 c93x4)
def c93x16:AC := .seq (.reg [aB' 31 .eql (.t 7) (i' 5),m' 29 31] [0,3,7,29]) (.cond (.t 29) .skip (.reg [aB' 32 .eql (.t 7) (i' 6),m' 29 32] [0,3,29]))
def c93x18:AC := .seq (.reg [aB' 30 .eql (.t 7) (i' 4),m' 29 30] [0,3,7,29]) (.cond (.t 29) .skip c93x16)
def c93x21:AC := .seq (.reg [aB' 23 .eql (.t 7) (i' 7),m' 22 23] [0,3,7,22]) (.cond (.t 22) c93x3 (.seq c93x18 (.cond (.t 29) c93x12 .skip)))
def c93x23:AC := .reg [aB' 17 .eql (.t 7) (i' 8),m' 14 17] [0,3,7,14]
def c93x25:AC := .seq (.reg [aB' 16 .eql (.t 7) (i' 3),m' 14 16] [0,3,7,14]) (.cond (.t 14) .skip c93x23)
def c93x27:AC := .seq (.reg [aB' 15 .eql (.t 7) (i' 2),m' 14 15] [0,3,7,14]) (.cond (.t 14) .skip c93x25)
def c93x30:AC := .seq (.reg [aB' 9 .eql (.t 7) (i' 1),m' 8 9] [0,3,7,8]) (.cond (.t 8) c93x1 (.seq c93x27 (.cond (.t 14) c93x2 c93x21)))
def c93x32:AC := .seq (.reg [aF' 6 2 3,aL' 7 6] [0,3,7]) (.block 0 c93x30)
def c93:AC := .seq (.reg [o' 3 (.new 4 (.t 1)),o' 4 (.mv (.k (.slice none 0 0)))] [0,3]) (.seq c93x32 (.seq (.reg [o' 4 (.mv (.k (.slice none 0 0)))] [4]) .ret))
theorem k93:KQ Tryz.prog Tryz.f93 c93 [.t 4] := ⟨by kernel_rfl,by kernel_rfl⟩
theorem e93:enters Tryz.prog 93 = true := by kernel_rfl
def c44x1:AC := .reg [aB' 48 .add (.t 25) (i' 1),m' 25 48] [23,24,25]
def c44x4:AC := .seq (.reg [m' 29 4,aB' 30 .geq (.t 29) (.k (.int .u8 97)),m' 31 30,aG' 32 31 4,gT' 33 31 (.bin .leq (.t 32) (.k (.int .u8 122))),o' 34 (.pick (.t 31) (.t 33) kF'),m' 35 34,gF' 36 35 (.mv (.t 4)),gF' 37 35 (.bin .geq (.t 36) (.k (.int .u8 48))),gF' 38 35 (.mv (.t 37)),aG' 39 38 4,gT' 40 38 (.bin .leq (.t 39) (.k (.int .u8 57))),gF' 41 35 (.pick (.t 38) (.t 40) kF'),o' 42 (.pick (.t 35) kT' (.t 41)),m' 43 42,gF' 44 43 (.mv (.t 4)),gF' 45 43 (.bin .eql (.t 44) (.k (.int .u8 45))),o' 46 (.pick (.t 43) kT' (.t 45)),o' 47 (.not (.t 46))] [23,24,25,47]) (.cond (.t 47) (.seq (.reg [o' 2 (.mv kF')] [2]) .ret) .skip)
def c44x5:AC := .seq (.reg [aX' 27 1 23 25,aL' 28 27,m' 4 28] [4,23,24,25]) c44x4
def c44x10:AC := .seq (.reg [aB' 26 .lss (.t 25) (.t 24)] [23,24,25,26]) (.seq (.cond (.t 26) .skip (.exit 0)) (.seq (.block 1 c44x5) c44x1))
def c44x13:AC := .seq (.reg [m' 22 0,o' 23 (.s2b (.t 22)),aT' 24 23,aV' 25 0] [23,24,25]) (.block 0 (.loop c44x10))
def c44x17:AC := .seq (.reg [m' 5 0,o' 6 (.bin .eql (.t 5) (.k (.string ⟨#[]⟩))),m' 7 6,gF' 8 7 (.mv (.t 0)),gF' 9 7 (.lens (.t 8)),gF' 10 7 (.bin .gtr (.t 9) (i' 20)),o' 11 (.pick (.t 7) kT' (.t 10)),m' 12 11,gF' 13 12 (.mv (.t 0)),gF' 14 12 (.ixs (.t 13) (i' 0)),gF' 15 12 (.bin .lss (.t 14) (.k (.int .u8 97))),o' 16 (.pick (.t 12) kT' (.t 15)),m' 17 16,gF' 18 17 (.mv (.t 0)),gF' 19 17 (.ixs (.t 18) (i' 0)),gF' 20 17 (.bin .gtr (.t 19) (.k (.int .u8 122))),o' 21 (.pick (.t 17) kT' (.t 20))] [0,21]) (.cond (.t 21) (.seq (.reg [o' 2 (.mv kF')] [2]) .ret) .skip)
def c44:AC := .seq (.reg [o' 2 (.mv kF')] [0]) (.seq c44x17 (.seq c44x13 (.seq (.reg [o' 2 (.mv kT')] [2]) .ret)))
theorem k44:KQ Tryz.prog Tryz.f44 c44 [.t 2] := ⟨by kernel_rfl,by kernel_rfl⟩
theorem e44:enters Tryz.prog 44 = true := by kernel_rfl
def c45x1:AC := .reg [aB' 99 .add (.t 90) (i' 1),m' 90 99] [88,89,90]
def c45x4:AC := .seq (.reg [m' 96 8,aB' 97 .neq (.t 96) (i' 0)] [8,88,89,90,97]) (.cond (.t 97) (.seq (.reg [m' 98 8,m' 2 98] [2]) .ret) .skip)
def c45x5:AC := .seq (.reg [m' 94 7,aC' 95 97 [.t 94],m' 8 95] [8,88,89,90]) c45x4
def c45x6:AC := .seq (.reg [aX' 92 1 88 90,aL' 93 92,m' 7 93] [7,88,89,90]) c45x5
def c45x11:AC := .seq (.reg [aB' 91 .lss (.t 90) (.t 89)] [88,89,90,91]) (.seq (.cond (.t 91) .skip (.exit 4)) (.seq (.block 5 c45x6) c45x1))
def c45x14:AC := .seq (.reg [aF' 82 2 1,aL' 83 82,aF' 84 3 1,aL' 85 84,aF' 86 4 1,aL' 87 86,o' 88 (.bsl [(.slice none 0 0)] 3 [(0,(.t 83)),(1,(.t 85)),(2,(.t 87))]),aT' 89 88,aV' 90 0] [88,89,90]) (.block 4 (.loop c45x11))
def c45x16:AC := .reg [aB' 81 .add (.t 22) (i' 1),m' 22 81] [1,20,21,22]
def c45x19:AC := .seq (.dreg [aF' 74 3 4,aL' 75 74,aC' 76 98 [.t 75],aF' 77 2 4,aL' 78 77,aC' 79 94 [.t 78],aB' 80 .neq (.t 76) (.t 79)] (bf [[],[0,1],[0,2],[],[3,4],[0,5],[0,6]]) [1,20,21,22,80]) (.cond (.t 80) (.seq (.reg [aV' 2 3] [2]) .ret) .skip)
def c45x22:AC := .seq (.reg [m' 71 5,aB' 72 .neq (.t 71) (i' 0)] [1,4,5,20,21,22,72]) (.cond (.t 72) (.seq (.reg [m' 73 5,m' 2 73] [2]) .ret) .skip)
def c45x23:AC := .seq (.reg [aF' 68 3 4,aL' 69 68,aC' 70 97 [.t 69],m' 5 70] [1,4,5,20,21,22]) c45x22
def c45x31:AC := .seq (.reg [aF' 62 1 1,aL' 63 62,m' 64 3,o' 65 (.slc 4 (.t 63) none (some (.t 64))),o' 66 (.mkf 96 [.t 4]),aC' 67 95 [.t 65,.t 66],m' 61 67] [1,4,20,21,22,61]) (.cond (.t 61) (.seq (.reg [aV' 2 5] [2]) .ret) .skip)
def c45x33:AC := .seq (.reg [aF' 57 2 4,aL' 58 57,aC' 59 94 [.t 58],aB' 60 .lss (.t 59) (i' 0),m' 56 60] [1,3,4,20,21,22,56]) (.cond (.t 56) (.seq (.reg [aV' 2 8] [2]) .ret) c45x31)
def c45x35:AC := .seq (.reg [aF' 52 1 4,aL' 53 52,aC' 54 44 [.t 53],o' 55 (.not (.t 54)),m' 51 55] [1,3,4,20,21,22,51]) (.cond (.t 51) (.seq (.reg [aV' 2 15] [2]) .ret) c45x33)
def c45x37:AC := .seq (.dreg [m' 37 3,aB' 38 .gtr (.t 37) (i' 0),m' 39 38,gT' 40 39 (.fad 0 (.t 4)),gT' 41 39 (.ld none (.t 40)),gT' 42 39 (.fad 1 (.t 1)),gT' 43 39 (.ld none (.t 42)),aG' 44 39 3,gT' 45 39 (.bin .sub (.t 44) (i' 1)),gT' 46 39 (.idx 4 none (.t 43) (.t 45)),gT' 47 39 (.fad 0 (.t 46)),gT' 48 39 (.ld none (.t 47)),gT' 49 39 (.bin .leq (.t 41) (.t 48)),o' 50 (.pick (.t 39) (.t 49) kF'),m' 36 50] (bf [[],[0,1],[0,2],[0,3],[0,4],[0,3],[0,3,5,6],[0,3],[0,3,7,8],[0,3,5,9],[0,3,5,10],[0,3,5,11],[0,12],[0,13],[0,14]]) [1,3,4,20,21,22,36]) (.cond (.t 36) (.seq (.reg [aV' 2 9] [2]) .ret) c45x35)
def c45x39:AC := .seq (.reg [aF' 28 0 4,aL' 29 28,aB' 30 .lss (.t 29) (i' 0),m' 31 30,gF' 32 31 (.fad 0 (.t 4)),gF' 33 31 (.ld none (.t 32)),gF' 34 31 (.bin .gtr (.t 33) (i' 255)),o' 35 (.pick (.t 31) kT' (.t 34)),m' 27 35] [1,3,4,20,21,22,27]) (.cond (.t 27) (.seq (.reg [aV' 2 1] [2]) .ret) c45x37)
def c45x42:AC := .seq (.reg [m' 24 22,aX' 25 4 20 22,aM' 26 4 25,o' 4 (.zero [(.int .i64 0),(.string ⟨#[]⟩),(.int .i64 0),(.slice none 0 0)]),m' 3 24,aS' 4 4 26] [1,3,4,20,21,22]) (.seq (.block 3 c45x39) (.seq c45x23 c45x19))
def c45x47:AC := .seq (.reg [aB' 23 .lss (.t 22) (.t 21)] [1,20,21,22,23]) (.seq (.cond (.t 23) .skip (.exit 1)) (.seq (.block 2 c45x42) c45x16))
def c45x50:AC := .seq (.reg [aF' 19 1 1,aL' 20 19,aT' 21 20,aV' 22 0] [1,20,21,22]) (.block 1 (.loop c45x47))
def c45x55:AC := .seq (.reg [aF' 15 1 1,aL' 16 15,aT' 17 16,aB' 18 .gtr (.t 17) (i' 256),m' 14 18] [1,14]) (.cond (.t 14) (.seq (.reg [aV' 2 2] [2]) .ret) .skip)
def c45x57:AC := .seq (.reg [aF' 10 0 1,aL' 11 10,aC' 12 44 [.t 11],o' 13 (.not (.t 12)),m' 9 13] [1,9]) (.cond (.t 9) (.seq (.reg [aV' 2 15] [2]) .ret) c45x55)
def c45:AC := .seq (.reg [o' 1 (.new 5 (.t 0)),aV' 2 0] [1]) (.seq (.block 0 c45x57) (.seq c45x50 (.seq c45x14 (.seq (.reg [aV' 2 0] [2]) .ret))))
theorem k45:KQ Tryz.prog Tryz.f45 c45 [.t 2] := ⟨by kernel_rfl,by kernel_rfl⟩
theorem e45:enters Tryz.prog 45 = true := by kernel_rfl
def c94x7:AC := .seq (.reg [aB' 14 .eql (.t 3) (i' 7),m' 10 14] [3,10]) (.cond (.t 10) .skip (.reg [aB' 15 .eql (.t 3) (i' 8),m' 10 15] [10]))
def c94x9:AC := .seq (.reg [aB' 13 .eql (.t 3) (i' 3),m' 10 13] [3,10]) (.cond (.t 10) .skip c94x7)
def c94x11:AC := .seq (.reg [aB' 12 .eql (.t 3) (i' 2),m' 10 12] [3,10]) (.cond (.t 10) .skip c94x9)
def c94x13:AC := .seq (.reg [aB' 11 .eql (.t 3) (i' 1),m' 10 11] [3,10]) (.cond (.t 10) .skip c94x11)
def c94x18:AC := .seq (.reg [aB' 8 .eql (.t 3) (i' 5),m' 6 8] [3,6]) (.cond (.t 6) .skip (.reg [aB' 9 .eql (.t 3) (i' 6),m' 6 9] [3,6]))
def c94x20:AC := .seq (.reg [aB' 7 .eql (.t 3) (i' 4),m' 6 7] [3,6]) (.cond (.t 6) .skip c94x18)
def c94x23:AC := .seq (.reg [aB' 5 .eql (.t 3) (i' 0),m' 4 5] [3,4]) (.cond (.t 4) (.seq (.reg [aV' 2 0] [2]) .ret) (.seq c94x20 (.cond (.t 6) (.seq (.reg [aV' 2 2] [2]) .ret) (.seq c94x13 (.cond (.t 10) (.seq (.reg [aV' 2 1] [2]) .ret) .skip)))))
def c94:AC := .seq (.reg [aV' 2 0] [0]) (.seq (.seq (.reg [m' 3 0] [3]) (.block 0 c94x23)) (.seq (.reg [o' 2 (.mv (.k (.int .i64 (-1))))] [2]) .ret))
theorem k94:KQ Tryz.prog Tryz.f94 c94 [.t 2] := ⟨by kernel_rfl,by kernel_rfl⟩
theorem e94:enters Tryz.prog 94 = true := by kernel_rfl
def c96x0:AC := .seq (.reg [aF' 4 1 2,aL' 5 4,aF' 6 1 1,aL' 7 6,aB' 8 .eql (.t 5) (.t 7),m' 9 8,gT' 10 9 (.fad 2 (.t 2)),gT' 11 9 (.ld none (.t 10)),gT' 12 9 (.fad 2 (.t 1)),gT' 13 9 (.ld none (.t 12)),gT' 14 9 (.bin .eql (.t 11) (.t 13)),o' 15 (.pick (.t 9) (.t 14) kF'),m' 3 15] [3]) .ret
def c96:AC := .seq (.reg [o' 2 (.new 4 (.t 0)),o' 3 (.mv kF')] [1,2]) c96x0
theorem k96:KQ Tryz.prog Tryz.f96 c96 [.t 3] := ⟨by kernel_rfl,by kernel_rfl⟩
theorem e96:enters Tryz.prog 96 = true := by kernel_rfl
def c97x1:AC := .reg [aB' 20 .add (.t 11) (i' 1),m' 11 20] [9,10,11]
def c97x4:AC := .seq (.reg [m' 17 5,aB' 18 .neq (.t 17) (i' 0)] [5,9,10,11,18]) (.cond (.t 18) (.seq (.reg [m' 19 5,m' 2 19] [2]) .ret) .skip)
def c97x5:AC := .seq (.reg [aM' 15 4 4,aC' 16 144 [.t 15],m' 5 16] [5,9,10,11]) c97x4
def c97x6:AC := .seq (.reg [aX' 13 4 9 11,aM' 14 4 13,o' 4 (.zero [(.int .i64 0),(.int .i64 0),(.int .i64 0),(.slice none 0 0)]),aS' 4 4 14] [4,9,10,11]) c97x5
def c97x11:AC := .seq (.reg [aB' 12 .lss (.t 11) (.t 10)] [9,10,11,12]) (.seq (.cond (.t 12) .skip (.exit 0)) (.seq (.block 1 c97x6) c97x1))
def c97x14:AC := .seq (.reg [m' 9 0,aT' 10 9,aV' 11 0] [9,10,11]) (.block 0 (.loop c97x11))
def c97x18:AC := .seq (.reg [m' 6 0,aT' 7 6,aB' 8 .gtr (.t 7) (i' 8)] [0,8]) (.cond (.t 8) (.seq (.reg [aV' 2 2] [2]) .ret) .skip)
def c97:AC := .seq (.reg [aV' 2 0] [0]) (.seq c97x18 (.seq c97x14 (.seq (.reg [aV' 2 0] [2]) .ret)))
theorem k97:KQ Tryz.prog Tryz.f97 c97 [.t 2] := ⟨by kernel_rfl,by kernel_rfl⟩
theorem e97:enters Tryz.prog 97 = true := by kernel_rfl
def c98x2:AC := .reg [m' 20 3,aB' 21 .add (.t 20) (i' 1),m' 3 21] [3,6,7,8]
def c98x4:AC := .seq (.reg [aF' 12 0 5,aL' 13 12,aB' 14 .eql (.t 13) (i' 1),m' 15 14,gT' 16 15 (.fad 1 (.t 5)),gT' 17 15 (.ld none (.t 16)),gT' 18 15 (.bin .eql (.t 17) (i' 0)),o' 19 (.pick (.t 15) (.t 18) kF')] [3,6,7,8,19]) (.cond (.t 19) c98x2 .skip)
def c98x5:AC := .seq (.reg [aX' 10 4 6 8,aM' 11 4 10,o' 5 (.zero [(.int .i64 0),(.int .i64 0),(.int .i64 0),(.slice none 0 0)]),aS' 4 5 11] [3,5,6,7,8]) c98x4
def c98x10:AC := .seq (.reg [aB' 9 .lss (.t 8) (.t 7)] [3,6,7,8,9]) (.seq (.cond (.t 9) .skip (.exit 0)) (.seq (.block 1 c98x5) (.reg [aB' 22 .add (.t 8) (i' 1),m' 8 22] [3,6,7,8])))
def c98x13:AC := .seq (.reg [m' 6 0,aT' 7 6,aV' 8 0] [3,6,7,8]) (.block 0 (.loop c98x10))
def c98:AC := .seq (.reg [aV' 2 0] [0]) (.seq (.reg [aV' 3 0] [0,3]) (.seq c98x13 (.seq (.reg [m' 23 3,m' 2 23] [2]) .ret)))
theorem k98:KQ Tryz.prog Tryz.f98 c98 [.t 2] := ⟨by kernel_rfl,by kernel_rfl⟩
theorem e98:enters Tryz.prog 98 = true := by kernel_rfl
def c117x0:AC := .seq (.reg [aF' 14 1 2,aL' 15 14,m' 16 6,aX' 17 4 15 16,aM' 18 4 17,aC' 19 158 [.t 18],aS' 4 4 19,o' 5 (.mv kT')] [4,5]) .ret
def c117x1:AC := .seq (.reg [o' 13 (.build [(.int .i64 0),(.string ⟨#[]⟩),(.int .i64 0),(.slice none 0 0)] []),aS' 4 4 13,o' 5 (.mv kF')] [4,5]) .ret
def c117x3:AC := .seq (.reg [m' 11 6,aB' 12 .lss (.t 11) (i' 0)] [2,4,6,12]) (.cond (.t 12) c117x1 .skip)
def c117x5:AC := .seq (.reg [aF' 7 1 2,aL' 8 7,o' 9 (.mkf 157 [.t 3]),aC' 10 143 [.t 8,.t 9],m' 6 10] [2,4,6]) (.seq c117x3 c117x0)
def c117:AC := .seq (.reg [o' 2 (.new 5 (.t 0)),o' 3 (.new 1 (.t 1)),o' 4 (.zero [(.int .i64 0),(.string ⟨#[]⟩),(.int .i64 0),(.slice none 0 0)]),o' 5 (.mv kF')] [2,3,4]) c117x5
theorem k117:KQ Tryz.prog Tryz.f117 c117 [.cell (some 4) 4,.t 5] := ⟨by kernel_rfl,by kernel_rfl⟩
theorem e117:enters Tryz.prog 117 = true := by kernel_rfl
def c144x1:AC := .reg [aB' 66 .add (.t 57) (i' 1),m' 57 66] [55,56,57]
def c144x4:AC := .seq (.reg [m' 63 5,aB' 64 .neq (.t 63) (i' 0)] [5,55,56,57,64]) (.cond (.t 64) (.seq (.reg [m' 65 5,m' 2 65] [2]) .ret) .skip)
def c144x5:AC := .seq (.reg [aM' 61 4 4,aC' 62 176 [.t 61],m' 5 62] [5,55,56,57]) c144x4
def c144x6:AC := .seq (.reg [aX' 59 4 55 57,aM' 60 4 59,o' 4 (.zero [(.int .i64 0),(.int .i64 0),(.int .i64 0),(.int .i64 0)]),aS' 4 4 60] [4,55,56,57]) c144x5
def c144x11:AC := .seq (.reg [aB' 58 .lss (.t 57) (.t 56)] [55,56,57,58]) (.seq (.cond (.t 58) .skip (.exit 1)) (.seq (.block 2 c144x6) c144x1))
def c144x14:AC := .seq (.reg [aF' 54 3 1,aL' 55 54,aT' 56 55,aV' 57 0] [55,56,57]) (.block 1 (.loop c144x11))
def c144x21:AC := .seq (.reg [aF' 50 3 1,aL' 51 50,aT' 52 51,aB' 53 .gtr (.t 52) (i' 6),m' 49 53] [1,49]) (.cond (.t 49) (.seq (.reg [aV' 2 2] [2]) .ret) .skip)
def c144x23:AC := .seq (.reg [aF' 30 1 1,aL' 31 30,aB' 32 .lss (.t 31) (i' 0),m' 33 32,gF' 34 33 (.fad 1 (.t 1)),gF' 35 33 (.ld none (.t 34)),gF' 36 33 (.bin .geq (.t 35) (i' 12)),o' 37 (.pick (.t 33) kT' (.t 36)),m' 38 37,gF' 39 38 (.fad 2 (.t 1)),gF' 40 38 (.ld none (.t 39)),gF' 41 38 (.call 175 [.t 40]),gF' 42 38 (.not (.t 41)),o' 43 (.pick (.t 38) kT' (.t 42)),m' 44 43,gF' 45 44 (.fad 2 (.t 1)),gF' 46 44 (.ld none (.t 45)),gF' 47 44 (.call 162 [.t 46]),o' 48 (.pick (.t 44) kT' (.t 47)),m' 29 48] [1,29]) (.cond (.t 29) (.seq (.reg [aV' 2 1] [2]) .ret) c144x21)
def c144x25:AC := .seq (.reg [aF' 16 0 1,aL' 17 16,aB' 18 .eql (.t 17) (i' 0),m' 19 18,gT' 20 19 (.fad 1 (.t 1)),gT' 21 19 (.ld none (.t 20)),gT' 22 19 (.bin .neq (.t 21) (i' 0)),aG' 23 19 22,gF' 24 23 (.fad 2 (.t 1)),gF' 25 23 (.ld none (.t 24)),gF' 26 23 (.bin .neq (.t 25) (i' 0)),gT' 27 19 (.pick (.t 23) kT' (.t 26)),o' 28 (.pick (.t 19) (.t 27) kF'),m' 15 28] [1,15]) (.cond (.t 15) (.seq (.reg [aV' 2 3] [2]) .ret) c144x23)
def c144x27:AC := .seq (.reg [aF' 7 0 1,aL' 8 7,aB' 9 .lss (.t 8) (i' 0),m' 10 9,gF' 11 10 (.fad 0 (.t 1)),gF' 12 10 (.ld none (.t 11)),gF' 13 10 (.bin .gtr (.t 12) (i' 2)),o' 14 (.pick (.t 10) kT' (.t 13)),m' 6 14] [1,6]) (.cond (.t 6) (.seq (.reg [aV' 2 8] [2]) .ret) c144x25)
def c144:AC := .seq (.reg [o' 1 (.new 4 (.t 0)),aV' 2 0] [1]) (.seq (.block 0 c144x27) (.seq c144x14 (.seq (.reg [aV' 2 0] [2]) .ret)))
theorem k144:KQ Tryz.prog Tryz.f144 c144 [.t 2] := ⟨by kernel_rfl,by kernel_rfl⟩
theorem e144:enters Tryz.prog 144 = true := by kernel_rfl
def c157x0:AC := .seq (.reg [aF' 4 0 2,aL' 5 4,aL' 6 1,aB' 7 .eql (.t 5) (.t 6),m' 3 7] [3]) .ret
def c157:AC := .seq (.reg [o' 2 (.new 4 (.t 0)),o' 3 (.mv kF')] [1,2]) c157x0
theorem k157:KQ Tryz.prog Tryz.f157 c157 [.t 3] := ⟨by kernel_rfl,by kernel_rfl⟩
theorem e157:enters Tryz.prog 157 = true := by kernel_rfl
def c158x0:AC := .seq (.reg [aM' 7 4 1,aS' 4 2 7] [2]) .ret
def c158x1:AC := .seq (.reg [aF' 3 3 1,aL' 4 3,aC' 5 179 [.t 4],aF' 6 3 1,aS' 1 6 5] [1,2]) c158x0
def c158:AC := .seq (.reg [o' 1 (.new 4 (.t 0)),o' 2 (.zero [(.int .i64 0),(.string ⟨#[]⟩),(.int .i64 0),(.slice none 0 0)])] [1,2]) c158x1
theorem k158:KQ Tryz.prog Tryz.f158 c158 [.cell (some 4) 2] := ⟨by kernel_rfl,by kernel_rfl⟩
theorem e158:enters Tryz.prog 158 = true := by kernel_rfl
def c162x0:AC := .seq (.reg [m' 3 0,aB' 4 .eql (.t 3) (i' 7),m' 5 4,gF' 6 5 (.mv (.t 0)),gF' 7 5 (.bin .eql (.t 6) (i' 8)),o' 8 (.pick (.t 5) kT' (.t 7)),m' 2 8] [2]) .ret
def c162:AC := .seq (.reg [o' 2 (.mv kF')] [0]) c162x0
theorem k162:KQ Tryz.prog Tryz.f162 c162 [.t 2] := ⟨by kernel_rfl,by kernel_rfl⟩
theorem e162:enters Tryz.prog 162 = true := by kernel_rfl
def c175x0:AC := .seq (.reg [m' 3 0,aB' 4 .geq (.t 3) (i' 0),m' 5 4,aG' 6 5 0,gT' 7 5 (.bin .lss (.t 6) (i' 9)),o' 8 (.pick (.t 5) (.t 7) kF'),m' 2 8] [2]) .ret
def c175:AC := .seq (.reg [o' 2 (.mv kF')] [0]) c175x0
theorem k175:KQ Tryz.prog Tryz.f175 c175 [.t 2] := ⟨by kernel_rfl,by kernel_rfl⟩
theorem e175:enters Tryz.prog 175 = true := by kernel_rfl
def c176x3:AC := .seq (.dreg [aF' 63 1 1,aL' 64 63,m' 65 3,aC' 66 194 [.t 64,.t 65],o' 67 (.not (.t 66)),m' 68 67,gF' 69 68 (.fad 2 (.t 1)),gF' 70 68 (.ld none (.t 69)),gF' 71 68 (.mv (.t 4)),gF' 72 68 (.call 194 [.t 70,.t 71]),gF' 73 68 (.not (.t 72)),o' 74 (.pick (.t 68) kT' (.t 73)),m' 75 74,gF' 76 75 (.mv (.t 3)),gF' 77 75 (.bin .eql (.t 76) (.k (.int .u8 115))),gF' 78 75 (.mv (.t 77)),gT' 79 78 (.fad 1 (.t 1)),gT' 80 78 (.ld none (.t 79)),gT' 81 78 (.call 162 [.t 80]),gT' 82 78 (.fad 2 (.t 1)),gT' 83 78 (.ld none (.t 82)),gT' 84 78 (.call 162 [.t 83]),gT' 85 78 (.eqb true (.t 81) (.t 84)),gF' 86 75 (.pick (.t 78) (.t 85) kF'),o' 87 (.pick (.t 75) kT' (.t 86)),m' 88 87,gF' 89 88 (.fad 3 (.t 1)),gF' 90 88 (.ld none (.t 89)),gF' 91 88 (.bin .lss (.t 90) (i' 0)),o' 92 (.pick (.t 88) kT' (.t 91)),m' 93 92,gF' 94 93 (.fad 3 (.t 1)),gF' 95 93 (.ld none (.t 94)),gF' 96 93 (.mv (.t 6)),gF' 97 93 (.bin .gtr (.t 95) (.t 96)),o' 98 (.pick (.t 93) kT' (.t 97))] (bf [[],[0,1],[],[0,3],[0,4],[0,5],[0,6],[0,7],[0,6],[0,9],[0,10],[0,11],[0,12],[0,13],[0,14],[0,15],[0,16],[0,17],[0,18],[0,16],[0,16,19,20],[0,21],[0,22],[0,23],[0,24],[0,25],[0,26],[0,27],[0,28],[0,29],[0,30],[0,31],[0,32],[0,31],[0,34],[0,35]]) [98]) (.cond (.t 98) (.seq (.reg [aV' 2 1] [2]) .ret) .skip)
def c176x7:AC := .seq (.reg [m' 61 5,o' 62 (.not (.t 61))] [1,3,4,6,62]) (.cond (.t 62) (.reg [aV' 6 0] [1,3,4,6]) .skip)
def c176x11:AC := .seq (.reg [aF' 48 0 1,aL' 49 48,aB' 50 .eql (.t 49) (i' 2),m' 51 50,gT' 52 51 (.fad 1 (.t 1)),gT' 53 51 (.ld none (.t 52)),gT' 54 51 (.call 175 [.t 53]),o' 55 (.pick (.t 51) (.t 54) kF'),m' 56 55,gT' 57 56 (.fad 1 (.t 1)),gT' 58 56 (.ld none (.t 57)),gT' 59 56 (.call 162 [.t 58]),o' 60 (.pick (.t 56) (.t 59) kF')] [1,3,4,5,6,60]) (.cond (.t 60) (.reg [aV' 6 65535] [1,3,4,5,6]) .skip)
def c176x14:AC := .seq (.reg [aF' 42 0 1,aL' 43 42,aC' 44 193 [.t 43],m' 41 44,aE' 45 41 0,aE' 46 41 1,aE' 47 41 2,m' 3 45,m' 4 46,m' 5 47] [1,3,4,5]) (.seq (.reg [aV' 6 255] [1,3,4,5,6]) (.seq c176x11 (.seq c176x7 (.seq c176x3 (.seq (.reg [aV' 2 0] [2]) .ret)))))
def c176x18:AC := .seq (.reg [aF' 18 1 1,aL' 19 18,aB' 20 .neq (.t 19) (i' 0),m' 21 20,gF' 22 21 (.fad 2 (.t 1)),gF' 23 21 (.ld none (.t 22)),gF' 24 21 (.bin .lss (.t 23) (i' 0)),o' 25 (.pick (.t 21) kT' (.t 24)),m' 26 25,gF' 27 26 (.fad 2 (.t 1)),gF' 28 26 (.ld none (.t 27)),gF' 29 26 (.bin .gtr (.t 28) (i' 1)),o' 30 (.pick (.t 26) kT' (.t 29)),m' 31 30,gF' 32 31 (.fad 3 (.t 1)),gF' 33 31 (.ld none (.t 32)),gF' 34 31 (.bin .lss (.t 33) (i' 0)),o' 35 (.pick (.t 31) kT' (.t 34)),m' 36 35,gF' 37 36 (.fad 3 (.t 1)),gF' 38 36 (.ld none (.t 37)),gF' 39 36 (.bin .gtr (.t 38) (i' 255)),o' 40 (.pick (.t 36) kT' (.t 39))] [40]) (.cond (.t 40) (.seq (.reg [aV' 2 1] [2]) .ret) .skip)
def c176x21:AC := .seq (.reg [aF' 15 0 1,aL' 16 15,aB' 17 .eql (.t 16) (i' 24)] [1,17]) (.cond (.t 17) (.seq c176x18 (.seq (.reg [aV' 2 0] [2]) .ret)) .skip)
def c176x25:AC := .seq (.reg [aF' 7 0 1,aL' 8 7,aB' 9 .lss (.t 8) (i' 0),m' 10 9,gF' 11 10 (.fad 0 (.t 1)),gF' 12 10 (.ld none (.t 11)),gF' 13 10 (.bin .geq (.t 12) (i' 25)),o' 14 (.pick (.t 10) kT' (.t 13))] [1,14]) (.cond (.t 14) (.seq (.reg [aV' 2 8] [2]) .ret) .skip)
def c176:AC := .seq (.reg [o' 1 (.new 4 (.t 0)),aV' 2 0] [1]) (.seq c176x25 (.seq c176x21 c176x14))
theorem k176:KQ Tryz.prog Tryz.f176 c176 [.t 2] := ⟨by kernel_rfl,by kernel_rfl⟩
theorem e176:enters Tryz.prog 176 = true := by kernel_rfl
def c179x2:AC := .reg [m' 12 3,m' 13 4,m' 14 3,m' 15 4,aX' 16 4 14 15,aF' 17 3 16,aL' 18 17,aC' 19 200 [.t 18],aX' 20 4 12 13,aF' 21 3 20,aS' 1 21 19] [3,8,9]
def c179x8:AC := .seq (.reg [aB' 10 .lss (.t 9) (.t 8)] [3,8,9,10]) (.seq (.cond (.t 10) .skip (.exit 0)) (.seq (.block 1 (.seq (.reg [m' 11 9,m' 4 11] [3,4,8,9]) c179x2)) (.reg [aB' 22 .add (.t 9) (i' 1),m' 9 22] [3,8,9])))
def c179x11:AC := .seq (.reg [m' 7 3,aT' 8 7,aV' 9 0] [3,8,9]) (.block 0 (.loop c179x8))
def c179x13:AC := .seq (.reg [m' 5 0,aC' 6 199 [.t 5],m' 3 6] [3]) (.seq c179x11 (.seq (.reg [m' 23 3,m' 2 23] [2]) .ret))
def c179:AC := .seq (.reg [o' 2 (.mv (.k (.slice none 0 0)))] [0]) c179x13
theorem k179:KQ Tryz.prog Tryz.f179 c179 [.t 2] := ⟨by kernel_rfl,by kernel_rfl⟩
theorem e179:enters Tryz.prog 179 = true := by kernel_rfl
def c193x0:AC := .seq (.reg [o' 2 (.mv (.k (.int .u8 0))),o' 3 (.mv (.k (.int .u8 0))),o' 4 (.mv kF')] [2,3,4]) .ret
def c193x1:AC := .seq (.reg [o' 2 (.mv (.k (.int .u8 115))),o' 3 (.mv (.k (.int .u8 115))),o' 4 (.mv kF')] [2,3,4]) .ret
def c193x2:AC := .seq (.reg [o' 2 (.mv (.k (.int .u8 97))),o' 3 (.mv (.k (.int .u8 0))),o' 4 (.mv kT')] [2,3,4]) .ret
def c193x3:AC := .seq (.reg [o' 2 (.mv (.k (.int .u8 98))),o' 3 (.mv (.k (.int .u8 0))),o' 4 (.mv kF')] [2,3,4]) .ret
def c193x4:AC := .seq (.reg [o' 2 (.mv (.k (.int .u8 98))),o' 3 (.mv (.k (.int .u8 98))),o' 4 (.mv kF')] [2,3,4]) .ret
def c193x5:AC := .seq (.reg [o' 2 (.mv (.k (.int .u8 97))),o' 3 (.mv (.k (.int .u8 0))),o' 4 (.mv kF')] [2,3,4]) .ret
def c193x6:AC := .seq (.reg [o' 2 (.mv (.k (.int .u8 0))),o' 3 (.mv (.k (.int .u8 0))),o' 4 (.mv kT')] [2,3,4]) .ret
def c193x7:AC := .seq (.reg [o' 2 (.mv (.k (.int .u8 119))),o' 3 (.mv (.k (.int .u8 98))),o' 4 (.mv kF')] [2,3,4]) .ret
def c193x8:AC := .seq (.reg [o' 2 (.mv (.k (.int .u8 98))),o' 3 (.mv (.k (.int .u8 119))),o' 4 (.mv kF')] [2,3,4]) .ret
def c193x12:AC := .seq (.reg [aB' 35 .eql (.t 5) (i' 20),m' 34 35] [5,34]) (.cond (.t 34) .skip (.reg [aB' 36 .eql (.t 5) (i' 21),m' 34 36] [34]))
def c193x17:AC := .seq (.reg [aB' 32 .eql (.t 5) (i' 22),m' 29 32] [5,29]) (.cond (.t 29) .skip (.reg [aB' 33 .eql (.t 5) (i' 23),m' 29 33] [5,29]))
def c193x19:AC := .seq (.reg [aB' 31 .eql (.t 5) (i' 19),m' 29 31] [5,29]) (.cond (.t 29) .skip c193x17)
def c193x21:AC := .seq (.reg [aB' 30 .eql (.t 5) (i' 18),m' 29 30] [5,29]) (.cond (.t 29) .skip c193x19)
def c193x26:AC := .seq (.reg [aB' 27 .eql (.t 5) (i' 16),m' 26 27] [5,26]) (.cond (.t 26) .skip (.reg [aB' 28 .eql (.t 5) (i' 17),m' 26 28] [5,26]))
def c193x31:AC := .seq (.reg [aB' 24 .eql (.t 5) (i' 10),m' 23 24] [5,23]) (.cond (.t 23) .skip (.reg [aB' 25 .eql (.t 5) (i' 11),m' 23 25] [5,23]))
def c193x36:AC := .seq (.reg [aB' 21 .eql (.t 5) (i' 8),m' 16 21] [5,16]) (.cond (.t 16) .skip (.reg [aB' 22 .eql (.t 5) (i' 9),m' 16 22] [5,16]))
def c193x38:AC := .seq (.reg [aB' 20 .eql (.t 5) (i' 7),m' 16 20] [5,16]) (.cond (.t 16) .skip c193x36)
def c193x40:AC := .seq (.reg [aB' 19 .eql (.t 5) (i' 6),m' 16 19] [5,16]) (.cond (.t 16) .skip c193x38)
def c193x42:AC := .seq (.reg [aB' 18 .eql (.t 5) (i' 5),m' 16 18] [5,16]) (.cond (.t 16) .skip c193x40)
def c193x44:AC := .seq (.reg [aB' 17 .eql (.t 5) (i' 4),m' 16 17] [5,16]) (.cond (.t 16) .skip c193x42)
def c193x49:AC := .seq (.reg [aB' 14 .eql (.t 5) (i' 14),m' 10 14] [5,10]) (.cond (.t 10) .skip (.reg [aB' 15 .eql (.t 5) (i' 15),m' 10 15] [5,10]))
def c193x51:AC := .seq (.reg [aB' 13 .eql (.t 5) (i' 13),m' 10 13] [5,10]) (.cond (.t 10) .skip c193x49)
def c193x53:AC := .seq (.reg [aB' 12 .eql (.t 5) (i' 12),m' 10 12] [5,10]) (.cond (.t 10) .skip c193x51)
def c193x55:AC := .seq (.reg [aB' 11 .eql (.t 5) (i' 3),m' 10 11] [5,10]) (.cond (.t 10) .skip c193x53)
def c193x58:AC := .seq (.reg [aB' 9 .eql (.t 5) (i' 2),m' 8 9] [5,8]) (.cond (.t 8) c193x2 (.seq c193x55 (.cond (.t 10) c193x3 (.seq c193x44 (.cond (.t 16) c193x4 (.seq c193x31 (.cond (.t 23) c193x5 (.seq c193x26 (.cond (.t 26) c193x6 (.seq c193x21 (.cond (.t 29) c193x7 (.seq c193x12 (.cond (.t 34) c193x8 .skip)))))))))))))
def c193x60:AC := .seq (.reg [aB' 7 .eql (.t 5) (i' 1),m' 6 7] [5,6]) (.cond (.t 6) c193x1 c193x58)
def c193:AC := .seq (.reg [o' 2 (.mv (.k (.int .u8 0))),o' 3 (.mv (.k (.int .u8 0))),o' 4 (.mv kF')] [0]) (.seq (.seq (.reg [m' 5 0] [5]) (.block 0 c193x60)) c193x0)
theorem k193:KQ Tryz.prog Tryz.f193 c193 [.t 2,.t 3,.t 4] := ⟨by kernel_rfl,by kernel_rfl⟩
theorem e193:enters Tryz.prog 193 = true := by kernel_rfl
def c194x0:AC := .seq (.reg [m' 27 0,aC' 28 175 [.t 27],m' 4 28] [4]) .ret
def c194x1:AC := .seq (.reg [m' 8 0,aB' 9 .eql (.t 8) (i' 0),m' 4 9] [4]) .ret
def c194x2:AC := .seq (.reg [m' 12 0,aC' 13 175 [.t 12],m' 14 13,aG' 15 14 0,gT' 16 14 (.call 162 [.t 15]),o' 17 (.pick (.t 14) (.t 16) kF'),m' 4 17] [4]) .ret
def c194x3:AC := .seq (.reg [m' 20 0,aC' 21 175 [.t 20],m' 22 21,aG' 23 22 0,gT' 24 22 (.call 162 [.t 23]),gT' 25 22 (.not (.t 24)),o' 26 (.pick (.t 22) (.t 25) kF'),m' 4 26] [4]) .ret
def c194x5:AC := .seq (.reg [aB' 19 .eql (.t 5) (.k (.int .u8 98)),m' 18 19] [0,18]) (.cond (.t 18) c194x3 .skip)
def c194x7:AC := .seq (.reg [aB' 11 .eql (.t 5) (.k (.int .u8 119)),m' 10 11] [0,5,10]) (.cond (.t 10) c194x2 c194x5)
def c194x9:AC := .seq (.reg [aB' 7 .eql (.t 5) (.k (.int .u8 0)),m' 6 7] [0,5,6]) (.cond (.t 6) c194x1 c194x7)
def c194:AC := .seq (.reg [o' 4 (.mv kF')] [0,1]) (.seq (.seq (.reg [m' 5 1] [0,5]) (.block 0 c194x9)) c194x0)
theorem k194:KQ Tryz.prog Tryz.f194 c194 [.t 4] := ⟨by kernel_rfl,by kernel_rfl⟩
theorem e194:enters Tryz.prog 194 = true := by kernel_rfl
def c14x1:AC := .reg [aB' 25 .add (.t 13) (i' 1),m' 13 25] [0,1,12,13]
def c14x4:AC := .seq (.dreg [m' 16 0,m' 17 5,aX' 18 3 16 17,aM' 19 3 18,m' 20 1,m' 21 5,aX' 22 3 20 21,aM' 23 3 22,o' 24 (.eqs [.i .i64,.s,.i .i64] true (.t 19) (.t 23))] (bf [[],[],[0,2],[0,3],[],[],[4,6],[4,7],[0,8]]) [0,1,12,13,24]) (.cond (.t 24) (.seq (.reg [o' 4 (.mv kF')] [4]) .ret) .skip)
def c14x10:AC := .seq (.reg [aB' 14 .lss (.t 13) (.t 12)] [0,1,12,13,14]) (.seq (.cond (.t 14) .skip (.exit 0)) (.seq (.block 1 (.seq (.reg [m' 15 13,m' 5 15] [0,1,5,12,13]) c14x4)) c14x1))
def c14x13:AC := .seq (.reg [m' 11 0,aT' 12 11,aV' 13 0] [0,1,12,13]) (.block 0 (.loop c14x10))
def c14x17:AC := .seq (.reg [m' 6 0,aT' 7 6,m' 8 1,aT' 9 8,aB' 10 .neq (.t 7) (.t 9)] [0,1,10]) (.cond (.t 10) (.seq (.reg [o' 4 (.mv kF')] [4]) .ret) .skip)
def c14:AC := .seq (.reg [o' 4 (.mv kF')] [0,1]) (.seq c14x17 (.seq c14x13 (.seq (.reg [o' 4 (.mv kT')] [4]) .ret)))
theorem k14:KQ Tryz.prog Tryz.f14 c14 [.t 4] := ⟨by kernel_rfl,by kernel_rfl⟩
theorem e14:enters Tryz.prog 14 = true := by kernel_rfl
def c15x1:AC := .reg [aB' 34 .add (.t 27) (i' 1),m' 27 34] [6,25,26,27]
def c15x2:AC := .reg [m' 31 6,m' 32 8,o' 33 (.app 3 32 (.t 31) (.t 32)),m' 6 33] [6,25,26,27]
def c15x3:AC := .seq (.reg [aX' 29 1 25 27,aL' 30 29,m' 8 30] [6,8,25,26,27]) c15x2
def c15x8:AC := .seq (.reg [aB' 28 .lss (.t 27) (.t 26)] [6,25,26,27,28]) (.seq (.cond (.t 28) .skip (.exit 2)) (.seq (.block 3 c15x3) c15x1))
def c15x11:AC := .seq (.reg [m' 25 0,aT' 26 25,aV' 27 0] [6,25,26,27]) (.block 2 (.loop c15x8))
def c15x13:AC := .seq (.reg [m' 23 3,aC' 24 34 [(.k (.slice none 0 0)),(.t 23)],m' 6 24] [0,6]) (.seq c15x11 (.seq (.reg [m' 35 6,m' 2 35] [2]) .ret))
def c15x14:AC := .reg [aB' 22 .add (.t 11) (i' 1),m' 11 22] [0,3,9,10,11]
def c15x15:AC := .reg [o' 21 (.mki 9 (.k (.string ⟨#[108,101,110,32,111,117,116,32,111,102,32,114,97,110,103,101]⟩))),n' (.bad)] [0,3,9,10,11]
def c15x17:AC := .seq (.reg [m' 19 3,aB' 20 .lss (.t 19) (i' 0)] [0,3,9,10,11,20]) (.cond (.t 20) c15x15 .skip)
def c15x18:AC := .seq (.reg [m' 15 3,m' 16 5,aT' 17 16,aB' 18 .add (.t 15) (.t 17),m' 3 18] [0,3,9,10,11]) c15x17
def c15x19:AC := .seq (.reg [aX' 13 1 9 11,aL' 14 13,m' 5 14] [0,3,5,9,10,11]) c15x18
def c15x24:AC := .seq (.reg [aB' 12 .lss (.t 11) (.t 10)] [0,3,9,10,11,12]) (.seq (.cond (.t 12) .skip (.exit 0)) (.seq (.block 1 c15x19) c15x14))
def c15x27:AC := .seq (.reg [m' 9 0,aT' 10 9,aV' 11 0] [0,3,9,10,11]) (.block 0 (.loop c15x24))
def c15:AC := .seq (.reg [o' 2 (.mv (.k (.slice none 0 0)))] [0]) (.seq (.reg [aV' 3 0] [0,3]) (.seq c15x27 c15x13))
theorem k15:KQ Tryz.prog Tryz.f15 c15 [.t 2] := ⟨by kernel_rfl,by kernel_rfl⟩
theorem e15:enters Tryz.prog 15 = true := by kernel_rfl
def c30x1:AC := .reg [aB' 31 .add (.t 17) (i' 1),m' 17 31] [1,2,15,16,17]
def c30x4:AC := .seq (.reg [m' 26 2,aM' 27 2 8,aM' 28 2 9,o' 29 (.callc (.t 26) [.t 27,.t 28]),o' 30 (.not (.t 29))] [1,2,15,16,17,30]) (.cond (.t 30) (.seq (.reg [o' 6 (.mv kF')] [6]) .ret) .skip)
def c30x5:AC := .seq (.reg [m' 22 1,m' 23 7,aX' 24 2 22 23,aM' 25 2 24,o' 9 (.zero [(.slice none 0 0),(.slice none 0 0)]),aS' 2 9 25] [1,2,8,9,15,16,17]) c30x4
def c30x6:AC := .seq (.reg [m' 19 17,aX' 20 2 15 17,aM' 21 2 20,o' 8 (.zero [(.slice none 0 0),(.slice none 0 0)]),m' 7 19,aS' 2 8 21] [1,2,7,8,15,16,17]) c30x5
def c30x11:AC := .seq (.reg [aB' 18 .lss (.t 17) (.t 16)] [1,2,15,16,17,18]) (.seq (.cond (.t 18) .skip (.exit 0)) (.seq (.block 1 c30x6) c30x1))
def c30x14:AC := .seq (.reg [m' 15 0,aT' 16 15,aV' 17 0] [1,2,15,16,17]) (.block 0 (.loop c30x11))
def c30x18:AC := .seq (.reg [m' 10 0,aT' 11 10,m' 12 1,aT' 13 12,aB' 14 .neq (.t 11) (.t 13)] [0,1,2,14]) (.cond (.t 14) (.seq (.reg [o' 6 (.mv kF')] [6]) .ret) .skip)
def c30:AC := .seq (.reg [o' 6 (.mv kF')] [0,1,2]) (.seq c30x18 (.seq c30x14 (.seq (.reg [o' 6 (.mv kT')] [6]) .ret)))
theorem k30:KQ Tryz.prog Tryz.f30 c30 [.t 6] := ⟨by kernel_rfl,by kernel_rfl⟩
theorem e30:enters Tryz.prog 30 = true := by kernel_rfl
def c32x1:AC := .reg [aB' 25 .add (.t 13) (i' 1),m' 13 25] [0,1,12,13]
def c32x4:AC := .seq (.dreg [m' 16 0,m' 17 5,aX' 18 1 16 17,aL' 19 18,m' 20 1,m' 21 5,aX' 22 1 20 21,aL' 23 22,aB' 24 .neq (.t 19) (.t 23)] (bf [[],[],[0,2],[0,3],[],[],[4,6],[4,7],[0,8]]) [0,1,12,13,24]) (.cond (.t 24) (.seq (.reg [o' 4 (.mv kF')] [4]) .ret) .skip)
def c32x10:AC := .seq (.reg [aB' 14 .lss (.t 13) (.t 12)] [0,1,12,13,14]) (.seq (.cond (.t 14) .skip (.exit 0)) (.seq (.block 1 (.seq (.reg [m' 15 13,m' 5 15] [0,1,5,12,13]) c32x4)) c32x1))
def c32x13:AC := .seq (.reg [m' 11 0,aT' 12 11,aV' 13 0] [0,1,12,13]) (.block 0 (.loop c32x10))
def c32x17:AC := .seq (.reg [m' 6 0,aT' 7 6,m' 8 1,aT' 9 8,aB' 10 .neq (.t 7) (.t 9)] [0,1,10]) (.cond (.t 10) (.seq (.reg [o' 4 (.mv kF')] [4]) .ret) .skip)
def c32:AC := .seq (.reg [o' 4 (.mv kF')] [0,1]) (.seq c32x17 (.seq c32x13 (.seq (.reg [o' 4 (.mv kT')] [4]) .ret)))
theorem k32:KQ Tryz.prog Tryz.f32 c32 [.t 4] := ⟨by kernel_rfl,by kernel_rfl⟩
theorem e32:enters Tryz.prog 32 = true := by kernel_rfl
def c33x1:AC := .reg [aB' 25 .add (.t 13) (i' 1),m' 13 25] [0,1,12,13]
def c33x4:AC := .seq (.dreg [m' 16 0,m' 17 5,aX' 18 1 16 17,aL' 19 18,m' 20 1,m' 21 5,aX' 22 1 20 21,aL' 23 22,aB' 24 .neq (.t 19) (.t 23)] (bf [[],[],[0,2],[0,3],[],[],[4,6],[4,7],[0,8]]) [0,1,12,13,24]) (.cond (.t 24) (.seq (.reg [o' 4 (.mv kF')] [4]) .ret) .skip)
def c33x10:AC := .seq (.reg [aB' 14 .lss (.t 13) (.t 12)] [0,1,12,13,14]) (.seq (.cond (.t 14) .skip (.exit 0)) (.seq (.block 1 (.seq (.reg [m' 15 13,m' 5 15] [0,1,5,12,13]) c33x4)) c33x1))
def c33x13:AC := .seq (.reg [m' 11 0,aT' 12 11,aV' 13 0] [0,1,12,13]) (.block 0 (.loop c33x10))
def c33x17:AC := .seq (.reg [m' 6 0,aT' 7 6,m' 8 1,aT' 9 8,aB' 10 .neq (.t 7) (.t 9)] [0,1,10]) (.cond (.t 10) (.seq (.reg [o' 4 (.mv kF')] [4]) .ret) .skip)
def c33:AC := .seq (.reg [o' 4 (.mv kF')] [0,1]) (.seq c33x17 (.seq c33x13 (.seq (.reg [o' 4 (.mv kT')] [4]) .ret)))
theorem k33:KQ Tryz.prog Tryz.f33 c33 [.t 4] := ⟨by kernel_rfl,by kernel_rfl⟩
theorem e33:enters Tryz.prog 33 = true := by kernel_rfl
def c34x1:AC := .reg [m' 17 0,m' 18 0,o' 19 (.capx (.t 18)),o' 20 (.slc 3 (.t 17) none (some (.t 19))),m' 21 1,o' 22 (.appz [(.int .i64 0),(.string ⟨#[]⟩),(.int .i64 0)] 32 (.t 20) (.t 21)),m' 23 0,aT' 24 23,o' 25 (.slc 3 (.t 22) none (some (.t 24))),m' 0 25] [0]
def c34x3:AC := .seq (.reg [m' 15 1,aB' 16 .gtr (.t 15) (i' 0)] [0,1,16]) (.cond (.t 16) c34x1 .skip)
def c34x4:AC := .seq (.reg [m' 8 1,m' 9 0,o' 10 (.capx (.t 9)),m' 11 0,aT' 12 11,aB' 13 .sub (.t 10) (.t 12),aB' 14 .sub (.t 8) (.t 13),m' 1 14] [0,1]) c34x3
def c34x6:AC := .reg [o' 7 (.mki 9 (.k (.string ⟨#[99,97,110,110,111,116,32,98,101,32,110,101,103,97,116,105,118,101]⟩))),n' (.bad)] [0,1]
def c34x8:AC := .seq (.reg [m' 5 1,aB' 6 .lss (.t 5) (i' 0)] [0,1,6]) (.cond (.t 6) c34x6 .skip)
def c34:AC := .seq (.reg [o' 4 (.mv (.k (.slice none 0 0)))] [0,1]) (.seq c34x8 (.seq c34x4 (.seq (.reg [m' 26 0,m' 4 26] [4]) .ret)))
theorem k34:KQ Tryz.prog Tryz.f34 c34 [.t 4] := ⟨by kernel_rfl,by kernel_rfl⟩
theorem e34:enters Tryz.prog 34 = true := by kernel_rfl
def c48x0:AC := .seq (.reg [m' 5 0,aM' 6 2 3,aC' 7 104 [.t 5,.t 6],aB' 8 .geq (.t 7) (i' 0),m' 4 8] [4]) .ret
def c48:AC := .seq (.reg [o' 3 (.new 2 (.t 1)),o' 4 (.mv kF')] [0,3]) c48x0
theorem k48:KQ Tryz.prog Tryz.f48 c48 [.t 4] := ⟨by kernel_rfl,by kernel_rfl⟩
theorem e48:enters Tryz.prog 48 = true := by kernel_rfl
def c56x0:AC := .seq (.reg [m' 5 0,m' 6 1,aC' 7 108 [.t 5,.t 6],aB' 8 .geq (.t 7) (i' 0),m' 4 8] [4]) .ret
def c56:AC := .seq (.reg [o' 4 (.mv kF')] [0,1]) c56x0
theorem k56:KQ Tryz.prog Tryz.f56 c56 [.t 4] := ⟨by kernel_rfl,by kernel_rfl⟩
theorem e56:enters Tryz.prog 56 = true := by kernel_rfl
def c58x0:AC := .seq (.reg [o' 5 (.bsl [(.slice none 0 0),(.slice none 0 0)] 0 []),m' 6 0,o' 7 (.app 2 48 (.t 5) (.t 6)),m' 2 7] [2]) .ret
def c58x3:AC := .seq (.reg [m' 3 0,o' 4 (.eqn false (.t 3))] [0,4]) (.cond (.t 4) (.seq (.reg [o' 2 (.mv (.k (.slice none 0 0)))] [2]) .ret) .skip)
def c58:AC := .seq (.reg [o' 2 (.mv (.k (.slice none 0 0)))] [0]) (.seq c58x3 c58x0)
theorem k58:KQ Tryz.prog Tryz.f58 c58 [.t 2] := ⟨by kernel_rfl,by kernel_rfl⟩
theorem e58:enters Tryz.prog 58 = true := by kernel_rfl
def c59x0:AC := .seq (.reg [o' 5 (.bsl zLI 0 []),m' 6 0,o' 7 (.app 1 8 (.t 5) (.t 6)),m' 2 7] [2]) .ret
def c59x3:AC := .seq (.reg [m' 3 0,o' 4 (.eqn false (.t 3))] [0,4]) (.cond (.t 4) (.seq (.reg [o' 2 (.mv (.k (.slice none 0 0)))] [2]) .ret) .skip)
def c59:AC := .seq (.reg [o' 2 (.mv (.k (.slice none 0 0)))] [0]) (.seq c59x3 c59x0)
theorem k59:KQ Tryz.prog Tryz.f59 c59 [.t 2] := ⟨by kernel_rfl,by kernel_rfl⟩
theorem e59:enters Tryz.prog 59 = true := by kernel_rfl
def c60x0:AC := .seq (.reg [o' 5 (.bsl [(.int .u8 0)] 0 []),m' 6 0,o' 7 (.app 1 1 (.t 5) (.t 6)),m' 2 7] [2]) .ret
def c60x3:AC := .seq (.reg [m' 3 0,o' 4 (.eqn false (.t 3))] [0,4]) (.cond (.t 4) (.seq (.reg [o' 2 (.mv (.k (.slice none 0 0)))] [2]) .ret) .skip)
def c60:AC := .seq (.reg [o' 2 (.mv (.k (.slice none 0 0)))] [0]) (.seq c60x3 c60x0)
theorem k60:KQ Tryz.prog Tryz.f60 c60 [.t 2] := ⟨by kernel_rfl,by kernel_rfl⟩
theorem e60:enters Tryz.prog 60 = true := by kernel_rfl
def c95x0:AC := .seq (.reg [m' 5 0,m' 6 1,aC' 7 143 [.t 5,.t 6],aB' 8 .geq (.t 7) (i' 0),m' 4 8] [4]) .ret
def c95:AC := .seq (.reg [o' 4 (.mv kF')] [0,1]) c95x0
theorem k95:KQ Tryz.prog Tryz.f95 c95 [.t 4] := ⟨by kernel_rfl,by kernel_rfl⟩
theorem e95:enters Tryz.prog 95 = true := by kernel_rfl
def c104x4:AC := .seq (.dreg [aM' 11 2 3,m' 12 0,m' 13 5,aX' 14 2 12 13,aM' 15 2 14,o' 16 (.eqs [.s,.s] false (.t 11) (.t 15))] (bf [[],[],[],[1,3],[1,4],[0,5]]) [0,3,5,7,8,16]) (.cond (.t 16) (.seq (.reg [m' 17 5,m' 4 17] [4]) .ret) .skip)
def c104x10:AC := .seq (.reg [aB' 9 .lss (.t 8) (.t 7)] [0,3,7,8,9]) (.seq (.cond (.t 9) .skip (.exit 0)) (.seq (.block 1 (.seq (.reg [m' 10 8,m' 5 10] [0,3,5,7,8]) c104x4)) (.reg [aB' 18 .add (.t 8) (i' 1),m' 8 18] [0,3,7,8])))
def c104x13:AC := .seq (.reg [m' 6 0,aT' 7 6,aV' 8 0] [0,3,7,8]) (.block 0 (.loop c104x10))
def c104:AC := .seq (.reg [o' 3 (.new 2 (.t 1)),aV' 4 0] [0,3]) (.seq c104x13 (.seq (.reg [o' 4 (.mv (.k (.int .i64 (-1))))] [4]) .ret))
theorem k104:KQ Tryz.prog Tryz.f104 c104 [.t 4] := ⟨by kernel_rfl,by kernel_rfl⟩
theorem e104:enters Tryz.prog 104 = true := by kernel_rfl
def c108x4:AC := .seq (.reg [m' 11 1,m' 12 0,m' 13 5,aX' 14 5 12 13,aM' 15 5 14,o' 16 (.callc (.t 11) [.t 15])] [0,1,5,7,8,16]) (.cond (.t 16) (.seq (.reg [m' 17 5,m' 4 17] [4]) .ret) .skip)
def c108x10:AC := .seq (.reg [aB' 9 .lss (.t 8) (.t 7)] [0,1,7,8,9]) (.seq (.cond (.t 9) .skip (.exit 0)) (.seq (.block 1 (.seq (.reg [m' 10 8,m' 5 10] [0,1,5,7,8]) c108x4)) (.reg [aB' 18 .add (.t 8) (i' 1),m' 8 18] [0,1,7,8])))
def c108x13:AC := .seq (.reg [m' 6 0,aT' 7 6,aV' 8 0] [0,1,7,8]) (.block 0 (.loop c108x10))
def c108:AC := .seq (.reg [aV' 4 0] [0,1]) (.seq c108x13 (.seq (.reg [o' 4 (.mv (.k (.int .i64 (-1))))] [4]) .ret))
theorem k108:KQ Tryz.prog Tryz.f108 c108 [.t 4] := ⟨by kernel_rfl,by kernel_rfl⟩
theorem e108:enters Tryz.prog 108 = true := by kernel_rfl
def c143x4:AC := .seq (.reg [m' 11 1,m' 12 0,m' 13 5,aX' 14 4 12 13,aM' 15 4 14,o' 16 (.callc (.t 11) [.t 15])] [0,1,5,7,8,16]) (.cond (.t 16) (.seq (.reg [m' 17 5,m' 4 17] [4]) .ret) .skip)
def c143x10:AC := .seq (.reg [aB' 9 .lss (.t 8) (.t 7)] [0,1,7,8,9]) (.seq (.cond (.t 9) .skip (.exit 0)) (.seq (.block 1 (.seq (.reg [m' 10 8,m' 5 10] [0,1,5,7,8]) c143x4)) (.reg [aB' 18 .add (.t 8) (i' 1),m' 8 18] [0,1,7,8])))
def c143x13:AC := .seq (.reg [m' 6 0,aT' 7 6,aV' 8 0] [0,1,7,8]) (.block 0 (.loop c143x10))
def c143:AC := .seq (.reg [aV' 4 0] [0,1]) (.seq c143x13 (.seq (.reg [o' 4 (.mv (.k (.int .i64 (-1))))] [4]) .ret))
theorem k143:KQ Tryz.prog Tryz.f143 c143 [.t 4] := ⟨by kernel_rfl,by kernel_rfl⟩
theorem e143:enters Tryz.prog 143 = true := by kernel_rfl
def c152x0:AC := .seq (.reg [m' 5 0,m' 6 1,aC' 7 178 [.t 5,.t 6],aB' 8 .geq (.t 7) (i' 0),m' 4 8] [4]) .ret
def c152:AC := .seq (.reg [o' 4 (.mv kF')] [0,1]) c152x0
theorem k152:KQ Tryz.prog Tryz.f152 c152 [.t 4] := ⟨by kernel_rfl,by kernel_rfl⟩
theorem e152:enters Tryz.prog 152 = true := by kernel_rfl
def c178x4:AC := .seq (.reg [m' 11 1,m' 12 0,m' 13 5,aX' 14 2 12 13,aM' 15 2 14,o' 16 (.callc (.t 11) [.t 15])] [0,1,5,7,8,16]) (.cond (.t 16) (.seq (.reg [m' 17 5,m' 4 17] [4]) .ret) .skip)
def c178x10:AC := .seq (.reg [aB' 9 .lss (.t 8) (.t 7)] [0,1,7,8,9]) (.seq (.cond (.t 9) .skip (.exit 0)) (.seq (.block 1 (.seq (.reg [m' 10 8,m' 5 10] [0,1,5,7,8]) c178x4)) (.reg [aB' 18 .add (.t 8) (i' 1),m' 8 18] [0,1,7,8])))
def c178x13:AC := .seq (.reg [m' 6 0,aT' 7 6,aV' 8 0] [0,1,7,8]) (.block 0 (.loop c178x10))
def c178:AC := .seq (.reg [aV' 4 0] [0,1]) (.seq c178x13 (.seq (.reg [o' 4 (.mv (.k (.int .i64 (-1))))] [4]) .ret))
theorem k178:KQ Tryz.prog Tryz.f178 c178 [.t 4] := ⟨by kernel_rfl,by kernel_rfl⟩
theorem e178:enters Tryz.prog 178 = true := by kernel_rfl
def c199x0:AC := .seq (.reg [o' 5 (.bsl [(.int .i64 0),(.int .i64 0),(.int .i64 0),(.slice none 0 0)] 0 []),m' 6 0,o' 7 (.app 4 48 (.t 5) (.t 6)),m' 2 7] [2]) .ret
def c199x3:AC := .seq (.reg [m' 3 0,o' 4 (.eqn false (.t 3))] [0,4]) (.cond (.t 4) (.seq (.reg [o' 2 (.mv (.k (.slice none 0 0)))] [2]) .ret) .skip)
def c199:AC := .seq (.reg [o' 2 (.mv (.k (.slice none 0 0)))] [0]) (.seq c199x3 c199x0)
theorem k199:KQ Tryz.prog Tryz.f199 c199 [.t 2] := ⟨by kernel_rfl,by kernel_rfl⟩
theorem e199:enters Tryz.prog 199 = true := by kernel_rfl
def c200x0:AC := .seq (.reg [o' 5 (.bsl [(.int .i64 0),(.int .i64 0),(.int .i64 0),(.int .i64 0)] 0 []),m' 6 0,o' 7 (.app 4 32 (.t 5) (.t 6)),m' 2 7] [2]) .ret
def c200x3:AC := .seq (.reg [m' 3 0,o' 4 (.eqn false (.t 3))] [0,4]) (.cond (.t 4) (.seq (.reg [o' 2 (.mv (.k (.slice none 0 0)))] [2]) .ret) .skip)
def c200:AC := .seq (.reg [o' 2 (.mv (.k (.slice none 0 0)))] [0]) (.seq c200x3 c200x0)
theorem k200:KQ Tryz.prog Tryz.f200 c200 [.t 2] := ⟨by kernel_rfl,by kernel_rfl⟩
theorem e200:enters Tryz.prog 200 = true := by kernel_rfl
def c16x0:AC := .seq (.dreg [m' 18 1,aN' 19 18,aF' 20 0 19,aL' 21 20,m' 22 2,aC' 23 40 [i' 6,i' 7],aC' 24 40 [i' 8,i' 9],o' 25 (.build [(.string ⟨#[]⟩),(.slice none 0 0),(.slice none 0 0),(.slice none 0 0),(.slice none 0 0)] [(0,1,(.k (.string ⟨#[115,116,100]⟩))),(1,1,(.t 21)),(2,1,(.t 22)),(3,1,(.t 23)),(4,1,(.t 24))]),aS' 5 0 25] (bf [[],[0,1],[0,2],[0,3],[],[],[5,6],[0,7],[0,8]]) [0]) .ret
def c16x1:AC := .seq (.reg [aC' 11 38 [i' 10,i' 5,(.k (.slice none 0 0))],aC' 12 39 [i' 7],o' 13 (.build [(.int .i64 0),(.int .i64 0),(.int .i64 0),(.int .i64 0)] [(0,1,(i' 2)),(1,1,(i' 3)),(3,1,(i' 255))]),o' 14 (.bsl [(.int .i64 0),(.int .i64 0),(.int .i64 0),(.int .i64 0)] 1 [(0,(.t 13))]),o' 15 (.app 4 32 (.t 12) (.t 14)),aC' 16 38 [i' 11,i' 6,.t 15],o' 17 (.bsl [(.int .i64 0),(.int .i64 0),(.int .i64 0),(.slice none 0 0)] 2 [(0,(.t 11)),(1,(.t 16))]),m' 2 17] [0,1,2]) c16x0
def c16x5:AC := .seq (.reg [o' 3 (.build [(.slice none 0 0)] []),o' 4 (.new 1 (.t 3)),m' 1 4] [0,1]) (.seq (.reg [m' 5 1,aC' 6 35 [.t 5]] [0,1]) (.seq (.reg [m' 7 1,aC' 8 36 [.t 7]] [0,1]) (.seq (.reg [m' 9 1,aC' 10 37 [.t 9]] [0,1]) c16x1)))
def c16:AC := .seq (.reg [o' 0 (.zero [(.string ⟨#[]⟩),(.slice none 0 0),(.slice none 0 0),(.slice none 0 0),(.slice none 0 0)])] [0]) c16x5
theorem k16:KQ Tryz.prog Tryz.f16 c16 [.cell (some 5) 0] := ⟨by kernel_rfl,by kernel_rfl⟩
theorem e16:enters Tryz.prog 16 = true := by kernel_rfl
def c35x0:AC := .reg [m' 63 0,o' 64 (.bsl zLI 2 [(0,(i' 0)),(1,(i' 2))]),o' 65 (.call 87 [.t 63,(.k (.string ⟨#[114,111,114]⟩)),(i' 15),(.t 64)])] []
def c35x1:AC := .seq (.reg [m' 60 0,o' 61 (.bsl zLI 2 [(0,(i' 0)),(1,(i' 2))]),o' 62 (.call 87 [.t 60,(.k (.string ⟨#[114,111,108]⟩)),(i' 14),(.t 61)])] [0]) c35x0
def c35x2:AC := .seq (.reg [m' 57 0,o' 58 (.bsl zLI 2 [(0,(i' 0)),(1,(i' 2))]),o' 59 (.call 87 [.t 57,(.k (.string ⟨#[108,115,114]⟩)),(i' 13),(.t 58)])] [0]) c35x1
def c35x3:AC := .seq (.reg [m' 54 0,o' 55 (.bsl zLI 2 [(0,(i' 0)),(1,(i' 2))]),o' 56 (.call 87 [.t 54,(.k (.string ⟨#[97,115,108]⟩)),(i' 12),(.t 55)])] [0]) c35x2
def c35x4:AC := .seq (.reg [m' 51 0,o' 52 (.bsl zLI 2 [(0,(i' 2)),(1,(i' 4))]),o' 53 (.call 87 [.t 51,(.k (.string ⟨#[100,101,99]⟩)),(i' 11),(.t 52)])] [0]) c35x3
def c35x5:AC := .seq (.reg [m' 48 0,o' 49 (.bsl zLI 2 [(0,(i' 2)),(1,(i' 4))]),o' 50 (.call 87 [.t 48,(.k (.string ⟨#[105,110,99]⟩)),(i' 10),(.t 49)])] [0]) c35x4
def c35x6:AC := .seq (.reg [m' 45 0,o' 46 (.bsl zLI 2 [(0,(i' 1)),(1,(i' 2))]),o' 47 (.call 86 [.t 45,(.k (.string ⟨#[99,112,121]⟩)),(i' 6),(i' 2),(.t 46)])] [0]) c35x5
def c35x7:AC := .seq (.reg [m' 42 0,o' 43 (.bsl zLI 2 [(0,(i' 1)),(1,(i' 2))]),o' 44 (.call 86 [.t 42,(.k (.string ⟨#[99,112,120]⟩)),(i' 6),(i' 1),(.t 43)])] [0]) c35x6
def c35x8:AC := .reg [aB' 41 .add (.t 30) (i' 1),m' 30 41] [0,28,29,30]
def c35x9:AC := .reg [m' 34 0,aF' 35 0 3,aL' 36 35,aF' 37 1 3,aL' 38 37,o' 39 (.bsl zLI 4 [(0,(i' 1)),(1,(i' 2)),(2,(i' 4)),(3,(i' 5))]),aC' 40 86 [.t 34,.t 36,.t 38,i' 0,.t 39]] [0,28,29,30]
def c35x10:AC := .seq (.reg [aX' 32 2 28 30,aM' 33 2 32,o' 3 (.zero [(.string ⟨#[]⟩),(.int .i64 0)]),aS' 2 3 33] [0,3,28,29,30]) c35x9
def c35x15:AC := .seq (.reg [aB' 31 .lss (.t 30) (.t 29)] [0,28,29,30,31]) (.seq (.cond (.t 31) .skip (.exit 0)) (.seq (.block 1 c35x10) c35x8))
def c35x18:AC := .seq (.reg [o' 22 (.build [(.string ⟨#[]⟩),(.int .i64 0)] [(0,1,(.k (.string ⟨#[97,100,99]⟩))),(1,1,(i' 4))]),o' 23 (.build [(.string ⟨#[]⟩),(.int .i64 0)] [(0,1,(.k (.string ⟨#[115,98,99]⟩))),(1,1,(i' 5))]),o' 24 (.build [(.string ⟨#[]⟩),(.int .i64 0)] [(0,1,(.k (.string ⟨#[97,110,100]⟩))),(1,1,(i' 7))]),o' 25 (.build [(.string ⟨#[]⟩),(.int .i64 0)] [(0,1,(.k (.string ⟨#[111,114,97]⟩))),(1,1,(i' 8))]),o' 26 (.build [(.string ⟨#[]⟩),(.int .i64 0)] [(0,1,(.k (.string ⟨#[101,111,114]⟩))),(1,1,(i' 9))]),o' 27 (.build [(.string ⟨#[]⟩),(.int .i64 0)] [(0,1,(.k (.string ⟨#[99,109,112]⟩))),(1,1,(i' 6))]),o' 28 (.bsl [(.string ⟨#[]⟩),(.int .i64 0)] 6 [(0,(.t 22)),(1,(.t 23)),(2,(.t 24)),(3,(.t 25)),(4,(.t 26)),(5,(.t 27))]),aT' 29 28,aV' 30 0] [0,28,29,30]) (.block 0 (.loop c35x15))
def c35x20:AC := .seq (.reg [m' 19 0,o' 20 (.bsl zLI 2 [(0,(i' 2)),(1,(i' 4))]),o' 21 (.call 85 [.t 19,(.k (.string ⟨#[115,116,121]⟩)),(i' 2),(.t 20)])] [0]) (.seq c35x18 c35x7)
def c35x21:AC := .seq (.reg [m' 16 0,o' 17 (.bsl zLI 2 [(0,(i' 2)),(1,(i' 4))]),o' 18 (.call 85 [.t 16,(.k (.string ⟨#[115,116,120]⟩)),(i' 1),(.t 17)])] [0]) c35x20
def c35x22:AC := .seq (.reg [m' 13 0,o' 14 (.bsl zLI 6 [(0,(i' 2)),(1,(i' 3)),(2,(i' 4)),(3,(i' 5)),(4,(i' 6)),(5,(i' 8))]),o' 15 (.call 85 [.t 13,(.k (.string ⟨#[115,116,97]⟩)),(i' 0),(.t 14)])] [0]) c35x21
def c35x23:AC := .seq (.reg [m' 10 0,o' 11 (.bsl zLI 3 [(0,(i' 1)),(1,(i' 2)),(2,(i' 4))]),o' 12 (.call 84 [.t 10,(.k (.string ⟨#[108,100,121]⟩)),(i' 2),(.t 11)])] [0]) c35x22
def c35x24:AC := .seq (.reg [m' 7 0,o' 8 (.bsl zLI 3 [(0,(i' 1)),(1,(i' 2)),(2,(i' 4))]),o' 9 (.call 84 [.t 7,(.k (.string ⟨#[108,100,120]⟩)),(i' 1),(.t 8)])] [0]) c35x23
def c35:AC := .seq (.reg [m' 4 0,o' 5 (.bsl zLI 7 [(0,(i' 1)),(1,(i' 2)),(2,(i' 3)),(3,(i' 4)),(4,(i' 5)),(5,(i' 6)),(6,(i' 8))]),o' 6 (.call 84 [.t 4,(.k (.string ⟨#[108,100,97]⟩)),(i' 0),(.t 5)])] [0]) c35x24
theorem k35:KQ Tryz.prog Tryz.f35 c35 [] := ⟨by kernel_rfl,by kernel_rfl⟩
theorem e35:enters Tryz.prog 35 = true := by kernel_rfl
def c36x0:AC := .reg [m' 103 0,aC' 104 38 [i' 5,i' 4,(.k (.slice none 0 0))],o' 105 (.bsl [(.int .i64 0),(.int .i64 0),(.int .i64 0),(.slice none 0 0)] 1 [(0,(.t 104))]),o' 106 (.call 88 [.t 103,(.k (.string ⟨#[112,108,112]⟩)),(i' 0),(.t 105)])] []
def c36x1:AC := .seq (.reg [m' 99 0,aC' 100 92 [i' 4,i' 4,(.k (.slice none 0 0))],o' 101 (.bsl [(.int .i64 0),(.int .i64 0),(.int .i64 0),(.slice none 0 0)] 1 [(0,(.t 100))]),o' 102 (.call 88 [.t 99,(.k (.string ⟨#[112,104,112]⟩)),(i' 0),(.t 101)])] [0]) c36x0
def c36x2:AC := .seq (.reg [m' 93 0,aC' 94 91 [i' 3,i' 0],o' 95 (.bsl [(.int .i64 0),(.int .i64 0),(.int .i64 0),(.int .i64 0)] 1 [(0,(.t 94))]),aC' 96 38 [i' 5,i' 0,.t 95],o' 97 (.bsl [(.int .i64 0),(.int .i64 0),(.int .i64 0),(.slice none 0 0)] 1 [(0,(.t 96))]),o' 98 (.call 88 [.t 93,(.k (.string ⟨#[112,108,97]⟩)),(i' 0),(.t 97)])] [0]) c36x1
def c36x3:AC := .seq (.reg [m' 89 0,aC' 90 92 [i' 4,i' 0,(.k (.slice none 0 0))],o' 91 (.bsl [(.int .i64 0),(.int .i64 0),(.int .i64 0),(.slice none 0 0)] 1 [(0,(.t 90))]),o' 92 (.call 88 [.t 89,(.k (.string ⟨#[112,104,97]⟩)),(i' 0),(.t 91)])] [0]) c36x2
def c36x4:AC := .seq (.reg [m' 85 0,aC' 86 89 [(.k (.slice none 0 0))],o' 87 (.bsl [(.int .i64 0),(.int .i64 0),(.int .i64 0),(.slice none 0 0)] 1 [(0,(.t 86))]),o' 88 (.call 88 [.t 85,(.k (.string ⟨#[110,111,112]⟩)),(i' 0),(.t 87)])] [0]) c36x3
def c36x5:AC := .seq (.reg [m' 79 0,o' 80 (.build [(.int .i64 0),(.int .i64 0),(.int .i64 0),(.int .i64 0)] [(0,1,(i' 16)),(3,1,(i' 4))]),o' 81 (.bsl [(.int .i64 0),(.int .i64 0),(.int .i64 0),(.int .i64 0)] 1 [(0,(.t 80))]),aC' 82 89 [.t 81],o' 83 (.bsl [(.int .i64 0),(.int .i64 0),(.int .i64 0),(.slice none 0 0)] 1 [(0,(.t 82))]),o' 84 (.call 88 [.t 79,(.k (.string ⟨#[115,101,105]⟩)),(i' 0),(.t 83)])] [0]) c36x4
def c36x6:AC := .seq (.reg [m' 73 0,o' 74 (.build [(.int .i64 0),(.int .i64 0),(.int .i64 0),(.int .i64 0)] [(0,1,(i' 17)),(3,1,(i' 4))]),o' 75 (.bsl [(.int .i64 0),(.int .i64 0),(.int .i64 0),(.int .i64 0)] 1 [(0,(.t 74))]),aC' 76 89 [.t 75],o' 77 (.bsl [(.int .i64 0),(.int .i64 0),(.int .i64 0),(.slice none 0 0)] 1 [(0,(.t 76))]),o' 78 (.call 88 [.t 73,(.k (.string ⟨#[99,108,105]⟩)),(i' 0),(.t 77)])] [0]) c36x5
def c36x7:AC := .seq (.reg [m' 67 0,o' 68 (.build [(.int .i64 0),(.int .i64 0),(.int .i64 0),(.int .i64 0)] [(0,1,(i' 16)),(3,1,(i' 1))]),o' 69 (.bsl [(.int .i64 0),(.int .i64 0),(.int .i64 0),(.int .i64 0)] 1 [(0,(.t 68))]),aC' 70 89 [.t 69],o' 71 (.bsl [(.int .i64 0),(.int .i64 0),(.int .i64 0),(.slice none 0 0)] 1 [(0,(.t 70))]),o' 72 (.call 88 [.t 67,(.k (.string ⟨#[115,101,99]⟩)),(i' 0),(.t 71)])] [0]) c36x6
def c36x8:AC := .seq (.reg [m' 61 0,o' 62 (.build [(.int .i64 0),(.int .i64 0),(.int .i64 0),(.int .i64 0)] [(0,1,(i' 17)),(3,1,(i' 1))]),o' 63 (.bsl [(.int .i64 0),(.int .i64 0),(.int .i64 0),(.int .i64 0)] 1 [(0,(.t 62))]),aC' 64 89 [.t 63],o' 65 (.bsl [(.int .i64 0),(.int .i64 0),(.int .i64 0),(.slice none 0 0)] 1 [(0,(.t 64))]),o' 66 (.call 88 [.t 61,(.k (.string ⟨#[99,108,99]⟩)),(i' 0),(.t 65)])] [0]) c36x7
def c36x9:AC := .seq (.reg [m' 55 0,aC' 56 91 [i' 11,i' 2],o' 57 (.bsl [(.int .i64 0),(.int .i64 0),(.int .i64 0),(.int .i64 0)] 1 [(0,(.t 56))]),aC' 58 89 [.t 57],o' 59 (.bsl [(.int .i64 0),(.int .i64 0),(.int .i64 0),(.slice none 0 0)] 1 [(0,(.t 58))]),o' 60 (.call 88 [.t 55,(.k (.string ⟨#[100,101,121]⟩)),(i' 0),(.t 59)])] [0]) c36x8
def c36x10:AC := .seq (.reg [m' 49 0,aC' 50 91 [i' 11,i' 1],o' 51 (.bsl [(.int .i64 0),(.int .i64 0),(.int .i64 0),(.int .i64 0)] 1 [(0,(.t 50))]),aC' 52 89 [.t 51],o' 53 (.bsl [(.int .i64 0),(.int .i64 0),(.int .i64 0),(.slice none 0 0)] 1 [(0,(.t 52))]),o' 54 (.call 88 [.t 49,(.k (.string ⟨#[100,101,120]⟩)),(i' 0),(.t 53)])] [0]) c36x9
def c36x11:AC := .seq (.reg [m' 43 0,aC' 44 91 [i' 10,i' 2],o' 45 (.bsl [(.int .i64 0),(.int .i64 0),(.int .i64 0),(.int .i64 0)] 1 [(0,(.t 44))]),aC' 46 89 [.t 45],o' 47 (.bsl [(.int .i64 0),(.int .i64 0),(.int .i64 0),(.slice none 0 0)] 1 [(0,(.t 46))]),o' 48 (.call 88 [.t 43,(.k (.string ⟨#[105,110,121]⟩)),(i' 0),(.t 47)])] [0]) c36x10
def c36x12:AC := .seq (.reg [m' 37 0,aC' 38 91 [i' 10,i' 1],o' 39 (.bsl [(.int .i64 0),(.int .i64 0),(.int .i64 0),(.int .i64 0)] 1 [(0,(.t 38))]),aC' 40 89 [.t 39],o' 41 (.bsl [(.int .i64 0),(.int .i64 0),(.int .i64 0),(.slice none 0 0)] 1 [(0,(.t 40))]),o' 42 (.call 88 [.t 37,(.k (.string ⟨#[105,110,120]⟩)),(i' 0),(.t 41)])] [0]) c36x11
def c36x13:AC := .seq (.reg [m' 31 0,aC' 32 90 [i' 1,i' 3,i' 1],o' 33 (.bsl [(.int .i64 0),(.int .i64 0),(.int .i64 0),(.int .i64 0)] 1 [(0,(.t 32))]),aC' 34 89 [.t 33],o' 35 (.bsl [(.int .i64 0),(.int .i64 0),(.int .i64 0),(.slice none 0 0)] 1 [(0,(.t 34))]),o' 36 (.call 88 [.t 31,(.k (.string ⟨#[116,120,115]⟩)),(i' 0),(.t 35)])] [0]) c36x12
def c36x14:AC := .reg [aB' 30 .add (.t 11) (i' 1),m' 11 30] [0,9,10,11]
def c36x15:AC := .dreg [m' 15 0,aF' 16 0 3,aL' 17 16,aF' 18 1 3,aL' 19 18,aF' 20 2 3,aL' 21 20,aC' 22 90 [i' 1,.t 19,.t 21],aF' 23 1 3,aL' 24 23,aC' 25 91 [i' 3,.t 24],o' 26 (.bsl [(.int .i64 0),(.int .i64 0),(.int .i64 0),(.int .i64 0)] 2 [(0,(.t 22)),(1,(.t 25))]),aC' 27 89 [.t 26],o' 28 (.bsl [(.int .i64 0),(.int .i64 0),(.int .i64 0),(.slice none 0 0)] 1 [(0,(.t 27))]),aC' 29 88 [.t 15,.t 17,i' 0,.t 28]] (bf [[],[],[1,2],[],[3,4],[],[5,6],[3,7],[],[8,9],[3,10],[3,11],[3,12],[3,13],[0,14]]) [0,9,10,11]
def c36x16:AC := .seq (.reg [aX' 13 3 9 11,aM' 14 3 13,o' 3 (.zero [(.string ⟨#[]⟩),(.int .i64 0),(.int .i64 0)]),aS' 3 3 14] [0,3,9,10,11]) c36x15
def c36x21:AC := .seq (.reg [aB' 12 .lss (.t 11) (.t 10)] [0,9,10,11,12]) (.seq (.cond (.t 12) .skip (.exit 0)) (.seq (.block 1 c36x16) c36x14))
def c36x24:AC := .seq (.reg [o' 4 (.build [(.string ⟨#[]⟩),(.int .i64 0),(.int .i64 0)] [(0,1,(.k (.string ⟨#[116,97,120]⟩))),(1,1,(i' 1)),(2,1,(i' 0))]),o' 5 (.build [(.string ⟨#[]⟩),(.int .i64 0),(.int .i64 0)] [(0,1,(.k (.string ⟨#[116,97,121]⟩))),(1,1,(i' 2)),(2,1,(i' 0))]),o' 6 (.build [(.string ⟨#[]⟩),(.int .i64 0),(.int .i64 0)] [(0,1,(.k (.string ⟨#[116,120,97]⟩))),(1,1,(i' 0)),(2,1,(i' 1))]),o' 7 (.build [(.string ⟨#[]⟩),(.int .i64 0),(.int .i64 0)] [(0,1,(.k (.string ⟨#[116,121,97]⟩))),(1,1,(i' 0)),(2,1,(i' 2))]),o' 8 (.build [(.string ⟨#[]⟩),(.int .i64 0),(.int .i64 0)] [(0,1,(.k (.string ⟨#[116,115,120]⟩))),(1,1,(i' 1)),(2,1,(i' 3))]),o' 9 (.bsl [(.string ⟨#[]⟩),(.int .i64 0),(.int .i64 0)] 5 [(0,(.t 4)),(1,(.t 5)),(2,(.t 6)),(3,(.t 7)),(4,(.t 8))]),aT' 10 9,aV' 11 0] [0,9,10,11]) (.block 0 (.loop c36x21))
def c36:AC := .seq c36x24 c36x13
theorem k36:KQ Tryz.prog Tryz.f36 c36 [] := ⟨by kernel_rfl,by kernel_rfl⟩
theorem e36:enters Tryz.prog 36 = true := by kernel_rfl
def c37x0:AC := .reg [aB' 66 .add (.t 47) (i' 1),m' 47 66] [0,45,46,47]
def c37x1:AC := .dreg [m' 51 0,aF' 52 0 3,aL' 53 52,aF' 54 2 3,aL' 55 54,aF' 56 1 3,aL' 57 56,o' 58 (.build [(.int .i64 0),(.int .i64 0),(.int .i64 0),(.int .i64 0)] [(0,1,(i' 24)),(2,1,(.t 55)),(3,1,(.t 57))]),o' 59 (.bsl [(.int .i64 0),(.int .i64 0),(.int .i64 0),(.int .i64 0)] 1 [(0,(.t 58))]),aC' 60 38 [i' 0,i' 5,.t 59],aC' 61 90 [i' 23,i' 7,i' 5],o' 62 (.bsl [(.int .i64 0),(.int .i64 0),(.int .i64 0),(.int .i64 0)] 1 [(0,(.t 61))]),aC' 63 89 [.t 62],o' 64 (.bsl [(.int .i64 0),(.int .i64 0),(.int .i64 0),(.slice none 0 0)] 2 [(0,(.t 60)),(1,(.t 63))]),aC' 65 88 [.t 51,.t 53,i' 7,.t 64]] (bf [[],[],[1,2],[],[3,4],[],[5,6],[3,7],[3,8],[3,9],[3,10],[3,11],[3,12],[3,13],[0,14]]) [0,45,46,47]
def c37x2:AC := .seq (.reg [aX' 49 3 45 47,aM' 50 3 49,o' 3 (.zero [(.string ⟨#[]⟩),(.int .i64 0),(.int .i64 0)]),aS' 3 3 50] [0,3,45,46,47]) c37x1
def c37x7:AC := .seq (.reg [aB' 48 .lss (.t 47) (.t 46)] [0,45,46,47,48]) (.seq (.cond (.t 48) .skip (.exit 0)) (.seq (.block 1 c37x2) c37x0))
def c37x10:AC := .seq (.reg [o' 39 (.build [(.string ⟨#[]⟩),(.int .i64 0),(.int .i64 0)] [(0,1,(.k (.string ⟨#[98,101,113]⟩))),(1,1,(i' 2)),(2,1,(i' 1))]),o' 40 (.build [(.string ⟨#[]⟩),(.int .i64 0),(.int .i64 0)] [(0,1,(.k (.string ⟨#[98,110,101]⟩))),(1,1,(i' 2)),(2,1,(i' 0))]),o' 41 (.build [(.string ⟨#[]⟩),(.int .i64 0),(.int .i64 0)] [(0,1,(.k (.string ⟨#[98,99,115]⟩))),(1,1,(i' 1)),(2,1,(i' 1))]),o' 42 (.build [(.string ⟨#[]⟩),(.int .i64 0),(.int .i64 0)] [(0,1,(.k (.string ⟨#[98,99,99]⟩))),(1,1,(i' 1)),(2,1,(i' 0))]),o' 43 (.build [(.string ⟨#[]⟩),(.int .i64 0),(.int .i64 0)] [(0,1,(.k (.string ⟨#[98,109,105]⟩))),(1,1,(i' 128)),(2,1,(i' 1))]),o' 44 (.build [(.string ⟨#[]⟩),(.int .i64 0),(.int .i64 0)] [(0,1,(.k (.string ⟨#[98,112,108]⟩))),(1,1,(i' 128)),(2,1,(i' 0))]),o' 45 (.bsl [(.string ⟨#[]⟩),(.int .i64 0),(.int .i64 0)] 6 [(0,(.t 39)),(1,(.t 40)),(2,(.t 41)),(3,(.t 42)),(4,(.t 43)),(5,(.t 44))]),aT' 46 45,aV' 47 0] [0,45,46,47]) (.block 0 (.loop c37x7))
def c37x11:AC := .seq (.reg [m' 32 0,aC' 33 38 [i' 5,i' 4,(.k (.slice none 0 0))],aC' 34 38 [i' 5,i' 5,(.k (.slice none 0 0))],aC' 35 39 [i' 7],aC' 36 38 [i' 5,i' 6,.t 35],o' 37 (.bsl [(.int .i64 0),(.int .i64 0),(.int .i64 0),(.slice none 0 0)] 3 [(0,(.t 33)),(1,(.t 34)),(2,(.t 36))]),o' 38 (.call 88 [.t 32,(.k (.string ⟨#[114,116,105]⟩)),(i' 0),(.t 37)])] [0]) c37x10
def c37x12:AC := .seq (.reg [m' 26 0,aC' 27 38 [i' 5,i' 5,(.k (.slice none 0 0))],aC' 28 39 [i' 7],aC' 29 38 [i' 5,i' 6,.t 28],o' 30 (.bsl [(.int .i64 0),(.int .i64 0),(.int .i64 0),(.slice none 0 0)] 2 [(0,(.t 27)),(1,(.t 29))]),o' 31 (.call 88 [.t 26,(.k (.string ⟨#[114,116,115]⟩)),(i' 0),(.t 30)])] [0]) c37x11
def c37x13:AC := .seq (.reg [m' 10 0,aC' 11 90 [i' 18,i' 8,i' 5],o' 12 (.bsl [(.int .i64 0),(.int .i64 0),(.int .i64 0),(.int .i64 0)] 1 [(0,(.t 11))]),aC' 13 38 [i' 0,i' 5,.t 12],aC' 14 90 [i' 19,i' 8,i' 5],aC' 15 90 [i' 21,i' 5,i' 7],o' 16 (.bsl [(.int .i64 0),(.int .i64 0),(.int .i64 0),(.int .i64 0)] 2 [(0,(.t 14)),(1,(.t 15))]),aC' 17 38 [i' 0,i' 5,.t 16],aC' 18 90 [i' 20,i' 5,i' 7],o' 19 (.bsl [(.int .i64 0),(.int .i64 0),(.int .i64 0),(.int .i64 0)] 1 [(0,(.t 18))]),aC' 20 92 [i' 4,i' 5,.t 19],aC' 21 90 [i' 1,i' 7,i' 8],o' 22 (.bsl [(.int .i64 0),(.int .i64 0),(.int .i64 0),(.int .i64 0)] 1 [(0,(.t 21))]),aC' 23 92 [i' 4,i' 5,.t 22],o' 24 (.bsl [(.int .i64 0),(.int .i64 0),(.int .i64 0),(.slice none 0 0)] 4 [(0,(.t 13)),(1,(.t 17)),(2,(.t 20)),(3,(.t 23))]),o' 25 (.call 88 [.t 10,(.k (.string ⟨#[106,115,114]⟩)),(i' 4),(.t 24)])] [0]) c37x12
def c37:AC := .seq (.reg [m' 4 0,aC' 5 38 [i' 0,i' 5,(.k (.slice none 0 0))],aC' 6 39 [i' 7],aC' 7 38 [i' 0,i' 6,.t 6],o' 8 (.bsl [(.int .i64 0),(.int .i64 0),(.int .i64 0),(.slice none 0 0)] 2 [(0,(.t 5)),(1,(.t 7))]),o' 9 (.call 88 [.t 4,(.k (.string ⟨#[106,109,112]⟩)),(i' 4),(.t 8)])] [0]) c37x13
theorem k37:KQ Tryz.prog Tryz.f37 c37 [] := ⟨by kernel_rfl,by kernel_rfl⟩
theorem e37:enters Tryz.prog 37 = true := by kernel_rfl
def c38x0:AC := .seq (.reg [m' 7 0,m' 8 1,m' 9 2,o' 10 (.build [(.int .i64 0),(.int .i64 0),(.int .i64 0),(.slice none 0 0)] [(0,1,(i' 1)),(1,1,(.t 7)),(2,1,(.t 8)),(3,1,(.t 9))]),aS' 4 6 10] [6]) .ret
def c38:AC := .seq (.reg [o' 6 (.zero [(.int .i64 0),(.int .i64 0),(.int .i64 0),(.slice none 0 0)])] [0,1,2,6]) c38x0
theorem k38:KQ Tryz.prog Tryz.f38 c38 [.cell (some 4) 6] := ⟨by kernel_rfl,by kernel_rfl⟩
theorem e38:enters Tryz.prog 38 = true := by kernel_rfl
def c39x0:AC := .seq (.reg [m' 3 0,aC' 4 90 [i' 18,.t 3,i' 5],m' 5 0,aC' 6 90 [i' 19,.t 5,i' 6],o' 7 (.bsl [(.int .i64 0),(.int .i64 0),(.int .i64 0),(.int .i64 0)] 2 [(0,(.t 4)),(1,(.t 6))]),m' 2 7] [2]) .ret
def c39:AC := .seq (.reg [o' 2 (.mv (.k (.slice none 0 0)))] [0]) c39x0
theorem k39:KQ Tryz.prog Tryz.f39 c39 [.t 2] := ⟨by kernel_rfl,by kernel_rfl⟩
theorem e39:enters Tryz.prog 39 = true := by kernel_rfl
def c40x0:AC := .seq (.reg [aC' 5 90 [i' 21,i' 5,i' 7],o' 6 (.bsl [(.int .i64 0),(.int .i64 0),(.int .i64 0),(.int .i64 0)] 1 [(0,(.t 5))]),aC' 7 89 [.t 6],aC' 8 90 [i' 20,i' 5,i' 7],o' 9 (.bsl [(.int .i64 0),(.int .i64 0),(.int .i64 0),(.int .i64 0)] 1 [(0,(.t 8))]),aC' 10 92 [i' 4,i' 5,.t 9],aC' 11 92 [i' 4,i' 5,(.k (.slice none 0 0))],o' 12 (.build [(.int .i64 0),(.int .i64 0),(.int .i64 0),(.int .i64 0)] [(0,1,(i' 16)),(3,1,(i' 4))]),o' 13 (.bsl [(.int .i64 0),(.int .i64 0),(.int .i64 0),(.int .i64 0)] 1 [(0,(.t 12))]),aC' 14 92 [i' 4,i' 4,.t 13],m' 15 0,aC' 16 38 [.t 15,i' 5,(.k (.slice none 0 0))],m' 17 1,aC' 18 39 [i' 7],aC' 19 38 [.t 17,i' 6,.t 18],o' 20 (.bsl [(.int .i64 0),(.int .i64 0),(.int .i64 0),(.slice none 0 0)] 6 [(0,(.t 7)),(1,(.t 10)),(2,(.t 11)),(3,(.t 14)),(4,(.t 16)),(5,(.t 19))]),m' 4 20] [4]) .ret
def c40:AC := .seq (.reg [o' 4 (.mv (.k (.slice none 0 0)))] [0,1]) c40x0
theorem k40:KQ Tryz.prog Tryz.f40 c40 [.t 4] := ⟨by kernel_rfl,by kernel_rfl⟩
theorem e40:enters Tryz.prog 40 = true := by kernel_rfl
def c84x0:AC := .reg [aB' 27 .add (.t 12) (i' 1),m' 12 27] [0,1,2,10,11,12]
def c84x1:AC := .reg [m' 16 0,m' 17 1,m' 18 9,m' 19 9,m' 20 2,aC' 21 90 [i' 1,.t 20,i' 5],m' 22 2,aC' 23 91 [i' 3,.t 22],o' 24 (.bsl [(.int .i64 0),(.int .i64 0),(.int .i64 0),(.int .i64 0)] 2 [(0,(.t 21)),(1,(.t 23))]),aC' 25 141 [.t 19,.t 24],aC' 26 88 [.t 16,.t 17,.t 18,.t 25]] [0,1,2,10,11,12]
def c84x2:AC := .seq (.reg [aX' 14 1 10 12,aL' 15 14,m' 9 15] [0,1,2,9,10,11,12]) c84x1
def c84x7:AC := .seq (.reg [aB' 13 .lss (.t 12) (.t 11)] [0,1,2,10,11,12,13]) (.seq (.cond (.t 13) .skip (.exit 0)) (.seq (.block 1 c84x2) c84x0))
def c84:AC := .seq (.reg [m' 10 3,aT' 11 10,aV' 12 0] [0,1,2,10,11,12]) (.block 0 (.loop c84x7))
theorem k84:KQ Tryz.prog Tryz.f84 c84 [] := ⟨by kernel_rfl,by kernel_rfl⟩
theorem e84:enters Tryz.prog 84 = true := by kernel_rfl
def c85x0:AC := .reg [aB' 26 .add (.t 12) (i' 1),m' 12 26] [0,1,2,10,11,12]
def c85x1:AC := .reg [m' 16 0,m' 17 1,m' 18 9,m' 19 9,aC' 20 142 [.t 19],m' 21 2,aC' 22 92 [i' 2,.t 21,(.k (.slice none 0 0))],o' 23 (.bsl [(.int .i64 0),(.int .i64 0),(.int .i64 0),(.slice none 0 0)] 1 [(0,(.t 22))]),o' 24 (.app 4 48 (.t 20) (.t 23)),aC' 25 88 [.t 16,.t 17,.t 18,.t 24]] [0,1,2,10,11,12]
def c85x2:AC := .seq (.reg [aX' 14 1 10 12,aL' 15 14,m' 9 15] [0,1,2,9,10,11,12]) c85x1
def c85x7:AC := .seq (.reg [aB' 13 .lss (.t 12) (.t 11)] [0,1,2,10,11,12,13]) (.seq (.cond (.t 13) .skip (.exit 0)) (.seq (.block 1 c85x2) c85x0))
def c85:AC := .seq (.reg [m' 10 3,aT' 11 10,aV' 12 0] [0,1,2,10,11,12]) (.block 0 (.loop c85x7))
theorem k85:KQ Tryz.prog Tryz.f85 c85 [] := ⟨by kernel_rfl,by kernel_rfl⟩
theorem e85:enters Tryz.prog 85 = true := by kernel_rfl
def c86x0:AC := .reg [aB' 28 .add (.t 14) (i' 1),m' 14 28] [0,1,2,3,12,13,14]
def c86x1:AC := .reg [m' 18 0,m' 19 1,m' 20 11,m' 21 11,m' 22 2,m' 23 3,aC' 24 90 [.t 22,.t 23,i' 5],o' 25 (.bsl [(.int .i64 0),(.int .i64 0),(.int .i64 0),(.int .i64 0)] 1 [(0,(.t 24))]),aC' 26 141 [.t 21,.t 25],aC' 27 88 [.t 18,.t 19,.t 20,.t 26]] [0,1,2,3,12,13,14]
def c86x2:AC := .seq (.reg [aX' 16 1 12 14,aL' 17 16,m' 11 17] [0,1,2,3,11,12,13,14]) c86x1
def c86x7:AC := .seq (.reg [aB' 15 .lss (.t 14) (.t 13)] [0,1,2,3,12,13,14,15]) (.seq (.cond (.t 15) .skip (.exit 0)) (.seq (.block 1 c86x2) c86x0))
def c86:AC := .seq (.reg [m' 12 4,aT' 13 12,aV' 14 0] [0,1,2,3,12,13,14]) (.block 0 (.loop c86x7))
theorem k86:KQ Tryz.prog Tryz.f86 c86 [] := ⟨by kernel_rfl,by kernel_rfl⟩
theorem e86:enters Tryz.prog 86 = true := by kernel_rfl
def c87x0:AC := .reg [aB' 40 .add (.t 12) (i' 1),m' 12 40] [0,1,2,10,11,12]
def c87x1:AC := .reg [m' 27 0,m' 28 1,m' 29 9,m' 30 9,aC' 31 142 [.t 30],m' 32 2,aC' 33 91 [.t 32,i' 5],o' 34 (.bsl [(.int .i64 0),(.int .i64 0),(.int .i64 0),(.int .i64 0)] 1 [(0,(.t 33))]),aC' 35 38 [i' 2,i' 5,.t 34],aC' 36 92 [i' 2,i' 5,(.k (.slice none 0 0))],o' 37 (.bsl [(.int .i64 0),(.int .i64 0),(.int .i64 0),(.slice none 0 0)] 2 [(0,(.t 35)),(1,(.t 36))]),o' 38 (.app 4 48 (.t 31) (.t 37)),aC' 39 88 [.t 27,.t 28,.t 29,.t 38]] [0,1,2,10,11,12]
def c87x2:AC := .seq (.reg [m' 18 0,m' 19 1,m' 20 9,m' 21 2,aC' 22 91 [.t 21,i' 0],o' 23 (.bsl [(.int .i64 0),(.int .i64 0),(.int .i64 0),(.int .i64 0)] 1 [(0,(.t 22))]),aC' 24 89 [.t 23],o' 25 (.bsl [(.int .i64 0),(.int .i64 0),(.int .i64 0),(.slice none 0 0)] 1 [(0,(.t 24))]),aC' 26 88 [.t 18,.t 19,.t 20,.t 25]] [0,1,2,10,11,12]) (.exit 1)
def c87x4:AC := .seq (.reg [m' 16 9,aB' 17 .eql (.t 16) (i' 0)] [0,1,2,9,10,11,12,17]) (.cond (.t 17) c87x2 .skip)
def c87x6:AC := .seq (.reg [aX' 14 1 10 12,aL' 15 14,m' 9 15] [0,1,2,9,10,11,12]) (.seq c87x4 c87x1)
def c87x11:AC := .seq (.reg [aB' 13 .lss (.t 12) (.t 11)] [0,1,2,10,11,12,13]) (.seq (.cond (.t 13) .skip (.exit 0)) (.seq (.block 1 c87x6) c87x0))
def c87:AC := .seq (.reg [m' 10 3,aT' 11 10,aV' 12 0] [0,1,2,10,11,12]) (.block 0 (.loop c87x11))
theorem k87:KQ Tryz.prog Tryz.f87 c87 [] := ⟨by kernel_rfl,by kernel_rfl⟩
theorem e87:enters Tryz.prog 87 = true := by kernel_rfl
def c88:AC := .dreg [m' 8 0,m' 9 0,aN' 10 9,aF' 11 0 10,aL' 12 11,m' 13 0,aN' 14 13,aF' 15 0 14,aL' 16 15,aT' 17 16,aB' 18 .add (.t 17) (i' 1),m' 19 1,m' 20 2,m' 21 3,o' 22 (.build [(.int .i64 0),(.string ⟨#[]⟩),(.int .i64 0),(.slice none 0 0)] [(0,1,(.t 18)),(1,1,(.t 19)),(2,1,(.t 20)),(3,1,(.t 21))]),o' 23 (.bsl [(.int .i64 0),(.string ⟨#[]⟩),(.int .i64 0),(.slice none 0 0)] 1 [(0,(.t 22))]),o' 24 (.app 4 56 (.t 12) (.t 23)),aN' 25 8,aF' 26 0 25,aS' 1 26 24] (bf [[],[],[1,2],[1,3],[1,4],[],[5,6],[5,7],[5,8],[5,9],[5,10],[],[],[],[5,14],[5,15],[1,16],[0,17],[0,18],[0,19]]) []
theorem k88:KQ Tryz.prog Tryz.f88 c88 [] := ⟨by kernel_rfl,by kernel_rfl⟩
theorem e88:enters Tryz.prog 88 = true := by kernel_rfl
def c89x0:AC := .seq (.reg [m' 3 0,o' 4 (.build [(.int .i64 0),(.int .i64 0),(.int .i64 0),(.slice none 0 0)] [(3,1,(.t 3))]),aS' 4 2 4] [2]) .ret
def c89:AC := .seq (.reg [o' 2 (.zero [(.int .i64 0),(.int .i64 0),(.int .i64 0),(.slice none 0 0)])] [0,2]) c89x0
theorem k89:KQ Tryz.prog Tryz.f89 c89 [.cell (some 4) 2] := ⟨by kernel_rfl,by kernel_rfl⟩
theorem e89:enters Tryz.prog 89 = true := by kernel_rfl
def c90x0:AC := .seq (.reg [m' 7 0,m' 8 1,m' 9 2,o' 10 (.build [(.int .i64 0),(.int .i64 0),(.int .i64 0),(.int .i64 0)] [(0,1,(.t 7)),(1,1,(.t 8)),(2,1,(.t 9))]),aS' 4 6 10] [6]) .ret
def c90:AC := .seq (.reg [o' 6 (.zero [(.int .i64 0),(.int .i64 0),(.int .i64 0),(.int .i64 0)])] [0,1,2,6]) c90x0
theorem k90:KQ Tryz.prog Tryz.f90 c90 [.cell (some 4) 6] := ⟨by kernel_rfl,by kernel_rfl⟩
theorem e90:enters Tryz.prog 90 = true := by kernel_rfl
def c91x0:AC := .seq (.reg [m' 5 0,m' 6 1,o' 7 (.build [(.int .i64 0),(.int .i64 0),(.int .i64 0),(.int .i64 0)] [(0,1,(.t 5)),(1,1,(.t 6))]),aS' 4 4 7] [4]) .ret
def c91:AC := .seq (.reg [o' 4 (.zero [(.int .i64 0),(.int .i64 0),(.int .i64 0),(.int .i64 0)])] [0,1,4]) c91x0
theorem k91:KQ Tryz.prog Tryz.f91 c91 [.cell (some 4) 4] := ⟨by kernel_rfl,by kernel_rfl⟩
theorem e91:enters Tryz.prog 91 = true := by kernel_rfl
def c92x0:AC := .seq (.reg [m' 7 0,m' 8 1,m' 9 2,o' 10 (.build [(.int .i64 0),(.int .i64 0),(.int .i64 0),(.slice none 0 0)] [(0,1,(i' 2)),(1,1,(.t 7)),(2,1,(.t 8)),(3,1,(.t 9))]),aS' 4 6 10] [6]) .ret
def c92:AC := .seq (.reg [o' 6 (.zero [(.int .i64 0),(.int .i64 0),(.int .i64 0),(.slice none 0 0)])] [0,1,2,6]) c92x0
theorem k92:KQ Tryz.prog Tryz.f92 c92 [.cell (some 4) 6] := ⟨by kernel_rfl,by kernel_rfl⟩
theorem e92:enters Tryz.prog 92 = true := by kernel_rfl
def c141x0:AC := .seq (.reg [m' 8 0,aC' 9 142 [.t 8],m' 10 5,m' 11 1,aC' 12 38 [.t 10,i' 5,.t 11],o' 13 (.bsl [(.int .i64 0),(.int .i64 0),(.int .i64 0),(.slice none 0 0)] 1 [(0,(.t 12))]),o' 14 (.app 4 48 (.t 9) (.t 13)),m' 4 14] [4]) .ret
def c141x3:AC := .seq (.reg [m' 6 0,aB' 7 .eql (.t 6) (i' 1)] [0,1,5,7]) (.cond (.t 7) (.reg [aV' 5 0] [0,1,5]) .skip)
def c141:AC := .seq (.reg [o' 4 (.mv (.k (.slice none 0 0)))] [0,1]) (.seq (.reg [aV' 5 2] [0,1,5]) (.seq c141x3 c141x0))
theorem k141:KQ Tryz.prog Tryz.f141 c141 [.t 4] := ⟨by kernel_rfl,by kernel_rfl⟩
theorem e141:enters Tryz.prog 141 = true := by kernel_rfl
def c142x1:AC := .seq (.reg [aM' 19 4 3,o' 20 (.bsl [(.int .i64 0),(.int .i64 0),(.int .i64 0),(.slice none 0 0)] 1 [(0,(.t 19))]),m' 2 20] [2]) .ret
def c142x2:AC := .seq (.dreg [aM' 29 4 3,aC' 30 90 [i' 20,i' 5,i' 8],aC' 31 174 [],aC' 32 90 [i' 18,i' 8,i' 5],o' 33 (.bsl [(.int .i64 0),(.int .i64 0),(.int .i64 0),(.int .i64 0)] 3 [(0,(.t 30)),(1,(.t 31)),(2,(.t 32))]),aC' 34 89 [.t 33],o' 35 (.bsl [(.int .i64 0),(.int .i64 0),(.int .i64 0),(.slice none 0 0)] 2 [(0,(.t 29)),(1,(.t 34))]),m' 2 35] (bf [[],[],[1,2],[1,3],[1,4],[1,5],[0,6],[0,7]]) [2]) .ret
def c142x3:AC := .seq (.dreg [aF' 23 3 3,aL' 24 23,aC' 25 90 [i' 22,i' 8,i' 1],o' 26 (.bsl [(.int .i64 0),(.int .i64 0),(.int .i64 0),(.int .i64 0)] 1 [(0,(.t 25))]),o' 27 (.app 4 32 (.t 24) (.t 26)),aF' 28 3 3,aS' 1 28 27] (bf [[],[0,1],[],[2,3],[0,4],[0,5],[0,6]]) [3]) c142x2
def c142x4:AC := .seq (.reg [aM' 38 4 4,aM' 39 4 5,o' 40 (.bsl [(.int .i64 0),(.int .i64 0),(.int .i64 0),(.slice none 0 0)] 2 [(0,(.t 38)),(1,(.t 39))]),m' 2 40] [2]) .ret
def c142x5:AC := .seq (.dreg [aM' 43 4 4,aM' 44 4 5,aC' 45 90 [i' 22,i' 8,i' 1],o' 46 (.bsl [(.int .i64 0),(.int .i64 0),(.int .i64 0),(.int .i64 0)] 1 [(0,(.t 45))]),aC' 47 89 [.t 46],o' 48 (.bsl [(.int .i64 0),(.int .i64 0),(.int .i64 0),(.slice none 0 0)] 3 [(0,(.t 43)),(1,(.t 44)),(2,(.t 47))]),m' 2 48] (bf [[],[],[],[2,3],[2,4],[0,5],[0,6]]) [2]) .ret
def c142x6:AC := .seq (.dreg [aM' 51 4 4,aM' 52 4 5,aC' 53 90 [i' 22,i' 8,i' 2],o' 54 (.bsl [(.int .i64 0),(.int .i64 0),(.int .i64 0),(.int .i64 0)] 1 [(0,(.t 53))]),aC' 55 89 [.t 54],o' 56 (.bsl [(.int .i64 0),(.int .i64 0),(.int .i64 0),(.slice none 0 0)] 3 [(0,(.t 51)),(1,(.t 52)),(2,(.t 55))]),m' 2 56] (bf [[],[],[],[2,3],[2,4],[0,5],[0,6]]) [2]) .ret
def c142x7:AC := .seq (.dreg [aM' 59 4 3,aC' 60 38 [i' 2,i' 5,(.k (.slice none 0 0))],aC' 61 39 [i' 8],aC' 62 90 [i' 22,i' 8,i' 2],o' 63 (.bsl [(.int .i64 0),(.int .i64 0),(.int .i64 0),(.int .i64 0)] 1 [(0,(.t 62))]),o' 64 (.app 4 32 (.t 61) (.t 63)),aC' 65 38 [i' 3,i' 6,.t 64],o' 66 (.bsl [(.int .i64 0),(.int .i64 0),(.int .i64 0),(.slice none 0 0)] 3 [(0,(.t 59)),(1,(.t 60)),(2,(.t 65))]),m' 2 66] (bf [[],[],[1,2],[1,3],[1,4],[1,5],[1,6],[0,7],[0,8]]) [2]) .ret
def c142x9:AC := .seq (.reg [aB' 58 .eql (.t 16) (i' 8),m' 57 58] [3,57]) (.cond (.t 57) c142x7 .skip)
def c142x11:AC := .seq (.reg [aB' 50 .eql (.t 16) (i' 6),m' 49 50] [3,4,5,16,49]) (.cond (.t 49) c142x6 c142x9)
def c142x13:AC := .seq (.reg [aB' 42 .eql (.t 16) (i' 5),m' 41 42] [3,4,5,16,41]) (.cond (.t 41) c142x5 c142x11)
def c142x15:AC := .seq (.reg [aB' 37 .eql (.t 16) (i' 4),m' 36 37] [3,4,5,16,36]) (.cond (.t 36) c142x4 c142x13)
def c142x17:AC := .seq (.reg [aB' 22 .eql (.t 16) (i' 3),m' 21 22] [3,4,5,16,21]) (.cond (.t 21) c142x3 c142x15)
def c142x19:AC := .seq (.reg [aB' 18 .eql (.t 16) (i' 2),m' 17 18] [3,4,5,16,17]) (.cond (.t 17) c142x1 c142x17)
def c142x23:AC := .seq (.reg [aC' 13 90 [i' 19,i' 8,i' 5],o' 14 (.bsl [(.int .i64 0),(.int .i64 0),(.int .i64 0),(.int .i64 0)] 1 [(0,(.t 13))]),aC' 15 38 [i' 0,i' 5,.t 14],o' 5 (.zero [(.int .i64 0),(.int .i64 0),(.int .i64 0),(.slice none 0 0)]),aS' 4 5 15] [0,3,4,5]) (.seq (.seq (.reg [m' 16 0] [3,4,5,16]) (.block 0 c142x19)) (.seq (.reg [o' 2 (.mv (.k (.slice none 0 0)))] [2]) .ret))
def c142x24:AC := .seq (.reg [aC' 10 90 [i' 18,i' 8,i' 5],o' 11 (.bsl [(.int .i64 0),(.int .i64 0),(.int .i64 0),(.int .i64 0)] 1 [(0,(.t 10))]),aC' 12 38 [i' 0,i' 5,.t 11],o' 4 (.zero [(.int .i64 0),(.int .i64 0),(.int .i64 0),(.slice none 0 0)]),aS' 4 4 12] [0,3,4]) c142x23
def c142x25:AC := .seq (.reg [aC' 6 174 [],aC' 7 90 [i' 18,i' 8,i' 5],o' 8 (.bsl [(.int .i64 0),(.int .i64 0),(.int .i64 0),(.int .i64 0)] 2 [(0,(.t 6)),(1,(.t 7))]),aC' 9 38 [i' 0,i' 5,.t 8],o' 3 (.zero [(.int .i64 0),(.int .i64 0),(.int .i64 0),(.slice none 0 0)]),aS' 4 3 9] [0,3]) c142x24
def c142:AC := .seq (.reg [o' 2 (.mv (.k (.slice none 0 0)))] [0]) c142x25
theorem k142:KQ Tryz.prog Tryz.f142 c142 [.t 2] := ⟨by kernel_rfl,by kernel_rfl⟩
theorem e142:enters Tryz.prog 142 = true := by kernel_rfl
def c174x0:AC := .seq (.reg [o' 1 (.build [(.int .i64 0),(.int .i64 0),(.int .i64 0),(.int .i64 0)] [(0,1,(i' 2)),(1,1,(i' 8))]),aS' 4 0 1] [0]) .ret
def c174:AC := .seq (.reg [o' 0 (.zero [(.int .i64 0),(.int .i64 0),(.int .i64 0),(.int .i64 0)])] [0]) c174x0
theorem k174:KQ Tryz.prog Tryz.f174 c174 [.cell (some 4) 0] := ⟨by kernel_rfl,by kernel_rfl⟩
theorem e174:enters Tryz.prog 174 = true := by kernel_rfl
def c55x0:AC := .seq (.reg [o' 12 (.mksl zLI 8 (i' 10) (i' 10)),m' 13 3,o' 14 (.build [(.slice none 0 0),(.slice none 0 0)] [(0,1,(.t 12)),(1,1,(.t 13))]),aS' 2 2 14] [2]) .ret
def c55x1:AC := .seq (.reg [m' 9 3,m' 10 0,o' 11 (.copy 1 (.t 9) (.t 10))] [2,3]) c55x0
def c55x2:AC := .seq (.reg [m' 4 0,aT' 5 4,aB' 6 .quo (.t 5) (i' 256),aB' 7 .mul (.t 6) (i' 256),o' 8 (.mksl [(.int .u8 0)] 1 (.t 7) (.t 7)),m' 3 8] [0,2,3]) c55x1
def c55:AC := .seq (.reg [o' 2 (.zero [(.slice none 0 0),(.slice none 0 0)])] [0,2]) c55x2
theorem k55:KQ Tryz.prog Tryz.f55 c55 [.cell (some 2) 2] := ⟨by kernel_rfl,by kernel_rfl⟩
theorem e55:enters Tryz.prog 55 = true := by kernel_rfl
def c76x0:AC := .seq (.reg [m' 39 7,m' 40 8,o' 41 (.build [(.slice none 0 0),(.slice none 0 0)] [(0,1,(.t 39)),(1,1,(.t 40))]),aS' 2 6 41] [6]) .ret
def c76x1:AC := .reg [m' 17 7,m' 18 2,aC' 19 27 [.t 18,i' 8],aC' 20 137 [.t 17,.t 19]] [6,7,8]
def c76x2:AC := .reg [m' 31 7,o' 32 (.idx 1 none (.t 31) (i' 7)),n' (.st 1 (.t 32) (i' 0))] [6,7,8]
def c76x4:AC := .seq (.reg [m' 27 7,o' 28 (.idx 1 none (.t 27) (i' 2)),aL' 29 28,aB' 30 .eql (.t 29) (i' 4)] [6,7,8,30]) (.cond (.t 30) c76x2 .skip)
def c76x5:AC := .seq (.reg [m' 23 7,m' 24 2,aC' 25 27 [.t 24,i' 8],o' 26 (.idx 1 none (.t 23) (i' 6)),aS' 1 26 25] [6,7,8]) c76x4
def c76x6:AC := .reg [m' 35 7,m' 36 2,aC' 37 27 [.t 36,i' 1],o' 38 (.idx 1 none (.t 35) (i' 9)),aS' 1 38 37] [6,7,8]
def c76x8:AC := .seq (.reg [aB' 34 .eql (.t 14) (i' 3),m' 33 34] [2,6,7,8,33]) (.cond (.t 33) c76x6 .skip)
def c76x10:AC := .seq (.reg [aB' 22 .eql (.t 14) (i' 1),m' 21 22] [2,6,7,8,14,21]) (.cond (.t 21) c76x5 c76x8)
def c76x12:AC := .seq (.reg [aB' 16 .eql (.t 14) (i' 0),m' 15 16] [2,6,7,8,14,15]) (.cond (.t 15) c76x1 c76x10)
def c76x16:AC := .seq (.reg [aM' 10 2 3,aC' 11 136 [.t 10],m' 9 11,aE' 12 9 0,aE' 13 9 1,m' 7 12,m' 8 13] [1,2,6,7,8]) (.seq (.seq (.reg [m' 14 1] [2,6,7,8,14]) (.block 0 c76x12)) c76x0)
def c76:AC := .seq (.reg [o' 3 (.new 2 (.t 0)),o' 6 (.zero [(.slice none 0 0),(.slice none 0 0)])] [1,2,3,6]) c76x16
theorem k76:KQ Tryz.prog Tryz.f76 c76 [.cell (some 2) 6] := ⟨by kernel_rfl,by kernel_rfl⟩
theorem e76:enters Tryz.prog 76 = true := by kernel_rfl
def c83x0:AC := .seq (.reg [m' 59 6,m' 60 7,o' 61 (.build [(.slice none 0 0),(.slice none 0 0)] [(0,1,(.t 59)),(1,1,(.t 60))]),m' 62 8,aS' 2 4 61,m' 5 62] [4,5]) .ret
def c83x1:AC := .reg [m' 36 6,o' 37 (.idx 1 none (.t 36) (i' 8)),n' (.st 1 (.t 37) (i' 0))] [4,6,7,8]
def c83x2:AC := .seq (.dreg [m' 22 6,aC' 23 140 [.t 22],m' 24 6,o' 25 (.idx 1 none (.t 24) (i' 7)),aL' 26 25,aB' 27 .shl (.t 26) (.k (.int .u64 1)),aB' 28 .or (.t 23) (.t 27),m' 29 6,o' 30 (.idx 1 none (.t 29) (i' 8)),aL' 31 30,aB' 32 .shl (.t 31) (.k (.int .u64 2)),aB' 33 .or (.t 28) (.t 32),m' 34 9,aB' 35 .or (.t 33) (.t 34),m' 8 35] (bf [[],[0,1],[],[2,3],[2,4],[2,5],[0,6],[],[7,8],[7,9],[7,10],[0,11],[],[0,13],[0,14]]) [4,6,7,8]) c83x1
def c83x5:AC := .seq (.reg [m' 18 6,o' 19 (.idx 1 none (.t 18) (i' 0)),aL' 20 19,aB' 21 .eql (.t 20) (i' 0)] [4,6,7,9,21]) (.cond (.t 21) (.reg [aV' 9 8] [4,6,7,9]) .skip)
def c83x8:AC := .reg [m' 47 6,o' 48 (.idx 1 none (.t 47) (i' 7)),n' (.st 1 (.t 48) (i' 0))] [4,6,7,8]
def c83x10:AC := .seq (.reg [m' 43 6,o' 44 (.idx 1 none (.t 43) (i' 2)),aL' 45 44,aB' 46 .neq (.t 45) (i' 4)] [4,6,7,8,46]) (.cond (.t 46) c83x8 .skip)
def c83x11:AC := .seq (.reg [m' 40 6,o' 41 (.idx 1 none (.t 40) (i' 6)),aL' 42 41,m' 8 42] [4,6,7,8]) c83x10
def c83x12:AC := .reg [m' 51 6,o' 52 (.idx 1 none (.t 51) (i' 1)),aL' 53 52,m' 8 53] [4,6,7,8]
def c83x13:AC := .reg [m' 56 6,o' 57 (.idx 1 none (.t 56) (i' 9)),aL' 58 57,m' 8 58] [4,6,7,8]
def c83x15:AC := .seq (.reg [aB' 55 .eql (.t 15) (i' 3),m' 54 55] [4,6,7,8,54]) (.cond (.t 54) c83x13 .skip)
def c83x17:AC := .seq (.reg [aB' 50 .eql (.t 15) (i' 2),m' 49 50] [4,6,7,8,15,49]) (.cond (.t 49) c83x12 c83x15)
def c83x19:AC := .seq (.reg [aB' 39 .eql (.t 15) (i' 1),m' 38 39] [4,6,7,8,15,38]) (.cond (.t 38) c83x11 c83x17)
def c83x21:AC := .seq (.reg [aB' 17 .eql (.t 15) (i' 0),m' 16 17] [4,6,7,8,15,16]) (.cond (.t 16) (.seq (.reg [aV' 9 0] [4,6,7,9]) (.seq c83x5 c83x2)) c83x19)
def c83x26:AC := .seq (.reg [aM' 11 2 2,aC' 12 136 [.t 11],m' 10 12,aE' 13 10 0,aE' 14 10 1,m' 6 13,m' 7 14] [1,4,6,7]) (.seq (.reg [aV' 8 0] [1,4,6,7,8]) (.seq (.seq (.reg [m' 15 1] [4,6,7,8,15]) (.block 0 c83x21)) c83x0))
def c83:AC := .seq (.reg [o' 2 (.new 2 (.t 0)),o' 4 (.zero [(.slice none 0 0),(.slice none 0 0)]),aV' 5 0] [1,2,4]) c83x26
theorem k83:KQ Tryz.prog Tryz.f83 c83 [.cell (some 2) 4,.t 5] := ⟨by kernel_rfl,by kernel_rfl⟩
theorem e83:enters Tryz.prog 83 = true := by kernel_rfl
def c126x0:AC := .seq (.reg [m' 10 3,o' 11 (.idx 1 none (.t 10) (i' 1)),aL' 12 11,m' 2 12] [2]) .ret
def c126x1:AC := .seq (.reg [aM' 6 2 1,aC' 7 136 [.t 6],m' 5 7,aE' 8 5 0,aE' 9 5 1,m' 3 8,m' 4 9] [3]) c126x0
def c126:AC := .seq (.reg [o' 1 (.new 2 (.t 0)),aV' 2 0] [1]) c126x1
theorem k126:KQ Tryz.prog Tryz.f126 c126 [.t 2] := ⟨by kernel_rfl,by kernel_rfl⟩
theorem e126:enters Tryz.prog 126 = true := by kernel_rfl
def c136x0:AC := .seq (.reg [m' 53 4,m' 54 7,m' 2 53,m' 3 54] [2,3]) .ret
def c136x1:AC := .reg [m' 51 4,o' 52 (.idx 1 none (.t 51) (i' 2)),n' (.st 1 (.t 52) (i' 0))] [4,7]
def c136x3:AC := .seq (.reg [m' 47 4,o' 48 (.idx 1 none (.t 47) (i' 2)),aL' 49 48,aB' 50 .gtr (.t 49) (i' 4)] [4,7,50]) (.cond (.t 50) c136x1 .skip)
def c136x5:AC := .reg [m' 45 4,o' 46 (.idx 1 none (.t 45) (i' 0)),n' (.st 1 (.t 46) (i' 0))] [4,7]
def c136x7:AC := .seq (.reg [m' 38 4,o' 39 (.idx 1 none (.t 38) (i' 0)),aL' 40 39,m' 41 7,aT' 42 41,aB' 43 .quo (.t 42) (i' 256),aB' 44 .gtr (.t 40) (.t 43)] [4,7,44]) (.cond (.t 44) c136x5 .skip)
def c136x9:AC := .seq (.reg [m' 34 7,aF' 35 1 1,aL' 36 35,o' 37 (.copy 1 (.t 34) (.t 36))] [4,7]) (.seq c136x7 (.seq c136x3 c136x0))
def c136x10:AC := .seq (.reg [aF' 28 1 1,aL' 29 28,aT' 30 29,aB' 31 .quo (.t 30) (i' 256),aB' 32 .mul (.t 31) (i' 256),o' 33 (.mksl [(.int .u8 0)] 1 (.t 32) (.t 32)),m' 7 33] [1,4,7]) c136x9
def c136x11:AC := .reg [aB' 27 .add (.t 14) (i' 1),m' 14 27] [1,4,13,14]
def c136x12:AC := .reg [m' 18 4,m' 19 5,m' 20 4,m' 21 5,aX' 22 1 20 21,aL' 23 22,m' 24 6,aC' 25 27 [.t 23,.t 24],aX' 26 1 18 19,aS' 1 26 25] [1,4,13,14]
def c136x13:AC := .seq (.reg [m' 16 14,o' 17 (.ixa 10 1 none (.t 13) (.t 14)),m' 5 16,m' 6 17] [1,4,5,6,13,14]) c136x12
def c136x18:AC := .seq (.reg [aB' 15 .lss (.t 14) (i' 10)] [1,4,13,14,15]) (.seq (.cond (.t 15) .skip (.exit 0)) (.seq (.block 1 c136x13) c136x11))
def c136x21:AC := .seq (.reg [o' 13 (.build [(.int .i64 0),(.int .i64 0),(.int .i64 0),(.int .i64 0),(.int .i64 0),(.int .i64 0),(.int .i64 0),(.int .i64 0),(.int .i64 0),(.int .i64 0)] [(0,1,(i' 8)),(1,1,(i' 2)),(2,1,(i' 3)),(3,1,(i' 2)),(4,1,(i' 4)),(5,1,(i' 6)),(6,1,(i' 8)),(7,1,(i' 1)),(8,1,(i' 1)),(9,1,(i' 1))]),aV' 14 0] [1,4,13,14]) (.block 0 (.loop c136x18))
def c136x23:AC := .seq (.reg [m' 9 4,aF' 10 0 1,aL' 11 10,o' 12 (.copy 1 (.t 9) (.t 11))] [1,4]) (.seq c136x21 c136x10)
def c136x24:AC := .seq (.reg [o' 8 (.mksl zLI 8 (i' 10) (i' 10)),m' 4 8] [1,4]) c136x23
def c136:AC := .seq (.reg [o' 1 (.new 2 (.t 0)),o' 2 (.mv (.k (.slice none 0 0))),o' 3 (.mv (.k (.slice none 0 0)))] [1]) c136x24
theorem k136:KQ Tryz.prog Tryz.f136 c136 [.t 2,.t 3] := ⟨by kernel_rfl,by kernel_rfl⟩
theorem e136:enters Tryz.prog 136 = true := by kernel_rfl
def c137x0:AC := .reg [m' 45 0,o' 46 (.idx 1 none (.t 45) (i' 7)),n' (.st 1 (.t 46) (i' 1))] []
def c137x2:AC := .seq (.reg [m' 43 4,aB' 44 .eql (.t 43) (i' 4)] [0,44]) (.cond (.t 44) c137x0 .skip)
def c137x3:AC := .seq (.reg [m' 41 0,o' 42 (.idx 1 none (.t 41) (i' 7)),n' (.st 1 (.t 42) (i' 0))] [0,4]) c137x2
def c137x4:AC := .seq (.reg [m' 29 0,m' 30 0,m' 31 0,m' 32 0,m' 33 4,m' 34 1,aB' 35 .shr (.t 34) (.k (.int .u64 4)),aB' 36 .and (.t 35) (i' 3),o' 37 (.idx 1 none (.t 29) (i' 2)),aS' 1 37 33,o' 38 (.idx 1 none (.t 30) (i' 3)),aS' 1 38 36,o' 39 (.idx 1 none (.t 31) (i' 4)),n' (.st 1 (.t 39) (i' 0)),o' 40 (.idx 1 none (.t 32) (i' 5)),n' (.st 1 (.t 40) (i' 30))] [0,4]) c137x3
def c137x6:AC := .seq (.reg [m' 7 0,o' 8 (.idx 1 none (.t 7) (i' 2)),aL' 9 8,aB' 10 .gtr (.t 9) (i' 0),m' 11 10,gF' 12 11 (.mv (.t 4)),gF' 13 11 (.bin .lss (.t 12) (i' 1)),o' 14 (.pick (.t 11) kT' (.t 13)),m' 15 14,gF' 16 15 (.mv (.t 4)),gF' 17 15 (.bin .gtr (.t 16) (i' 4)),o' 18 (.pick (.t 15) kT' (.t 17)),m' 19 18,gF' 20 19 (.mv (.t 4)),gF' 21 19 (.bin .geq (.t 20) (i' 3)),gF' 22 19 (.mv (.t 21)),aG' 23 22 0,gT' 24 22 (.idx 1 none (.t 23) (i' 0)),gT' 25 22 (.ld none (.t 24)),gT' 26 22 (.bin .eql (.t 25) (i' 0)),gF' 27 19 (.pick (.t 22) (.t 26) kF'),o' 28 (.pick (.t 19) kT' (.t 27))] [0,1,4,28]) (.cond (.t 28) .ret .skip)
def c137:AC := .seq (.reg [m' 5 1,aB' 6 .and (.t 5) (i' 15),m' 4 6] [0,1,4]) (.seq c137x6 c137x4)
theorem k137:KQ Tryz.prog Tryz.f137 c137 [] := ⟨by kernel_rfl,by kernel_rfl⟩
theorem e137:enters Tryz.prog 137 = true := by kernel_rfl
def c140x0:AC := .seq (.reg [m' 3 0,o' 4 (.idx 1 none (.t 3) (i' 2)),aL' 5 4,o' 6 (.mnx false [i' 1,.t 5]),m' 2 6] [2]) .ret
def c140:AC := .seq (.reg [aV' 2 0] [0]) c140x0
theorem k140:KQ Tryz.prog Tryz.f140 c140 [.t 2] := ⟨by kernel_rfl,by kernel_rfl⟩
theorem e140:enters Tryz.prog 140 = true := by kernel_rfl
def c149x0:AC := .seq (.reg [m' 31 5,m' 32 6,o' 33 (.build [(.slice none 0 0),(.slice none 0 0)] [(0,1,(.t 31)),(1,1,(.t 32))]),aS' 2 4 33] [4]) .ret
def c149x1:AC := .reg [m' 27 5,m' 28 1,aB' 29 .rem (.t 28) (i' 256),o' 30 (.idx 1 none (.t 27) (i' 0)),aS' 1 30 29] [4,5,6]
def c149x3:AC := .seq (.reg [m' 18 1,aB' 19 .gtr (.t 18) (i' 0),m' 20 19,aG' 21 20 1,aG' 22 20 6,gT' 23 20 (.len (.t 22)),gT' 24 20 (.bin .quo (.t 23) (i' 256)),gT' 25 20 (.bin .leq (.t 21) (.t 24)),o' 26 (.pick (.t 20) (.t 25) kF')] [1,4,5,6,26]) (.cond (.t 26) c149x1 .skip)
def c149x4:AC := .seq (.reg [m' 16 5,o' 17 (.idx 1 none (.t 16) (i' 0)),n' (.st 1 (.t 17) (i' 0))] [1,4,5,6]) c149x3
def c149x6:AC := .seq (.reg [m' 12 5,o' 13 (.idx 1 none (.t 12) (i' 2)),aL' 14 13,aB' 15 .eql (.t 14) (i' 0)] [1,4,5,6,15]) (.cond (.t 15) c149x4 .skip)
def c149x8:AC := .seq (.reg [aM' 8 2 2,aC' 9 136 [.t 8],m' 7 9,aE' 10 7 0,aE' 11 7 1,m' 5 10,m' 6 11] [1,4,5,6]) (.seq c149x6 c149x0)
def c149:AC := .seq (.reg [o' 2 (.new 2 (.t 0)),o' 4 (.zero [(.slice none 0 0),(.slice none 0 0)])] [1,2,4]) c149x8
theorem k149:KQ Tryz.prog Tryz.f149 c149 [.cell (some 2) 4] := ⟨by kernel_rfl,by kernel_rfl⟩
theorem e149:enters Tryz.prog 149 = true := by kernel_rfl
def c156x0:AC := .seq (.reg [m' 10 3,o' 11 (.idx 1 none (.t 10) (i' 9)),aL' 12 11,aB' 13 .eql (.t 12) (i' 1),m' 14 13,aG' 15 14 3,gT' 16 14 (.idx 1 none (.t 15) (i' 7)),gT' 17 14 (.ld none (.t 16)),gT' 18 14 (.bin .eql (.t 17) (i' 1)),o' 19 (.pick (.t 14) (.t 18) kF'),m' 2 19] [2]) .ret
def c156x1:AC := .seq (.reg [aM' 6 2 1,aC' 7 136 [.t 6],m' 5 7,aE' 8 5 0,aE' 9 5 1,m' 3 8,m' 4 9] [3]) c156x0
def c156:AC := .seq (.reg [o' 1 (.new 2 (.t 0)),o' 2 (.mv kF')] [1]) c156x1
theorem k156:KQ Tryz.prog Tryz.f156 c156 [.t 2] := ⟨by kernel_rfl,by kernel_rfl⟩
theorem e156:enters Tryz.prog 156 = true := by kernel_rfl
def c171x0:AC := .seq (.reg [m' 54 5,m' 55 6,o' 56 (.build [(.slice none 0 0),(.slice none 0 0)] [(0,1,(.t 54)),(1,1,(.t 55))]),aS' 2 4 56] [4]) .ret
def c171x1:AC := .reg [m' 51 5,m' 52 6,aC' 53 189 [.t 51,.t 52]] [1,4,5,6]
def c171x2:AC := .seq (.reg [m' 49 5,o' 50 (.idx 1 none (.t 49) (i' 5)),n' (.st 1 (.t 50) (i' 0))] [1,4,5,6]) c171x1
def c171x3:AC := .seq (.reg [m' 43 1,m' 44 5,o' 45 (.idx 1 none (.t 44) (i' 5)),aL' 46 45,o' 47 (.mnx true [i' 1,.t 46]),aB' 48 .sub (.t 43) (.t 47),m' 1 48] [1,4,5,6]) c171x2
def c171x4:AC := .seq (.reg [m' 37 5,o' 38 (.idx 1 none (.t 37) (i' 5)),aL' 39 38,m' 40 1,aB' 41 .sub (.t 39) (.t 40),o' 42 (.idx 1 none (.t 37) (i' 5)),aS' 1 42 41] [4,5,6]) (.exit 0)
def c171x6:AC := .seq (.reg [m' 32 1,m' 33 5,o' 34 (.idx 1 none (.t 33) (i' 5)),aL' 35 34,aB' 36 .lss (.t 32) (.t 35)] [1,4,5,6,36]) (.cond (.t 36) c171x4 .skip)
def c171x8:AC := .seq (.reg [m' 30 5,o' 31 (.idx 1 none (.t 30) (i' 2)),n' (.st 1 (.t 31) (i' 0))] [4,5,6]) (.exit 0)
def c171x10:AC := .seq (.reg [m' 20 5,o' 21 (.idx 1 none (.t 20) (i' 2)),aL' 22 21,aB' 23 .geq (.t 22) (i' 3),m' 24 23,aG' 25 24 5,gT' 26 24 (.idx 1 none (.t 25) (i' 0)),gT' 27 24 (.ld none (.t 26)),gT' 28 24 (.bin .eql (.t 27) (i' 0)),o' 29 (.pick (.t 24) (.t 28) kF')] [1,4,5,6,29]) (.cond (.t 29) c171x8 .skip)
def c171x14:AC := .seq (.reg [m' 12 1,aB' 13 .gtr (.t 12) (i' 0),m' 14 13,aG' 15 14 5,gT' 16 14 (.idx 1 none (.t 15) (i' 2)),gT' 17 14 (.ld none (.t 16)),gT' 18 14 (.bin .gtr (.t 17) (i' 0)),o' 19 (.pick (.t 14) (.t 18) kF')] [1,4,5,6,19]) (.cond (.t 19) .skip (.exit 0))
def c171x19:AC := .seq (.reg [aM' 8 2 2,aC' 9 136 [.t 8],m' 7 9,aE' 10 7 0,aE' 11 7 1,m' 5 10,m' 6 11] [1,4,5,6]) (.seq (.block 0 (.loop (.seq c171x14 (.block 1 (.seq c171x10 (.seq c171x6 c171x3)))))) c171x0)
def c171:AC := .seq (.reg [o' 2 (.new 2 (.t 0)),o' 4 (.zero [(.slice none 0 0),(.slice none 0 0)])] [1,2,4]) c171x19
theorem k171:KQ Tryz.prog Tryz.f171 c171 [.cell (some 2) 4] := ⟨by kernel_rfl,by kernel_rfl⟩
theorem e171:enters Tryz.prog 171 = true := by kernel_rfl
def c189x0:AC := .reg [m' 80 0,m' 81 0,m' 82 0,o' 83 (.idx 1 none (.t 80) (i' 2)),n' (.st 1 (.t 83) (i' 0)),o' 84 (.idx 1 none (.t 81) (i' 4)),n' (.st 1 (.t 84) (i' 0)),o' 85 (.idx 1 none (.t 82) (i' 5)),n' (.st 1 (.t 85) (i' 0))] []
def c189x1:AC := .reg [m' 78 0,o' 79 (.idx 1 none (.t 78) (i' 7)),n' (.st 1 (.t 79) (i' 0))] [0]
def c189x3:AC := .seq (.reg [m' 74 0,o' 75 (.idx 1 none (.t 74) (i' 2)),aL' 76 75,aB' 77 .eql (.t 76) (i' 4)] [0,77]) (.cond (.t 77) c189x1 .skip)
def c189x6:AC := .seq (.reg [m' 70 0,o' 71 (.idx 1 none (.t 70) (i' 4)),aL' 72 71,aB' 73 .eql (.t 72) (i' 16)] [0,73]) (.cond (.t 73) (.seq c189x3 c189x0) .skip)
def c189x7:AC := .seq (.reg [m' 65 0,o' 66 (.idx 1 none (.t 65) (i' 4)),aL' 67 66,aB' 68 .add (.t 67) (i' 1),o' 69 (.idx 1 none (.t 65) (i' 4)),aS' 1 69 68] [0]) c189x6
def c189x8:AC := .seq (.reg [m' 63 0,o' 64 (.idx 1 none (.t 63) (i' 5)),n' (.st 1 (.t 64) (i' 20))] [0]) c189x7
def c189x9:AC := .seq (.reg [m' 41 0,o' 42 (.idx 1 none (.t 41) (i' 2)),n' (.st 1 (.t 42) (i' 0))] []) .ret
def c189x10:AC := .seq (.dreg [m' 28 0,m' 29 0,o' 30 (.idx 1 none (.t 29) (i' 1)),aL' 31 30,aB' 32 .add (.t 31) (i' 3),m' 33 0,o' 34 (.idx 1 none (.t 33) (i' 2)),aL' 35 34,aB' 36 .mul (i' 2) (.t 35),aB' 37 .sub (.t 32) (.t 36),o' 38 (.mnx false [.t 37,i' 3]),o' 39 (.mnx true [i' 0,.t 38]),o' 40 (.idx 1 none (.t 28) (i' 1)),aS' 1 40 39] (bf [[],[],[1,2],[1,3],[1,4],[],[5,6],[5,7],[5,8],[1,9],[1,10],[1,11],[0,12],[0,13]]) [0]) c189x9
def c189x11:AC := .reg [m' 53 0,m' 54 0,m' 55 1,m' 56 0,aC' 57 201 [.t 56],aX' 58 1 55 57,aL' 59 58,o' 60 (.cvt .i64 (.t 59)),o' 61 (.idx 1 none (.t 53) (i' 6)),aS' 1 61 60,o' 62 (.idx 1 none (.t 54) (i' 7)),n' (.st 1 (.t 62) (i' 1))] [0]
def c189x12:AC := .seq (.dreg [m' 45 0,o' 46 (.idx 1 none (.t 45) (i' 8)),aL' 47 46,m' 48 0,o' 49 (.idx 1 none (.t 48) (i' 7)),aL' 50 49,aB' 51 .or (.t 47) (.t 50),o' 52 (.idx 1 none (.t 45) (i' 8)),aS' 1 52 51] (bf [[],[0,1],[0,2],[],[3,4],[3,5],[0,6],[0,7],[0,8]]) [0,1]) c189x11
def c189x13:AC := .reg [m' 23 0,o' 24 (.idx 1 none (.t 23) (i' 7)),n' (.st 1 (.t 24) (i' 1))] [0]
def c189x14:AC := .seq (.dreg [m' 15 1,m' 16 0,aC' 17 201 [.t 16],m' 18 0,o' 19 (.idx 1 none (.t 18) (i' 6)),aL' 20 19,o' 21 (.cvt .u8 (.t 20)),aX' 22 1 15 17,aS' 1 22 21] (bf [[],[],[1,2],[],[3,4],[3,5],[3,6],[0,7],[0,8]]) [0]) c189x13
def c189x15:AC := .seq (.dreg [m' 7 0,o' 8 (.idx 1 none (.t 7) (i' 8)),aL' 9 8,m' 10 0,o' 11 (.idx 1 none (.t 10) (i' 7)),aL' 12 11,aB' 13 .or (.t 9) (.t 12),o' 14 (.idx 1 none (.t 7) (i' 8)),aS' 1 14 13] (bf [[],[0,1],[0,2],[],[3,4],[3,5],[0,6],[0,7],[0,8]]) [0,1]) c189x14
def c189x17:AC := .seq (.reg [aB' 44 .eql (.t 6) (i' 3),m' 43 44] [0,1,43]) (.cond (.t 43) c189x12 c189x15)
def c189x19:AC := .reg [aB' 27 .eql (.t 6) (i' 2),m' 25 27] [0,1,6,25]
def c189x21:AC := .seq (.reg [aB' 26 .eql (.t 6) (i' 1),m' 25 26] [0,1,6,25]) (.cond (.t 25) .skip c189x19)
def c189x24:AC := .seq (.reg [m' 4 0,o' 5 (.idx 1 none (.t 4) (i' 2)),aL' 6 5] [0,1,6]) (.block 0 (.seq c189x21 (.cond (.t 25) c189x10 c189x17)))
def c189:AC := .seq c189x24 c189x8
theorem k189:kS Tryz.prog Tryz.f189 [(0,[0,1,6]),(1,[0,1]),(2,[0]),(3,[0]),(4,[0,1,6,25]),(5,[0,1,6,25]),(6,[0]),(7,[]),(8,[0,1,43]),(9,[0,1]),(10,[0]),(11,[0]),(12,[0]),(13,[0,73]),(14,[0,77]),(15,[0]),(16,[])] = some c189∧qS Tryz.prog Tryz.f189 = some [] := ⟨by kernel_rfl,by kernel_rfl⟩
theorem e189:enters Tryz.prog 189 = true := by kernel_rfl
def c201x0:AC := .seq (.dreg [m' 3 0,o' 4 (.idx 1 none (.t 3) (i' 0)),aL' 5 4,aB' 6 .sub (.t 5) (i' 1),aB' 7 .mul (.t 6) (i' 256),m' 8 0,o' 9 (.idx 1 none (.t 8) (i' 1)),aL' 10 9,aB' 11 .mul (.t 10) (i' 4),m' 12 0,o' 13 (.idx 1 none (.t 12) (i' 3)),aL' 14 13,aB' 15 .add (.t 11) (.t 14),aB' 16 .mul (.t 15) (i' 16),aB' 17 .add (.t 7) (.t 16),m' 18 0,o' 19 (.idx 1 none (.t 18) (i' 4)),aL' 20 19,aB' 21 .add (.t 17) (.t 20),m' 2 21] (bf [[],[0,1],[0,2],[0,3],[0,4],[],[5,6],[5,7],[5,8],[],[9,10],[9,11],[5,12],[5,13],[0,14],[],[15,16],[15,17],[0,18],[0,19]]) [2]) .ret
def c201:AC := .seq (.reg [aV' 2 0] [0]) c201x0
theorem k201:KQ Tryz.prog Tryz.f201 c201 [.t 2] := ⟨by kernel_rfl,by kernel_rfl⟩
theorem e201:enters Tryz.prog 201 = true := by kernel_rfl
def c22x0:AC := .seq (.reg [o' 45 (.build [(.slice none 0 0),(.slice none 0 0)] []),aS' 2 2 45] [2]) .ret
def c22x1:AC := .seq (.reg [aM' 24 2 3,aS' 2 2 24] [2]) .ret
def c22x2:AC := .reg [o' 22 (.bsl zLI 1 [(0,(i' 0))]),aF' 23 0 3,aS' 1 23 22] [2,3]
def c22x4:AC := .seq (.reg [aF' 19 1 1,aL' 20 19,aB' 21 .eql (.t 20) (i' 2)] [2,3,21]) (.cond (.t 21) c22x2 .skip)
def c22x6:AC := .seq (.reg [aF' 14 1 3,aL' 15 14,aF' 16 4 1,aL' 17 16,o' 18 (.copy 1 (.t 15) (.t 17))] [1,2,3]) (.seq c22x4 c22x1)
def c22x7:AC := .seq (.reg [aM' 10 5 1,aC' 11 49 [.t 10],o' 12 (.mksl [(.int .u8 0)] 1 (.t 11) (.t 11)),o' 13 (.build [(.slice none 0 0),(.slice none 0 0)] [(1,1,(.t 12))]),o' 3 (.zero [(.slice none 0 0),(.slice none 0 0)]),aS' 2 3 13] [1,2,3]) c22x6
def c22x8:AC := .seq (.reg [aC' 27 50 [],aS' 2 2 27] [2]) .ret
def c22x9:AC := .seq (.reg [aC' 30 51 [],aS' 2 2 30] [2]) .ret
def c22x10:AC := .seq (.reg [aC' 33 52 [],aS' 2 2 33] [2]) .ret
def c22x11:AC := .seq (.reg [aC' 36 53 [],aS' 2 2 36] [2]) .ret
def c22x12:AC := .seq (.reg [aC' 39 54 [],aS' 2 2 39] [2]) .ret
def c22x13:AC := .seq (.reg [aF' 42 4 1,aL' 43 42,aC' 44 55 [.t 43],aS' 2 2 44] [2]) .ret
def c22x15:AC := .seq (.reg [aB' 41 .eql (.t 5) (i' 8),m' 40 41] [1,2,40]) (.cond (.t 40) c22x13 .skip)
def c22x17:AC := .seq (.reg [aB' 38 .eql (.t 5) (i' 7),m' 37 38] [1,2,5,37]) (.cond (.t 37) c22x12 c22x15)
def c22x19:AC := .seq (.reg [aB' 35 .eql (.t 5) (i' 6),m' 34 35] [1,2,5,34]) (.cond (.t 34) c22x11 c22x17)
def c22x21:AC := .seq (.reg [aB' 32 .eql (.t 5) (i' 5),m' 31 32] [1,2,5,31]) (.cond (.t 31) c22x10 c22x19)
def c22x23:AC := .seq (.reg [aB' 29 .eql (.t 5) (i' 4),m' 28 29] [1,2,5,28]) (.cond (.t 28) c22x9 c22x21)
def c22x25:AC := .seq (.reg [aB' 26 .eql (.t 5) (i' 3),m' 25 26] [1,2,5,25]) (.cond (.t 25) c22x8 c22x23)
def c22x29:AC := .seq (.reg [aB' 8 .eql (.t 5) (i' 1),m' 6 8] [1,2,5,6]) (.cond (.t 6) .skip (.reg [aB' 9 .eql (.t 5) (i' 2),m' 6 9] [1,2,5,6]))
def c22x31:AC := .seq (.reg [aB' 7 .eql (.t 5) (i' 0),m' 6 7] [1,2,5,6]) (.cond (.t 6) .skip c22x29)
def c22x34:AC := .seq (.reg [aF' 4 1 1,aL' 5 4] [1,2,5]) (.block 0 (.seq c22x31 (.cond (.t 6) c22x7 c22x25)))
def c22:AC := .seq (.reg [o' 1 (.new 5 (.t 0)),o' 2 (.zero [(.slice none 0 0),(.slice none 0 0)])] [1,2]) (.seq c22x34 c22x0)
theorem k22:KQ Tryz.prog Tryz.f22 c22 [.cell (some 2) 2] := ⟨by kernel_rfl,by kernel_rfl⟩
theorem e22:enters Tryz.prog 22 = true := by kernel_rfl
def c28x0:AC := .seq (.reg [o' 56 (.build [(.slice none 0 0),(.slice none 0 0)] []),aS' 2 8 56] [8]) .ret
def c28x1:AC := .seq (.reg [aM' 15 5 4,aM' 16 2 5,m' 17 2,m' 18 3,aC' 19 70 [.t 15,.t 16,.t 17,.t 18],aS' 2 8 19] [8]) .ret
def c28x2:AC := .seq (.reg [aM' 22 2 5,m' 23 2,m' 24 3,aC' 25 71 [.t 22,.t 23,.t 24],aS' 2 8 25] [8]) .ret
def c28x3:AC := .seq (.reg [aM' 28 2 5,m' 29 2,m' 30 3,aC' 31 72 [.t 28,.t 29,.t 30],aS' 2 8 31] [8]) .ret
def c28x4:AC := .seq (.reg [aM' 34 2 5,m' 35 2,m' 36 3,aC' 37 73 [.t 34,.t 35,.t 36],aS' 2 8 37] [8]) .ret
def c28x5:AC := .seq (.reg [aM' 40 2 5,m' 41 2,m' 42 3,aC' 43 74 [.t 40,.t 41,.t 42],aS' 2 8 43] [8]) .ret
def c28x6:AC := .seq (.reg [aM' 46 2 5,m' 47 2,m' 48 3,aC' 49 75 [.t 46,.t 47,.t 48],aS' 2 8 49] [8]) .ret
def c28x7:AC := .seq (.reg [aM' 52 2 5,m' 53 2,m' 54 3,aC' 55 76 [.t 52,.t 53,.t 54],aS' 2 8 55] [8]) .ret
def c28x9:AC := .seq (.reg [aB' 51 .eql (.t 10) (i' 8),m' 50 51] [2,3,5,8,50]) (.cond (.t 50) c28x7 .skip)
def c28x11:AC := .seq (.reg [aB' 45 .eql (.t 10) (i' 7),m' 44 45] [2,3,5,8,10,44]) (.cond (.t 44) c28x6 c28x9)
def c28x13:AC := .seq (.reg [aB' 39 .eql (.t 10) (i' 6),m' 38 39] [2,3,5,8,10,38]) (.cond (.t 38) c28x5 c28x11)
def c28x15:AC := .seq (.reg [aB' 33 .eql (.t 10) (i' 5),m' 32 33] [2,3,5,8,10,32]) (.cond (.t 32) c28x4 c28x13)
def c28x17:AC := .seq (.reg [aB' 27 .eql (.t 10) (i' 4),m' 26 27] [2,3,5,8,10,26]) (.cond (.t 26) c28x3 c28x15)
def c28x19:AC := .seq (.reg [aB' 21 .eql (.t 10) (i' 3),m' 20 21] [2,3,5,8,10,20]) (.cond (.t 20) c28x2 c28x17)
def c28x21:AC := .reg [aB' 14 .eql (.t 10) (i' 2),m' 11 14] [2,3,4,5,8,10,11]
def c28x23:AC := .seq (.reg [aB' 13 .eql (.t 10) (i' 1),m' 11 13] [2,3,4,5,8,10,11]) (.cond (.t 11) .skip c28x21)
def c28x25:AC := .seq (.reg [aB' 12 .eql (.t 10) (i' 0),m' 11 12] [2,3,4,5,8,10,11]) (.cond (.t 11) .skip c28x23)
def c28x28:AC := .seq (.reg [aF' 9 1 4,aL' 10 9] [2,3,4,5,8,10]) (.block 0 (.seq c28x25 (.cond (.t 11) c28x1 c28x19)))
def c28:AC := .seq (.reg [o' 4 (.new 5 (.t 0)),o' 5 (.new 2 (.t 1)),o' 8 (.zero [(.slice none 0 0),(.slice none 0 0)])] [2,3,4,5,8]) (.seq c28x28 c28x0)
theorem k28:KQ Tryz.prog Tryz.f28 c28 [.cell (some 2) 8] := ⟨by kernel_rfl,by kernel_rfl⟩
theorem e28:enters Tryz.prog 28 = true := by kernel_rfl
def c29x0:AC := .seq (.reg [o' 62 (.build [(.slice none 0 0),(.slice none 0 0)] []),aS' 2 6 62,aV' 7 0] [6,7]) .ret
def c29x1:AC := .seq (.reg [aM' 14 5 3,aM' 15 2 4,m' 16 2,aC' 17 77 [.t 14,.t 15,.t 16],aE' 18 17 0,aE' 19 17 1,aS' 2 6 18,m' 7 19] [6,7]) .ret
def c29x2:AC := .seq (.reg [aM' 22 2 4,m' 23 2,aC' 24 78 [.t 22,.t 23],aE' 25 24 0,aE' 26 24 1,aS' 2 6 25,m' 7 26] [6,7]) .ret
def c29x3:AC := .seq (.reg [aM' 29 2 4,m' 30 2,aC' 31 79 [.t 29,.t 30],aE' 32 31 0,aE' 33 31 1,aS' 2 6 32,m' 7 33] [6,7]) .ret
def c29x4:AC := .seq (.reg [aM' 36 2 4,m' 37 2,aC' 38 80 [.t 36,.t 37],aE' 39 38 0,aE' 40 38 1,aS' 2 6 39,m' 7 40] [6,7]) .ret
def c29x5:AC := .seq (.reg [aM' 43 2 4,m' 44 2,aC' 45 81 [.t 43,.t 44],aE' 46 45 0,aE' 47 45 1,aS' 2 6 46,m' 7 47] [6,7]) .ret
def c29x6:AC := .seq (.reg [aM' 50 2 4,m' 51 2,aC' 52 82 [.t 50,.t 51],aE' 53 52 0,aE' 54 52 1,aS' 2 6 53,m' 7 54] [6,7]) .ret
def c29x7:AC := .seq (.reg [aM' 57 2 4,m' 58 2,aC' 59 83 [.t 57,.t 58],aE' 60 59 0,aE' 61 59 1,aS' 2 6 60,m' 7 61] [6,7]) .ret
def c29x9:AC := .seq (.reg [aB' 56 .eql (.t 9) (i' 8),m' 55 56] [2,4,6,55]) (.cond (.t 55) c29x7 .skip)
def c29x11:AC := .seq (.reg [aB' 49 .eql (.t 9) (i' 7),m' 48 49] [2,4,6,9,48]) (.cond (.t 48) c29x6 c29x9)
def c29x13:AC := .seq (.reg [aB' 42 .eql (.t 9) (i' 6),m' 41 42] [2,4,6,9,41]) (.cond (.t 41) c29x5 c29x11)
def c29x15:AC := .seq (.reg [aB' 35 .eql (.t 9) (i' 5),m' 34 35] [2,4,6,9,34]) (.cond (.t 34) c29x4 c29x13)
def c29x17:AC := .seq (.reg [aB' 28 .eql (.t 9) (i' 4),m' 27 28] [2,4,6,9,27]) (.cond (.t 27) c29x3 c29x15)
def c29x19:AC := .seq (.reg [aB' 21 .eql (.t 9) (i' 3),m' 20 21] [2,4,6,9,20]) (.cond (.t 20) c29x2 c29x17)
def c29x21:AC := .reg [aB' 13 .eql (.t 9) (i' 2),m' 10 13] [2,3,4,6,9,10]
def c29x23:AC := .seq (.reg [aB' 12 .eql (.t 9) (i' 1),m' 10 12] [2,3,4,6,9,10]) (.cond (.t 10) .skip c29x21)
def c29x25:AC := .seq (.reg [aB' 11 .eql (.t 9) (i' 0),m' 10 11] [2,3,4,6,9,10]) (.cond (.t 10) .skip c29x23)
def c29x28:AC := .seq (.reg [aF' 8 1 3,aL' 9 8] [2,3,4,6,9]) (.block 0 (.seq c29x25 (.cond (.t 10) c29x1 c29x19)))
def c29:AC := .seq (.reg [o' 3 (.new 5 (.t 0)),o' 4 (.new 2 (.t 1)),o' 6 (.zero [(.slice none 0 0),(.slice none 0 0)]),aV' 7 0] [2,3,4,6]) (.seq c29x28 c29x0)
theorem k29:KQ Tryz.prog Tryz.f29 c29 [.cell (some 2) 6,.t 7] := ⟨by kernel_rfl,by kernel_rfl⟩
theorem e29:enters Tryz.prog 29 = true := by kernel_rfl
def c46x9:AC := .seq (.reg [aF' 72 1 1,aL' 73 72,aB' 74 .eql (.t 73) (i' 0),m' 75 74,gF' 76 75 (.fad 1 (.t 1)),gF' 77 75 (.ld none (.t 76)),gF' 78 75 (.bin .eql (.t 77) (i' 1)),o' 79 (.pick (.t 75) kT' (.t 78)),m' 80 79,gT' 81 80 (.fad 4 (.t 1)),gT' 82 80 (.ld none (.t 81)),gT' 83 80 (.len (.t 82)),gT' 84 80 (.fad 3 (.t 1)),gT' 85 80 (.ld none (.t 84)),gT' 86 80 (.bin .gtr (.t 83) (.t 85)),o' 87 (.pick (.t 80) (.t 86) kF'),m' 88 87,gF' 89 88 (.fad 1 (.t 1)),gF' 90 88 (.ld none (.t 89)),gF' 91 88 (.call 99 [.t 90]),gF' 92 88 (.not (.t 91)),gF' 93 88 (.mv (.t 92)),gT' 94 93 (.fad 1 (.t 1)),gT' 95 93 (.ld none (.t 94)),gT' 96 93 (.bin .neq (.t 95) (i' 8)),gF' 97 88 (.pick (.t 93) (.t 96) kF'),gF' 98 88 (.mv (.t 97)),gT' 99 98 (.fad 4 (.t 1)),gT' 100 98 (.ld none (.t 99)),gT' 101 98 (.len (.t 100)),gT' 102 98 (.bin .gtr (.t 101) (i' 0)),gF' 103 88 (.pick (.t 98) (.t 102) kF'),o' 104 (.pick (.t 88) kT' (.t 103)),m' 105 104,gF' 106 105 (.fad 1 (.t 1)),gF' 107 105 (.ld none (.t 106)),gF' 108 105 (.bin .eql (.t 107) (i' 8)),gF' 109 105 (.mv (.t 108)),gT' 110 109 (.fad 4 (.t 1)),gT' 111 109 (.ld none (.t 110)),gT' 112 109 (.len (.t 111)),gT' 113 109 (.bin .rem (.t 112) (i' 256)),gT' 114 109 (.bin .neq (.t 113) (i' 0)),gF' 115 105 (.pick (.t 109) (.t 114) kF'),o' 116 (.pick (.t 105) kT' (.t 115)),m' 71 116] [71]) (.cond (.t 71) (.seq (.reg [aV' 2 3] [2]) .ret) .skip)
def c46x11:AC := .seq (.reg [aF' 60 2 1,aL' 61 60,aB' 62 .lss (.t 61) (i' 0),m' 63 62,gF' 64 63 (.fad 2 (.t 1)),gF' 65 63 (.ld none (.t 64)),gF' 66 63 (.fad 3 (.t 1)),gF' 67 63 (.ld none (.t 66)),gF' 68 63 (.bin .sub (i' 65536) (.t 67)),gF' 69 63 (.bin .gtr (.t 65) (.t 68)),o' 70 (.pick (.t 63) kT' (.t 69)),m' 59 70] [1,59]) (.cond (.t 59) (.seq (.reg [aV' 2 19] [2]) .ret) c46x9)
def c46x13:AC := .seq (.reg [aF' 50 3 1,aL' 51 50,aB' 52 .gtr (.t 51) (i' 4096),m' 53 52,gF' 54 53 (.fad 4 (.t 1)),gF' 55 53 (.ld none (.t 54)),gF' 56 53 (.len (.t 55)),gF' 57 53 (.bin .gtr (.t 56) (i' 4096)),o' 58 (.pick (.t 53) kT' (.t 57)),m' 49 58] [1,49]) (.cond (.t 49) (.seq (.reg [aV' 2 2] [2]) .ret) c46x11)
def c46x15:AC := .seq (.dreg [aF' 26 1 1,aL' 27 26,aC' 28 99 [.t 27],m' 29 28,gT' 30 29 (.fad 3 (.t 1)),gT' 31 29 (.ld none (.t 30)),aG' 32 29 3,gT' 33 29 (.bin .lss (.t 31) (.t 32)),o' 34 (.pick (.t 29) (.t 33) kF'),m' 35 34,gF' 36 35 (.fad 1 (.t 1)),gF' 37 35 (.ld none (.t 36)),gF' 38 35 (.call 99 [.t 37]),gF' 39 35 (.not (.t 38)),gF' 40 35 (.mv (.t 39)),gT' 41 40 (.fad 3 (.t 1)),gT' 42 40 (.ld none (.t 41)),gT' 43 40 (.fad 1 (.t 1)),gT' 44 40 (.ld none (.t 43)),gT' 45 40 (.call 100 [.t 44]),gT' 46 40 (.bin .neq (.t 42) (.t 45)),gF' 47 35 (.pick (.t 40) (.t 46) kF'),o' 48 (.pick (.t 35) kT' (.t 47)),m' 25 48] (bf [[],[0,1],[0,2],[0,3],[0,4],[0,5],[0,4],[0,7],[0,8],[0,9],[0,10],[0,11],[0,12],[0,13],[0,14],[0,15],[0,16],[0,15],[0,15,17,18],[0,15,17,19],[0,20],[0,21],[0,22],[0,23]]) [1,25]) (.cond (.t 25) (.seq (.reg [aV' 2 1] [2]) .ret) c46x13)
def c46x17:AC := .seq (.reg [aF' 17 1 1,aL' 18 17,aB' 19 .lss (.t 18) (i' 0),m' 20 19,gF' 21 20 (.fad 1 (.t 1)),gF' 22 20 (.ld none (.t 21)),gF' 23 20 (.bin .geq (.t 22) (i' 9)),o' 24 (.pick (.t 20) kT' (.t 23)),m' 16 24] [1,3,16]) (.cond (.t 16) (.seq (.reg [aV' 2 8] [2]) .ret) c46x15)
def c46x19:AC := .seq (.reg [aF' 13 0 1,aL' 14 13,o' 15 (.bin .eql (.t 14) (.k (.string ⟨#[99,112,117]⟩))),m' 12 15] [1,3,12]) (.cond (.t 12) (.seq (.reg [aV' 2 20] [2]) .ret) c46x17)
def c46x21:AC := .seq (.reg [aF' 8 0 1,aL' 9 8,aC' 10 44 [.t 9],o' 11 (.not (.t 10)),m' 7 11] [1,3,7]) (.cond (.t 7) (.seq (.reg [aV' 2 15] [2]) .ret) c46x19)
def c46x26:AC := .seq (.reg [aF' 4 1 1,aL' 5 4,aB' 6 .eql (.t 5) (i' 2)] [1,3,6]) (.cond (.t 6) (.reg [aV' 3 2] [1,3]) .skip)
def c46:AC := .seq (.reg [o' 1 (.new 5 (.t 0)),aV' 2 0] [1]) (.seq (.reg [aV' 3 1] [1,3]) (.seq c46x26 (.seq (.block 0 c46x21) (.seq (.reg [aV' 2 0] [2]) .ret))))
theorem k46:KQ Tryz.prog Tryz.f46 c46 [.t 2] := ⟨by kernel_rfl,by kernel_rfl⟩
theorem e46:enters Tryz.prog 46 = true := by kernel_rfl
def c49x0:AC := .seq (.reg [aF' 11 3 1,aL' 12 11,o' 13 (.mnx false [.t 12,i' 65536]),o' 14 (.mnx true [i' 0,.t 13]),m' 2 14] [2]) .ret
def c49x1:AC := .seq (.dreg [aM' 6 5 1,aC' 7 105 [.t 6],aM' 8 5 1,aC' 9 106 [.t 8],aB' 10 .mul (.t 7) (.t 9),m' 2 10] (bf [[],[0,1],[],[0,3],[0,4],[0,5]]) [2]) .ret
def c49x3:AC := .seq (.reg [aF' 3 1 1,aL' 4 3,aB' 5 .eql (.t 4) (i' 2)] [1,5]) (.cond (.t 5) c49x1 .skip)
def c49:AC := .seq (.reg [o' 1 (.new 5 (.t 0)),aV' 2 0] [1]) (.seq c49x3 c49x0)
theorem k49:KQ Tryz.prog Tryz.f49 c49 [.t 2] := ⟨by kernel_rfl,by kernel_rfl⟩
theorem e49:enters Tryz.prog 49 = true := by kernel_rfl
def c67x0:AC := .seq (.reg [aM' 5 5 2,aM' 6 2 3,aC' 7 121 [.t 5,.t 6,i' 1],aS' 2 4 7] [4]) .ret
def c67:AC := .seq (.reg [o' 2 (.new 5 (.t 0)),o' 3 (.new 2 (.t 1)),o' 4 (.zero [(.slice none 0 0),(.slice none 0 0)])] [2,3,4]) c67x0
theorem k67:KQ Tryz.prog Tryz.f67 c67 [.cell (some 2) 4] := ⟨by kernel_rfl,by kernel_rfl⟩
theorem e67:enters Tryz.prog 67 = true := by kernel_rfl
def c68x1:AC := .seq (.reg [aM' 9 2 3,aC' 10 122 [.t 9],m' 4 10] [4]) .ret
def c68x2:AC := .seq (.reg [aM' 13 2 3,aC' 14 123 [.t 13],m' 4 14] [4]) .ret
def c68x3:AC := .seq (.reg [aM' 17 2 3,aC' 18 124 [.t 17],m' 4 18] [4]) .ret
def c68x4:AC := .seq (.reg [aM' 21 2 3,aC' 22 125 [.t 21],m' 4 22] [4]) .ret
def c68x5:AC := .seq (.reg [aM' 25 2 3,aC' 26 126 [.t 25],m' 4 26] [4]) .ret
def c68x7:AC := .seq (.reg [aB' 24 .eql (.t 6) (i' 8),m' 23 24] [3,23]) (.cond (.t 23) c68x5 .skip)
def c68x9:AC := .seq (.reg [aB' 20 .eql (.t 6) (i' 7),m' 19 20] [3,6,19]) (.cond (.t 19) c68x4 c68x7)
def c68x11:AC := .seq (.reg [aB' 16 .eql (.t 6) (i' 6),m' 15 16] [3,6,15]) (.cond (.t 15) c68x3 c68x9)
def c68x13:AC := .seq (.reg [aB' 12 .eql (.t 6) (i' 5),m' 11 12] [3,6,11]) (.cond (.t 11) c68x2 c68x11)
def c68x15:AC := .seq (.reg [aB' 8 .eql (.t 6) (i' 4),m' 7 8] [3,6,7]) (.cond (.t 7) c68x1 c68x13)
def c68x17:AC := .seq (.reg [aF' 5 1 2,aL' 6 5] [3,6]) (.block 0 c68x15)
def c68:AC := .seq (.reg [o' 2 (.new 5 (.t 0)),o' 3 (.new 2 (.t 1)),aV' 4 0] [2,3]) (.seq c68x17 (.seq (.reg [aV' 4 0] [4]) .ret))
theorem k68:KQ Tryz.prog Tryz.f68 c68 [.t 4] := ⟨by kernel_rfl,by kernel_rfl⟩
theorem e68:enters Tryz.prog 68 = true := by kernel_rfl
def c70x0:AC := .seq (.reg [aM' 47 2 5,aS' 2 8 47] [8]) .ret
def c70x1:AC := .dreg [aF' 24 1 5,aL' 25 24,m' 26 9,m' 27 3,aC' 28 27 [.t 27,i' 8],o' 29 (.cvt .u8 (.t 28)),aX' 30 1 25 26,aS' 1 30 29] (bf [[],[0,1],[],[],[3,4],[3,5],[0,6],[0,7]]) [5,8]
def c70x2:AC := .dreg [aF' 39 0 5,aL' 40 39,m' 41 3,aC' 42 27 [.t 41,i' 8],aM' 43 5 4,aC' 44 105 [.t 43],aB' 45 .rem (.t 42) (.t 44),o' 46 (.idx 1 none (.t 40) (i' 0)),aS' 1 46 45] (bf [[],[0,1],[],[2,3],[],[2,5],[2,6],[0,7],[0,8]]) [5,8]
def c70x4:AC := .seq (.reg [aF' 32 1 4,aL' 33 32,aB' 34 .eql (.t 33) (i' 2),m' 35 34,aG' 36 35 2,gT' 37 35 (.bin .eql (.t 36) (i' 0)),o' 38 (.pick (.t 35) (.t 37) kF'),m' 31 38] [3,4,5,8,31]) (.cond (.t 31) c70x2 .skip)
def c70x6:AC := .seq (.reg [m' 22 9,aB' 23 .geq (.t 22) (i' 0),m' 21 23] [2,3,4,5,8,9,21]) (.cond (.t 21) c70x1 c70x4)
def c70x8:AC := .seq (.reg [aF' 18 1 4,aL' 19 18,aB' 20 .eql (.t 19) (i' 1),m' 17 20] [2,3,4,5,8,9,17]) (.cond (.t 17) .skip c70x6)
def c70x10:AC := .seq (.reg [aM' 13 5 4,aM' 14 2 5,m' 15 2,aC' 16 128 [.t 13,.t 14,.t 15],m' 9 16] [2,3,4,5,8,9]) (.block 0 c70x8)
def c70x12:AC := .seq (.reg [aM' 10 5 4,aM' 11 2 5,aC' 12 127 [.t 10,.t 11],aS' 2 5 12] [2,3,4,5,8]) (.seq c70x10 c70x0)
def c70:AC := .seq (.reg [o' 4 (.new 5 (.t 0)),o' 5 (.new 2 (.t 1)),o' 8 (.zero [(.slice none 0 0),(.slice none 0 0)])] [2,3,4,5,8]) c70x12
theorem k70:KQ Tryz.prog Tryz.f70 c70 [.cell (some 2) 8] := ⟨by kernel_rfl,by kernel_rfl⟩
theorem e70:enters Tryz.prog 70 = true := by kernel_rfl
def c77x0:AC := .seq (.reg [aM' 39 2 4,aS' 2 6 39,aV' 7 0] [6,7]) .ret
def c77x1:AC := .seq (.dreg [aM' 19 2 4,aF' 20 1 4,aL' 21 20,m' 22 8,aX' 23 1 21 22,aL' 24 23,o' 25 (.cvt .i64 (.t 24)),aS' 2 6 19,m' 7 25] (bf [[],[],[1,2],[],[1,4],[1,5],[1,6],[0,1],[0,8]]) [6,7]) .ret
def c77x2:AC := .seq (.dreg [aM' 34 2 4,aF' 35 0 4,aL' 36 35,o' 37 (.idx 1 none (.t 36) (i' 0)),aL' 38 37,aS' 2 6 34,m' 7 38] (bf [[],[],[1,2],[1,3],[1,4],[0,1],[0,6]]) [6,7]) .ret
def c77x4:AC := .seq (.reg [aF' 27 1 3,aL' 28 27,aB' 29 .eql (.t 28) (i' 2),m' 30 29,aG' 31 30 2,gT' 32 30 (.bin .eql (.t 31) (i' 0)),o' 33 (.pick (.t 30) (.t 32) kF'),m' 26 33] [4,6,26]) (.cond (.t 26) c77x2 .skip)
def c77x6:AC := .seq (.reg [m' 17 8,aB' 18 .geq (.t 17) (i' 0),m' 16 18] [2,3,4,6,8,16]) (.cond (.t 16) c77x1 c77x4)
def c77x8:AC := .seq (.reg [aM' 12 5 3,aM' 13 2 4,m' 14 2,aC' 15 128 [.t 12,.t 13,.t 14],m' 8 15] [2,3,4,6,8]) (.block 0 c77x6)
def c77x10:AC := .seq (.reg [aM' 9 5 3,aM' 10 2 4,aC' 11 127 [.t 9,.t 10],aS' 2 4 11] [2,3,4,6]) (.seq c77x8 c77x0)
def c77:AC := .seq (.reg [o' 3 (.new 5 (.t 0)),o' 4 (.new 2 (.t 1)),o' 6 (.zero [(.slice none 0 0),(.slice none 0 0)]),aV' 7 0] [2,3,4,6]) c77x10
theorem k77:KQ Tryz.prog Tryz.f77 c77 [.cell (some 2) 6,.t 7] := ⟨by kernel_rfl,by kernel_rfl⟩
theorem e77:enters Tryz.prog 77 = true := by kernel_rfl
def c99x0:AC := .seq (.reg [m' 3 0,aB' 4 .eql (.t 3) (i' 0),m' 5 4,gF' 6 5 (.mv (.t 0)),gF' 7 5 (.bin .eql (.t 6) (i' 1)),o' 8 (.pick (.t 5) kT' (.t 7)),m' 9 8,gF' 10 9 (.mv (.t 0)),gF' 11 9 (.bin .eql (.t 10) (i' 2)),o' 12 (.pick (.t 9) kT' (.t 11)),m' 2 12] [2]) .ret
def c99:AC := .seq (.reg [o' 2 (.mv kF')] [0]) c99x0
theorem k99:KQ Tryz.prog Tryz.f99 c99 [.t 2] := ⟨by kernel_rfl,by kernel_rfl⟩
theorem e99:enters Tryz.prog 99 = true := by kernel_rfl
def c100x8:AC := .seq (.reg [aB' 15 .eql (.t 3) (i' 8),m' 14 15] [14]) (.cond (.t 14) (.seq (.reg [aV' 2 4] [2]) .ret) .skip)
def c100x10:AC := .seq (.reg [aB' 13 .eql (.t 3) (i' 7),m' 12 13] [3,12]) (.cond (.t 12) (.seq (.reg [aV' 2 8] [2]) .ret) c100x8)
def c100x12:AC := .seq (.reg [aB' 11 .eql (.t 3) (i' 6),m' 10 11] [3,10]) (.cond (.t 10) (.seq (.reg [aV' 2 32] [2]) .ret) c100x10)
def c100x14:AC := .seq (.reg [aB' 9 .eql (.t 3) (i' 5),m' 8 9] [3,8]) (.cond (.t 8) (.seq (.reg [aV' 2 3] [2]) .ret) c100x12)
def c100x16:AC := .seq (.reg [aB' 7 .eql (.t 3) (i' 4),m' 6 7] [3,6]) (.cond (.t 6) (.seq (.reg [aV' 2 2] [2]) .ret) c100x14)
def c100x18:AC := .seq (.reg [aB' 5 .eql (.t 3) (i' 3),m' 4 5] [3,4]) (.cond (.t 4) (.seq (.reg [aV' 2 4] [2]) .ret) c100x16)
def c100:AC := .seq (.reg [aV' 2 0] [0]) (.seq (.seq (.reg [m' 3 0] [3]) (.block 0 c100x18)) (.seq (.reg [aV' 2 0] [2]) .ret))
theorem k100:KQ Tryz.prog Tryz.f100 c100 [.t 2] := ⟨by kernel_rfl,by kernel_rfl⟩
theorem e100:enters Tryz.prog 100 = true := by kernel_rfl
def c105x0:AC := .seq (.reg [aF' 6 4 1,aL' 7 6,aT' 8 7,m' 9 3,aB' 10 .add (.t 8) (.t 9),aB' 11 .sub (.t 10) (i' 1),m' 12 3,aB' 13 .quo (.t 11) (.t 12),o' 14 (.mnx true [i' 1,.t 13]),m' 2 14] [2]) .ret
def c105x1:AC := .seq (.reg [aM' 4 5 1,aC' 5 106 [.t 4],m' 3 5] [1,3]) c105x0
def c105:AC := .seq (.reg [o' 1 (.new 5 (.t 0)),aV' 2 0] [1]) c105x1
theorem k105:KQ Tryz.prog Tryz.f105 c105 [.t 2] := ⟨by kernel_rfl,by kernel_rfl⟩
theorem e105:enters Tryz.prog 105 = true := by kernel_rfl
def c106x0:AC := .seq (.reg [aF' 3 3 1,aL' 4 3,o' 5 (.mnx true [.t 4,i' 1]),o' 6 (.mnx false [.t 5,i' 4097]),aB' 7 .sub (.t 6) (i' 1),o' 8 (.mnx true [i' 1,.t 7]),m' 2 8] [2]) .ret
def c106:AC := .seq (.reg [o' 1 (.new 5 (.t 0)),aV' 2 0] [1]) c106x0
theorem k106:KQ Tryz.prog Tryz.f106 c106 [.t 2] := ⟨by kernel_rfl,by kernel_rfl⟩
theorem e106:enters Tryz.prog 106 = true := by kernel_rfl
def c110x0:AC := .seq (.reg [aM' 24 5 3,aM' 25 2 4,aC' 26 121 [.t 24,.t 25,i' 0],aS' 2 6 26] [6]) .ret
def c110x1:AC := .seq (.reg [aM' 11 2 4,m' 12 2,aC' 13 147 [.t 11,.t 12],aS' 2 6 13] [6]) .ret
def c110x2:AC := .seq (.reg [aM' 16 2 4,m' 17 2,aC' 18 148 [.t 16,.t 17],aS' 2 6 18] [6]) .ret
def c110x3:AC := .seq (.reg [aM' 21 2 4,m' 22 2,aC' 23 149 [.t 21,.t 22],aS' 2 6 23] [6]) .ret
def c110x5:AC := .seq (.reg [aB' 20 .eql (.t 8) (i' 8),m' 19 20] [2,3,4,6,19]) (.cond (.t 19) c110x3 .skip)
def c110x7:AC := .seq (.reg [aB' 15 .eql (.t 8) (i' 5),m' 14 15] [2,3,4,6,8,14]) (.cond (.t 14) c110x2 c110x5)
def c110x9:AC := .seq (.reg [aB' 10 .eql (.t 8) (i' 4),m' 9 10] [2,3,4,6,8,9]) (.cond (.t 9) c110x1 c110x7)
def c110x11:AC := .seq (.reg [aF' 7 1 3,aL' 8 7] [2,3,4,6,8]) (.block 0 c110x9)
def c110:AC := .seq (.reg [o' 3 (.new 5 (.t 0)),o' 4 (.new 2 (.t 1)),o' 6 (.zero [(.slice none 0 0),(.slice none 0 0)])] [2,3,4,6]) (.seq c110x11 c110x0)
theorem k110:KQ Tryz.prog Tryz.f110 c110 [.cell (some 2) 6] := ⟨by kernel_rfl,by kernel_rfl⟩
theorem e110:enters Tryz.prog 110 = true := by kernel_rfl
def c116x1:AC := .seq (.reg [aM' 9 2 3,aC' 10 154 [.t 9],m' 4 10] [4]) .ret
def c116x2:AC := .seq (.reg [aM' 13 2 3,aC' 14 155 [.t 13],m' 4 14] [4]) .ret
def c116x3:AC := .seq (.reg [aM' 17 2 3,aC' 18 156 [.t 17],m' 4 18] [4]) .ret
def c116x5:AC := .seq (.reg [aB' 16 .eql (.t 6) (i' 8),m' 15 16] [3,15]) (.cond (.t 15) c116x3 .skip)
def c116x7:AC := .seq (.reg [aB' 12 .eql (.t 6) (i' 5),m' 11 12] [3,6,11]) (.cond (.t 11) c116x2 c116x5)
def c116x9:AC := .seq (.reg [aB' 8 .eql (.t 6) (i' 3),m' 7 8] [3,6,7]) (.cond (.t 7) c116x1 c116x7)
def c116x11:AC := .seq (.reg [aF' 5 1 2,aL' 6 5] [3,6]) (.block 0 c116x9)
def c116:AC := .seq (.reg [o' 2 (.new 5 (.t 0)),o' 3 (.new 2 (.t 1)),o' 4 (.mv kF')] [2,3]) (.seq c116x11 (.seq (.reg [o' 4 (.mv kF')] [4]) .ret))
theorem k116:KQ Tryz.prog Tryz.f116 c116 [.t 4] := ⟨by kernel_rfl,by kernel_rfl⟩
theorem e116:enters Tryz.prog 116 = true := by kernel_rfl
def c121x0:AC := .seq (.reg [o' 47 (.build [(.slice none 0 0),(.slice none 0 0)] []),aS' 2 6 47] [6]) .ret
def c121x1:AC := .seq (.reg [aM' 13 5 3,aM' 14 2 4,aC' 15 127 [.t 13,.t 14],aS' 2 6 15] [6]) .ret
def c121x2:AC := .seq (.reg [aM' 18 2 4,m' 19 2,aC' 20 166 [.t 18,.t 19],aS' 2 6 20] [6]) .ret
def c121x3:AC := .seq (.dreg [aM' 23 2 4,aM' 24 2 4,aC' 25 167 [.t 24],aC' 26 147 [.t 23,.t 25],aS' 2 6 26] (bf [[],[],[1,2],[0,3],[0,4]]) [6]) .ret
def c121x4:AC := .seq (.reg [aM' 29 2 4,m' 30 2,aC' 31 168 [.t 29,.t 30],aS' 2 6 31] [6]) .ret
def c121x5:AC := .seq (.reg [aM' 34 2 4,m' 35 2,aC' 36 169 [.t 34,.t 35],aS' 2 6 36] [6]) .ret
def c121x6:AC := .seq (.reg [aM' 39 2 4,m' 40 2,aC' 41 170 [.t 39,.t 40],aS' 2 6 41] [6]) .ret
def c121x7:AC := .seq (.reg [aM' 44 2 4,m' 45 2,aC' 46 171 [.t 44,.t 45],aS' 2 6 46] [6]) .ret
def c121x9:AC := .seq (.reg [aB' 43 .eql (.t 8) (i' 8),m' 42 43] [2,4,6,42]) (.cond (.t 42) c121x7 .skip)
def c121x11:AC := .seq (.reg [aB' 38 .eql (.t 8) (i' 7),m' 37 38] [2,4,6,8,37]) (.cond (.t 37) c121x6 c121x9)
def c121x13:AC := .seq (.reg [aB' 33 .eql (.t 8) (i' 6),m' 32 33] [2,4,6,8,32]) (.cond (.t 32) c121x5 c121x11)
def c121x15:AC := .seq (.reg [aB' 28 .eql (.t 8) (i' 5),m' 27 28] [2,4,6,8,27]) (.cond (.t 27) c121x4 c121x13)
def c121x17:AC := .seq (.reg [aB' 22 .eql (.t 8) (i' 4),m' 21 22] [2,4,6,8,21]) (.cond (.t 21) c121x3 c121x15)
def c121x19:AC := .seq (.reg [aB' 17 .eql (.t 8) (i' 3),m' 16 17] [2,4,6,8,16]) (.cond (.t 16) c121x2 c121x17)
def c121x21:AC := .reg [aB' 12 .eql (.t 8) (i' 2),m' 9 12] [2,3,4,6,8,9]
def c121x23:AC := .seq (.reg [aB' 11 .eql (.t 8) (i' 1),m' 9 11] [2,3,4,6,8,9]) (.cond (.t 9) .skip c121x21)
def c121x25:AC := .seq (.reg [aB' 10 .eql (.t 8) (i' 0),m' 9 10] [2,3,4,6,8,9]) (.cond (.t 9) .skip c121x23)
def c121x28:AC := .seq (.reg [aF' 7 1 3,aL' 8 7] [2,3,4,6,8]) (.block 0 (.seq c121x25 (.cond (.t 9) c121x1 c121x19)))
def c121:AC := .seq (.reg [o' 3 (.new 5 (.t 0)),o' 4 (.new 2 (.t 1)),o' 6 (.zero [(.slice none 0 0),(.slice none 0 0)])] [2,3,4,6]) (.seq c121x28 c121x0)
theorem k121:KQ Tryz.prog Tryz.f121 c121 [.cell (some 2) 6] := ⟨by kernel_rfl,by kernel_rfl⟩
theorem e121:enters Tryz.prog 121 = true := by kernel_rfl
def c127x0:AC := .seq (.reg [aM' 40 2 5,aS' 2 4 40] [4]) .ret
def c127x1:AC := .dreg [aF' 24 0 5,aL' 25 24,aF' 26 0 3,aL' 27 26,o' 28 (.idx 1 none (.t 27) (i' 0)),aL' 29 28,aM' 30 5 2,aC' 31 105 [.t 30],aB' 32 .rem (.t 29) (.t 31),aM' 33 5 2,aC' 34 105 [.t 33],aB' 35 .add (.t 32) (.t 34),aM' 36 5 2,aC' 37 105 [.t 36],aB' 38 .rem (.t 35) (.t 37),o' 39 (.idx 1 none (.t 25) (i' 0)),aS' 1 39 38] (bf [[],[0,1],[],[2,3],[2,4],[2,5],[],[6,7],[2,8],[],[6,8,9,10],[2,11],[],[6,8,9,11,12,13],[2,14],[0,15],[0,16]]) [4,5]
def c127x3:AC := .seq (.reg [aF' 20 0 3,aL' 21 20,aT' 22 21,aB' 23 .gtr (.t 22) (i' 0)] [2,3,4,5,23]) (.cond (.t 23) c127x1 .skip)
def c127x4:AC := .seq (.reg [o' 18 (.bsl zLI 1 [(0,(i' 0))]),aF' 19 0 5,aS' 1 19 18] [2,3,4,5]) c127x3
def c127x6:AC := .seq (.reg [aF' 15 1 2,aL' 16 15,aB' 17 .eql (.t 16) (i' 2)] [2,3,4,5,17]) (.cond (.t 17) c127x4 .skip)
def c127x8:AC := .seq (.reg [aF' 10 1 5,aL' 11 10,aF' 12 1 3,aL' 13 12,o' 14 (.copy 1 (.t 11) (.t 13))] [2,3,4,5]) (.seq c127x6 c127x0)
def c127x9:AC := .seq (.reg [aM' 6 5 2,aC' 7 49 [.t 6],o' 8 (.mksl [(.int .u8 0)] 1 (.t 7) (.t 7)),o' 9 (.build [(.slice none 0 0),(.slice none 0 0)] [(1,1,(.t 8))]),o' 5 (.zero [(.slice none 0 0),(.slice none 0 0)]),aS' 2 5 9] [2,3,4,5]) c127x8
def c127:AC := .seq (.reg [o' 2 (.new 5 (.t 0)),o' 3 (.new 2 (.t 1)),o' 4 (.zero [(.slice none 0 0),(.slice none 0 0)])] [2,3,4]) c127x9
theorem k127:KQ Tryz.prog Tryz.f127 c127 [.cell (some 2) 4] := ⟨by kernel_rfl,by kernel_rfl⟩
theorem e127:enters Tryz.prog 127 = true := by kernel_rfl
def c128x3:AC := .seq (.reg [m' 28 2,aB' 29 .lss (.t 28) (i' 0),m' 30 29,gF' 31 30 (.mv (.t 2)),gF' 32 30 (.fad 1 (.t 4)),gF' 33 30 (.ld none (.t 32)),gF' 34 30 (.len (.t 33)),gF' 35 30 (.bin .geq (.t 31) (.t 34)),o' 36 (.pick (.t 30) kT' (.t 35))] [2,36]) (.cond (.t 36) (.seq (.reg [o' 6 (.mv (.k (.int .i64 (-1))))] [6]) .ret) .skip)
def c128x5:AC := .seq (.dreg [aF' 18 0 4,aL' 19 18,o' 20 (.idx 1 none (.t 19) (i' 0)),aL' 21 20,aM' 22 5 3,aC' 23 106 [.t 22],aB' 24 .mul (.t 21) (.t 23),m' 25 2,aB' 26 .add (.t 24) (.t 25),aB' 27 .sub (.t 26) (i' 1),m' 6 27] (bf [[],[0,1],[0,2],[0,3],[],[4,5],[0,6],[],[0,8],[0,9],[0,10]]) [6]) .ret
def c128x8:AC := .seq (.reg [m' 10 2,aB' 11 .lss (.t 10) (i' 1),m' 12 11,gF' 13 12 (.mv (.t 2)),gF' 14 12 (.ld (some 5) (.t 3)),gF' 15 12 (.call 106 [.t 14]),gF' 16 12 (.bin .gtr (.t 13) (.t 15)),o' 17 (.pick (.t 12) kT' (.t 16))] [2,3,4,17]) (.cond (.t 17) (.seq (.reg [o' 6 (.mv (.k (.int .i64 (-1))))] [6]) .ret) .skip)
def c128x11:AC := .seq (.reg [aF' 7 1 3,aL' 8 7,aB' 9 .eql (.t 8) (i' 2)] [2,3,4,9]) (.cond (.t 9) (.seq c128x8 c128x5) .skip)
def c128:AC := .seq (.reg [o' 3 (.new 5 (.t 0)),o' 4 (.new 2 (.t 1)),aV' 6 0] [2,3,4]) (.seq c128x11 (.seq c128x3 (.seq (.reg [m' 37 2,m' 6 37] [6]) .ret)))
theorem k128:KQ Tryz.prog Tryz.f128 c128 [.t 6] := ⟨by kernel_rfl,by kernel_rfl⟩
theorem e128:enters Tryz.prog 128 = true := by kernel_rfl
def c167x0:AC := .seq (.reg [aF' 7 0 1,aL' 8 7,o' 9 (.idx 1 none (.t 8) (i' 0)),aL' 10 9,m' 2 10] [2]) .ret
def c167x3:AC := .seq (.reg [aF' 3 0 1,aL' 4 3,aT' 5 4,aB' 6 .eql (.t 5) (i' 0)] [1,6]) (.cond (.t 6) (.seq (.reg [aV' 2 0] [2]) .ret) .skip)
def c167:AC := .seq (.reg [o' 1 (.new 2 (.t 0)),aV' 2 0] [1]) (.seq c167x3 c167x0)
theorem k167:KQ Tryz.prog Tryz.f167 c167 [.t 2] := ⟨by kernel_rfl,by kernel_rfl⟩
theorem e167:enters Tryz.prog 167 = true := by kernel_rfl
def c50x0:AC := .seq (.reg [o' 1 (.mksl zLI 8 (i' 4) (i' 4)),o' 2 (.build [(.slice none 0 0),(.slice none 0 0)] [(0,1,(.t 1))]),aS' 2 0 2] [0]) .ret
def c50:AC := .seq (.reg [o' 0 (.zero [(.slice none 0 0),(.slice none 0 0)])] [0]) c50x0
theorem k50:KQ Tryz.prog Tryz.f50 c50 [.cell (some 2) 0] := ⟨by kernel_rfl,by kernel_rfl⟩
theorem e50:enters Tryz.prog 50 = true := by kernel_rfl
def c71x0:AC := .seq (.reg [m' 37 7,o' 38 (.build [(.slice none 0 0),(.slice none 0 0)] [(0,1,(.t 37))]),aS' 2 6 38] [6]) .ret
def c71x1:AC := .reg [m' 14 7,m' 15 7,o' 16 (.idx 1 none (.t 15) (i' 1)),aL' 17 16,m' 18 1,aB' 19 .mul (i' 8) (.t 18),m' 20 2,aC' 21 130 [.t 17,.t 19,i' 8,.t 20],o' 22 (.idx 1 none (.t 14) (i' 1)),aS' 1 22 21] [6,7]
def c71x2:AC := .reg [m' 32 7,m' 33 7,o' 34 (.idx 1 none (.t 33) (i' 1)),aL' 35 34,o' 36 (.idx 1 none (.t 32) (i' 0)),aS' 1 36 35] [6,7]
def c71x4:AC := .seq (.reg [m' 29 2,aB' 30 .and (.t 29) (i' 128),aB' 31 .neq (.t 30) (i' 0)] [6,7,31]) (.cond (.t 31) c71x2 .skip)
def c71x5:AC := .seq (.reg [m' 25 7,m' 26 2,aC' 27 27 [.t 26,i' 3],o' 28 (.idx 1 none (.t 25) (i' 2)),aS' 1 28 27] [2,6,7]) c71x4
def c71x7:AC := .seq (.reg [aB' 24 .eql (.t 10) (i' 2),m' 23 24] [2,6,7,23]) (.cond (.t 23) c71x5 .skip)
def c71x9:AC := .reg [aB' 13 .eql (.t 10) (i' 1),m' 11 13] [1,2,6,7,10,11]
def c71x11:AC := .seq (.reg [aB' 12 .eql (.t 10) (i' 0),m' 11 12] [1,2,6,7,10,11]) (.cond (.t 11) .skip c71x9)
def c71x16:AC := .seq (.reg [aM' 8 2 3,aC' 9 129 [.t 8],m' 7 9] [1,2,6,7]) (.seq (.seq (.reg [m' 10 1] [1,2,6,7,10]) (.block 0 (.seq c71x11 (.cond (.t 11) c71x1 c71x7)))) c71x0)
def c71:AC := .seq (.reg [o' 3 (.new 2 (.t 0)),o' 6 (.zero [(.slice none 0 0),(.slice none 0 0)])] [1,2,3,6]) c71x16
theorem k71:KQ Tryz.prog Tryz.f71 c71 [.cell (some 2) 6] := ⟨by kernel_rfl,by kernel_rfl⟩
theorem e71:enters Tryz.prog 71 = true := by kernel_rfl
def c78x0:AC := .seq (.reg [m' 32 6,o' 33 (.build [(.slice none 0 0),(.slice none 0 0)] [(0,1,(.t 32))]),m' 34 7,aS' 2 4 33,m' 5 34] [4,5]) .ret
def c78x1:AC := .reg [m' 14 6,o' 15 (.idx 1 none (.t 14) (i' 0)),aL' 16 15,m' 17 1,aB' 18 .mul (i' 8) (.t 17),aC' 19 138 [.t 16,.t 18,i' 8],m' 7 19] [4,6,7]
def c78x2:AC := .reg [m' 22 6,o' 23 (.idx 1 none (.t 22) (i' 2)),aL' 24 23,m' 7 24] [4,6,7]
def c78x3:AC := .reg [m' 27 6,m' 28 6,o' 29 (.idx 1 none (.t 28) (i' 3)),aL' 30 29,m' 7 30,o' 31 (.idx 1 none (.t 27) (i' 3)),n' (.st 1 (.t 31) (i' 0))] [4,6,7]
def c78x5:AC := .seq (.reg [aB' 26 .eql (.t 10) (i' 3),m' 25 26] [4,6,7,25]) (.cond (.t 25) c78x3 .skip)
def c78x7:AC := .seq (.reg [aB' 21 .eql (.t 10) (i' 2),m' 20 21] [4,6,7,10,20]) (.cond (.t 20) c78x2 c78x5)
def c78x9:AC := .reg [aB' 13 .eql (.t 10) (i' 1),m' 11 13] [1,4,6,7,10,11]
def c78x11:AC := .seq (.reg [aB' 12 .eql (.t 10) (i' 0),m' 11 12] [1,4,6,7,10,11]) (.cond (.t 11) .skip c78x9)
def c78x17:AC := .seq (.reg [aM' 8 2 2,aC' 9 129 [.t 8],m' 6 9] [1,4,6]) (.seq (.reg [aV' 7 0] [1,4,6,7]) (.seq (.seq (.reg [m' 10 1] [1,4,6,7,10]) (.block 0 (.seq c78x11 (.cond (.t 11) c78x1 c78x7)))) c78x0))
def c78:AC := .seq (.reg [o' 2 (.new 2 (.t 0)),o' 4 (.zero [(.slice none 0 0),(.slice none 0 0)]),aV' 5 0] [1,2,4]) c78x17
theorem k78:KQ Tryz.prog Tryz.f78 c78 [.cell (some 2) 4,.t 5] := ⟨by kernel_rfl,by kernel_rfl⟩
theorem e78:enters Tryz.prog 78 = true := by kernel_rfl
def c129x1:AC := .seq (.dreg [m' 9 3,m' 10 3,m' 11 3,m' 12 3,m' 13 3,o' 14 (.idx 1 none (.t 13) (i' 0)),aL' 15 14,aC' 16 27 [.t 15,i' 16],m' 17 3,o' 18 (.idx 1 none (.t 17) (i' 1)),aL' 19 18,aC' 20 27 [.t 19,i' 16],m' 21 3,o' 22 (.idx 1 none (.t 21) (i' 2)),aL' 23 22,aC' 24 27 [.t 23,i' 3],m' 25 3,o' 26 (.idx 1 none (.t 25) (i' 3)),aL' 27 26,aC' 28 27 [.t 27,i' 1],o' 29 (.idx 1 none (.t 9) (i' 0)),aS' 1 29 16,o' 30 (.idx 1 none (.t 10) (i' 1)),aS' 1 30 20,o' 31 (.idx 1 none (.t 11) (i' 2)),aS' 1 31 24,o' 32 (.idx 1 none (.t 12) (i' 3)),aS' 1 32 28] (bf [[],[],[],[],[],[4,5],[4,6],[4,7],[],[8,9],[8,10],[4,11],[],[12,13],[12,14],[4,15],[],[16,17],[16,18],[4,19],[0,1,4,20],[0,1,4,21],[0,2,4,22],[0,2,4,23],[0,3,4,24],[0,3,4,25],[0,26],[0,27]]) [3]) (.seq (.reg [m' 33 3,m' 2 33] [2]) .ret)
def c129x2:AC := .seq (.reg [m' 5 3,aF' 6 0 1,aL' 7 6,o' 8 (.copy 1 (.t 5) (.t 7))] [3]) c129x1
def c129x3:AC := .seq (.reg [o' 4 (.mksl zLI 8 (i' 4) (i' 4)),m' 3 4] [1,3]) c129x2
def c129:AC := .seq (.reg [o' 1 (.new 2 (.t 0)),o' 2 (.mv (.k (.slice none 0 0)))] [1]) c129x3
theorem k129:KQ Tryz.prog Tryz.f129 c129 [.t 2] := ⟨by kernel_rfl,by kernel_rfl⟩
theorem e129:enters Tryz.prog 129 = true := by kernel_rfl
def c154x0:AC := .seq (.reg [m' 6 3,o' 7 (.idx 1 none (.t 6) (i' 3)),aL' 8 7,aB' 9 .eql (.t 8) (i' 1),m' 10 9,aG' 11 10 3,gT' 12 10 (.idx 1 none (.t 11) (i' 2)),gT' 13 10 (.ld none (.t 12)),gT' 14 10 (.bin .and (.t 13) (i' 4)),gT' 15 10 (.bin .neq (.t 14) (i' 0)),o' 16 (.pick (.t 10) (.t 15) kF'),m' 2 16] [2]) .ret
def c154x1:AC := .seq (.reg [aM' 4 2 1,aC' 5 129 [.t 4],m' 3 5] [3]) c154x0
def c154:AC := .seq (.reg [o' 1 (.new 2 (.t 0)),o' 2 (.mv kF')] [1]) c154x1
theorem k154:KQ Tryz.prog Tryz.f154 c154 [.t 2] := ⟨by kernel_rfl,by kernel_rfl⟩
theorem e154:enters Tryz.prog 154 = true := by kernel_rfl
def c166x0:AC := .seq (.reg [m' 66 5,o' 67 (.build [(.slice none 0 0),(.slice none 0 0)] [(0,1,(.t 66))]),aS' 2 4 67] [4]) .ret
def c166x1:AC := .reg [m' 34 5,o' 35 (.idx 1 none (.t 34) (i' 0)),aL' 36 35,m' 37 1,aB' 38 .sub (.t 36) (.t 37),o' 39 (.idx 1 none (.t 34) (i' 0)),aS' 1 39 38] [4,5]
def c166x2:AC := .reg [m' 57 5,m' 58 5,m' 59 5,o' 60 (.idx 1 none (.t 59) (i' 1)),aL' 61 60,m' 62 6,aB' 63 .sub (.t 61) (.t 62),o' 64 (.idx 1 none (.t 57) (i' 3)),n' (.st 1 (.t 64) (i' 1)),o' 65 (.idx 1 none (.t 58) (i' 0)),aS' 1 65 63] [4,5]
def c166x3:AC := .seq (.dreg [m' 46 1,m' 47 5,o' 48 (.idx 1 none (.t 47) (i' 0)),aL' 49 48,aB' 50 .sub (.t 46) (.t 49),aB' 51 .sub (.t 50) (i' 1),m' 52 5,o' 53 (.idx 1 none (.t 52) (i' 1)),aL' 54 53,aB' 55 .add (.t 54) (i' 1),aB' 56 .rem (.t 51) (.t 55),m' 6 56] (bf [[],[],[1,2],[1,3],[0,4],[0,5],[],[6,7],[6,8],[6,9],[0,10],[0,11]]) [4,5,6]) c166x2
def c166x4:AC := .reg [m' 13 5,o' 14 (.idx 1 none (.t 13) (i' 2)),aL' 15 14,aB' 16 .andNot (.t 15) (i' 1),o' 17 (.idx 1 none (.t 13) (i' 2)),aS' 1 17 16] [4,5]
def c166x5:AC := .seq (.reg [m' 9 5,m' 10 5,o' 11 (.idx 1 none (.t 9) (i' 3)),n' (.st 1 (.t 11) (i' 1)),o' 12 (.idx 1 none (.t 10) (i' 0)),n' (.st 1 (.t 12) (i' 0))] [4,5]) c166x4
def c166x7:AC := .seq (.reg [m' 41 5,o' 42 (.idx 1 none (.t 41) (i' 2)),aL' 43 42,aB' 44 .and (.t 43) (i' 2),aB' 45 .neq (.t 44) (i' 0),m' 40 45] [1,4,5,40]) (.cond (.t 40) c166x3 c166x5)
def c166x9:AC := .seq (.reg [m' 29 1,m' 30 5,o' 31 (.idx 1 none (.t 30) (i' 0)),aL' 32 31,aB' 33 .leq (.t 29) (.t 32),m' 28 33] [1,4,5,28]) (.cond (.t 28) c166x1 c166x7)
def c166x11:AC := .seq (.reg [m' 19 1,aB' 20 .leq (.t 19) (i' 0),m' 21 20,gF' 22 21 (.mv (.t 5)),gF' 23 21 (.idx 1 none (.t 22) (i' 2)),gF' 24 21 (.ld none (.t 23)),gF' 25 21 (.bin .and (.t 24) (i' 1)),gF' 26 21 (.bin .eql (.t 25) (i' 0)),o' 27 (.pick (.t 21) kT' (.t 26)),m' 18 27] [1,4,5,18]) (.cond (.t 18) .skip c166x9)
def c166x14:AC := .seq (.reg [aM' 7 2 2,aC' 8 129 [.t 7],m' 5 8] [1,4,5]) (.seq (.block 0 c166x11) c166x0)
def c166:AC := .seq (.reg [o' 2 (.new 2 (.t 0)),o' 4 (.zero [(.slice none 0 0),(.slice none 0 0)])] [1,2,4]) c166x14
theorem k166:kS Tryz.prog Tryz.f166 [(0,[1,2,4]),(1,[1,4,5]),(2,[4,5]),(3,[4,5]),(4,[1,4,5,18]),(5,[1,4,5,28]),(6,[4,5]),(7,[1,4,5,40]),(8,[4,5,6]),(9,[4,5]),(10,[4])] = some c166∧qS Tryz.prog Tryz.f166 = some [.cell (some 2) 4] := ⟨by kernel_rfl,by kernel_rfl⟩
theorem e166:enters Tryz.prog 166 = true := by kernel_rfl
def c52x0:AC := .seq (.reg [o' 1 (.mksl zLI 8 (i' 8) (i' 8)),o' 2 (.build [(.slice none 0 0),(.slice none 0 0)] [(0,1,(.t 1))]),aS' 2 0 2] [0]) .ret
def c52:AC := .seq (.reg [o' 0 (.zero [(.slice none 0 0),(.slice none 0 0)])] [0]) c52x0
theorem k52:KQ Tryz.prog Tryz.f52 c52 [.cell (some 2) 0] := ⟨by kernel_rfl,by kernel_rfl⟩
theorem e52:enters Tryz.prog 52 = true := by kernel_rfl
def c73x0:AC := .seq (.reg [m' 32 7,o' 33 (.build [(.slice none 0 0),(.slice none 0 0)] [(0,1,(.t 32))]),aS' 2 6 33] [6]) .ret
def c73x1:AC := .reg [m' 19 7,m' 20 7,m' 21 2,aC' 22 27 [.t 21,i' 8],o' 23 (.idx 1 none (.t 19) (i' 0)),aS' 1 23 22,o' 24 (.idx 1 none (.t 20) (i' 1)),n' (.st 1 (.t 24) (i' 40))] [6,7]
def c73x2:AC := .reg [m' 28 7,m' 29 2,aC' 30 27 [.t 29,i' 2],o' 31 (.idx 1 none (.t 28) (i' 5)),aS' 1 31 30] [6,7]
def c73x4:AC := .seq (.reg [m' 26 1,aB' 27 .eql (.t 26) (i' 2),m' 25 27] [2,6,7,25]) (.cond (.t 25) c73x2 .skip)
def c73x6:AC := .seq (.reg [m' 11 1,aB' 12 .eql (.t 11) (i' 0),m' 13 12,aG' 14 13 7,gT' 15 13 (.idx 1 none (.t 14) (i' 1)),gT' 16 13 (.ld none (.t 15)),gT' 17 13 (.bin .eql (.t 16) (i' 0)),o' 18 (.pick (.t 13) (.t 17) kF'),m' 10 18] [1,2,6,7,10]) (.cond (.t 10) c73x1 c73x4)
def c73x9:AC := .seq (.reg [aM' 8 2 3,aC' 9 132 [.t 8],m' 7 9] [1,2,6,7]) (.seq (.block 0 c73x6) c73x0)
def c73:AC := .seq (.reg [o' 3 (.new 2 (.t 0)),o' 6 (.zero [(.slice none 0 0),(.slice none 0 0)])] [1,2,3,6]) c73x9
theorem k73:KQ Tryz.prog Tryz.f73 c73 [.cell (some 2) 6] := ⟨by kernel_rfl,by kernel_rfl⟩
theorem e73:enters Tryz.prog 73 = true := by kernel_rfl
def c80x0:AC := .seq (.reg [m' 42 6,o' 43 (.build [(.slice none 0 0),(.slice none 0 0)] [(0,1,(.t 42))]),m' 44 7,aS' 2 4 43,m' 5 44] [4,5]) .ret
def c80x1:AC := .reg [m' 13 6,m' 14 6,o' 15 (.idx 1 none (.t 14) (i' 2)),aL' 16 15,m' 7 16,o' 17 (.idx 1 none (.t 13) (i' 3)),n' (.st 1 (.t 17) (i' 0))] [4,6,7]
def c80x2:AC := .reg [m' 35 6,o' 36 (.idx 1 none (.t 35) (i' 4)),n' (.st 1 (.t 36) (i' 0))] [4,6,7]
def c80x3:AC := .seq (.dreg [m' 20 6,o' 21 (.idx 1 none (.t 20) (i' 3)),aL' 22 21,m' 23 6,o' 24 (.idx 1 none (.t 23) (i' 1)),aL' 25 24,aB' 26 .gtr (.t 25) (i' 0),aC' 27 139 [.t 26],aB' 28 .shl (.t 27) (.k (.int .u64 1)),aB' 29 .or (.t 22) (.t 28),m' 30 6,o' 31 (.idx 1 none (.t 30) (i' 4)),aL' 32 31,aB' 33 .shl (.t 32) (.k (.int .u64 2)),aB' 34 .or (.t 29) (.t 33),m' 7 34] (bf [[],[0,1],[0,2],[],[3,4],[3,5],[3,6],[3,7],[3,8],[0,9],[],[10,11],[10,12],[10,13],[0,14],[0,15]]) [4,6,7]) c80x2
def c80x4:AC := .reg [m' 39 6,o' 40 (.idx 1 none (.t 39) (i' 5)),aL' 41 40,m' 7 41] [4,6,7]
def c80x6:AC := .seq (.reg [aB' 38 .eql (.t 10) (i' 2),m' 37 38] [4,6,7,37]) (.cond (.t 37) c80x4 .skip)
def c80x8:AC := .seq (.reg [aB' 19 .eql (.t 10) (i' 1),m' 18 19] [4,6,7,10,18]) (.cond (.t 18) c80x3 c80x6)
def c80x10:AC := .seq (.reg [aB' 12 .eql (.t 10) (i' 0),m' 11 12] [4,6,7,10,11]) (.cond (.t 11) c80x1 c80x8)
def c80x15:AC := .seq (.reg [aM' 8 2 2,aC' 9 132 [.t 8],m' 6 9] [1,4,6]) (.seq (.reg [aV' 7 0] [1,4,6,7]) (.seq (.seq (.reg [m' 10 1] [4,6,7,10]) (.block 0 c80x10)) c80x0))
def c80:AC := .seq (.reg [o' 2 (.new 2 (.t 0)),o' 4 (.zero [(.slice none 0 0),(.slice none 0 0)]),aV' 5 0] [1,2,4]) c80x15
theorem k80:KQ Tryz.prog Tryz.f80 c80 [.cell (some 2) 4,.t 5] := ⟨by kernel_rfl,by kernel_rfl⟩
theorem e80:enters Tryz.prog 80 = true := by kernel_rfl
def c123x0:AC := .seq (.dreg [m' 6 3,o' 7 (.idx 1 none (.t 6) (i' 6)),aL' 8 7,aB' 9 .mul (i' 256) (.t 8),m' 10 3,o' 11 (.idx 1 none (.t 10) (i' 7)),aL' 12 11,aB' 13 .add (.t 9) (.t 12),m' 2 13] (bf [[],[0,1],[0,2],[0,3],[],[4,5],[4,6],[0,7],[0,8]]) [2]) .ret
def c123x1:AC := .seq (.reg [aM' 4 2 1,aC' 5 132 [.t 4],m' 3 5] [3]) c123x0
def c123:AC := .seq (.reg [o' 1 (.new 2 (.t 0)),aV' 2 0] [1]) c123x1
theorem k123:KQ Tryz.prog Tryz.f123 c123 [.t 2] := ⟨by kernel_rfl,by kernel_rfl⟩
theorem e123:enters Tryz.prog 123 = true := by kernel_rfl
def c132x1:AC := .reg [aB' 25 .add (.t 12) (i' 1),m' 12 25] [3,11,12]
def c132x2:AC := .reg [m' 16 3,m' 17 4,m' 18 3,m' 19 4,aX' 20 1 18 19,aL' 21 20,m' 22 5,aC' 23 27 [.t 21,.t 22],aX' 24 1 16 17,aS' 1 24 23] [3,11,12]
def c132x3:AC := .seq (.reg [m' 14 12,o' 15 (.ixa 8 1 none (.t 11) (.t 12)),m' 4 14,m' 5 15] [3,4,5,11,12]) c132x2
def c132x8:AC := .seq (.reg [aB' 13 .lss (.t 12) (i' 8)] [3,11,12,13]) (.seq (.cond (.t 13) .skip (.exit 0)) (.seq (.block 1 c132x3) c132x1))
def c132x11:AC := .seq (.reg [o' 11 (.build [(.int .i64 0),(.int .i64 0),(.int .i64 0),(.int .i64 0),(.int .i64 0),(.int .i64 0),(.int .i64 0),(.int .i64 0)] [(0,1,(i' 8)),(1,1,(i' 6)),(2,1,(i' 8)),(3,1,(i' 1)),(4,1,(i' 1)),(5,1,(i' 2)),(6,1,(i' 20)),(7,1,(i' 8))]),aV' 12 0] [3,11,12]) (.block 0 (.loop c132x8))
def c132x13:AC := .seq (.reg [m' 7 3,aF' 8 0 1,aL' 9 8,o' 10 (.copy 1 (.t 7) (.t 9))] [3]) (.seq c132x11 (.seq (.reg [m' 26 3,m' 2 26] [2]) .ret))
def c132x14:AC := .seq (.reg [o' 6 (.mksl zLI 8 (i' 8) (i' 8)),m' 3 6] [1,3]) c132x13
def c132:AC := .seq (.reg [o' 1 (.new 2 (.t 0)),o' 2 (.mv (.k (.slice none 0 0)))] [1]) c132x14
theorem k132:KQ Tryz.prog Tryz.f132 c132 [.t 2] := ⟨by kernel_rfl,by kernel_rfl⟩
theorem e132:enters Tryz.prog 132 = true := by kernel_rfl
def c139:AC := .seq (.reg [aV' 2 0] [0]) (.seq (.seq (.reg [m' 3 0] [3]) (.cond (.t 3) (.seq (.reg [aV' 2 1] [2]) .ret) .skip)) (.seq (.reg [aV' 2 0] [2]) .ret))
theorem k139:KQ Tryz.prog Tryz.f139 c139 [.t 2] := ⟨by kernel_rfl,by kernel_rfl⟩
theorem e139:enters Tryz.prog 139 = true := by kernel_rfl
def c148x0:AC := .seq (.reg [m' 20 5,o' 21 (.build [(.slice none 0 0),(.slice none 0 0)] [(0,1,(.t 20))]),aS' 2 4 21] [4]) .ret
def c148x1:AC := .reg [m' 12 5,o' 13 (.idx 1 none (.t 12) (i' 4)),n' (.st 1 (.t 13) (i' 1))] [4,5]
def c148x2:AC := .reg [m' 14 5,m' 15 5,m' 16 1,aC' 17 27 [.t 16,i' 8],o' 18 (.idx 1 none (.t 14) (i' 2)),aS' 1 18 17,o' 19 (.idx 1 none (.t 15) (i' 3)),n' (.st 1 (.t 19) (i' 1))] [4,5]
def c148x4:AC := .seq (.reg [m' 8 5,o' 9 (.idx 1 none (.t 8) (i' 3)),aL' 10 9,aB' 11 .eql (.t 10) (i' 1)] [1,4,5,11]) (.cond (.t 11) c148x1 c148x2)
def c148x6:AC := .seq (.reg [aM' 6 2 2,aC' 7 132 [.t 6],m' 5 7] [1,4,5]) (.seq c148x4 c148x0)
def c148:AC := .seq (.reg [o' 2 (.new 2 (.t 0)),o' 4 (.zero [(.slice none 0 0),(.slice none 0 0)])] [1,2,4]) c148x6
theorem k148:KQ Tryz.prog Tryz.f148 c148 [.cell (some 2) 4] := ⟨by kernel_rfl,by kernel_rfl⟩
theorem e148:enters Tryz.prog 148 = true := by kernel_rfl
def c155x0:AC := .seq (.reg [m' 6 3,o' 7 (.idx 1 none (.t 6) (i' 5)),aL' 8 7,aB' 9 .and (.t 8) (i' 1),aB' 10 .neq (.t 9) (i' 0),m' 11 10,aG' 12 11 3,gT' 13 11 (.idx 1 none (.t 12) (i' 3)),gT' 14 11 (.ld none (.t 13)),gT' 15 11 (.bin .eql (.t 14) (i' 1)),o' 16 (.pick (.t 11) (.t 15) kF'),m' 17 16,gF' 18 17 (.mv (.t 3)),gF' 19 17 (.idx 1 none (.t 18) (i' 5)),gF' 20 17 (.ld none (.t 19)),gF' 21 17 (.bin .and (.t 20) (i' 2)),gF' 22 17 (.bin .neq (.t 21) (i' 0)),gF' 23 17 (.mv (.t 22)),aG' 24 23 3,gT' 25 23 (.idx 1 none (.t 24) (i' 1)),gT' 26 23 (.ld none (.t 25)),gT' 27 23 (.bin .eql (.t 26) (i' 0)),gF' 28 17 (.pick (.t 23) (.t 27) kF'),o' 29 (.pick (.t 17) kT' (.t 28)),m' 2 29] [2]) .ret
def c155x1:AC := .seq (.reg [aM' 4 2 1,aC' 5 132 [.t 4],m' 3 5] [3]) c155x0
def c155:AC := .seq (.reg [o' 1 (.new 2 (.t 0)),o' 2 (.mv kF')] [1]) c155x1
theorem k155:KQ Tryz.prog Tryz.f155 c155 [.t 2] := ⟨by kernel_rfl,by kernel_rfl⟩
theorem e155:enters Tryz.prog 155 = true := by kernel_rfl
def c168x0:AC := .seq (.reg [m' 43 5,o' 44 (.build [(.slice none 0 0),(.slice none 0 0)] [(0,1,(.t 43))]),aS' 2 4 44] [4]) .ret
def c168x1:AC := .reg [m' 37 5,o' 38 (.idx 1 none (.t 37) (i' 1)),aL' 39 38,m' 40 1,aB' 41 .sub (.t 39) (.t 40),o' 42 (.idx 1 none (.t 37) (i' 1)),aS' 1 42 41] [4,5]
def c168x2:AC := .dreg [m' 8 5,m' 9 5,m' 10 5,m' 11 5,o' 12 (.idx 1 none (.t 11) (i' 0)),aL' 13 12,m' 14 5,o' 15 (.idx 1 none (.t 14) (i' 6)),aL' 16 15,aB' 17 .add (.t 16) (i' 1),aC' 18 27 [.t 17,i' 20],o' 19 (.idx 1 none (.t 8) (i' 1)),n' (.st 1 (.t 19) (i' 0)),o' 20 (.idx 1 none (.t 9) (i' 7)),aS' 1 20 13,o' 21 (.idx 1 none (.t 10) (i' 6)),aS' 1 21 18] (bf [[],[],[],[],[3,4],[3,5],[],[6,7],[6,8],[6,9],[6,10],[0,1,3,11],[0,1,3,12],[0,2,3,13],[0,2,3,14],[0,15],[0,16]]) [4,5]
def c168x4:AC := .seq (.reg [m' 32 1,m' 33 5,o' 34 (.idx 1 none (.t 33) (i' 1)),aL' 35 34,aB' 36 .lss (.t 32) (.t 35),m' 31 36] [1,4,5,31]) (.cond (.t 31) c168x1 c168x2)
def c168x6:AC := .seq (.reg [m' 23 1,aB' 24 .leq (.t 23) (i' 0),m' 25 24,gF' 26 25 (.mv (.t 5)),gF' 27 25 (.idx 1 none (.t 26) (i' 1)),gF' 28 25 (.ld none (.t 27)),gF' 29 25 (.bin .eql (.t 28) (i' 0)),o' 30 (.pick (.t 25) kT' (.t 29)),m' 22 30] [1,4,5,22]) (.cond (.t 22) .skip c168x4)
def c168x9:AC := .seq (.reg [aM' 6 2 2,aC' 7 132 [.t 6],m' 5 7] [1,4,5]) (.seq (.block 0 c168x6) c168x0)
def c168:AC := .seq (.reg [o' 2 (.new 2 (.t 0)),o' 4 (.zero [(.slice none 0 0),(.slice none 0 0)])] [1,2,4]) c168x9
theorem k168:kS Tryz.prog Tryz.f168 [(0,[1,2,4]),(1,[1,4,5]),(2,[4,5]),(3,[1,4,5,22]),(4,[1,4,5,31]),(5,[4,5]),(6,[4])] = some c168∧qS Tryz.prog Tryz.f168 = some [.cell (some 2) 4] := ⟨by kernel_rfl,by kernel_rfl⟩
theorem e168:enters Tryz.prog 168 = true := by kernel_rfl
def c53x0:AC := .seq (.reg [o' 1 (.mksl [(.int .u8 0)] 1 (i' 32) (i' 32)),aC' 2 107 [i' 2559,i' 0,.t 1],aS' 2 0 2] [0]) .ret
def c53:AC := .seq (.reg [o' 0 (.zero [(.slice none 0 0),(.slice none 0 0)])] [0]) c53x0
theorem k53:KQ Tryz.prog Tryz.f53 c53 [.cell (some 2) 0] := ⟨by kernel_rfl,by kernel_rfl⟩
theorem e53:enters Tryz.prog 53 = true := by kernel_rfl
def c74x0:AC := .seq (.reg [m' 36 7,m' 37 8,m' 38 9,aC' 39 107 [.t 36,.t 37,.t 38],aS' 2 6 39] [6]) .ret
def c74x1:AC := .reg [m' 30 9,m' 31 1,m' 32 2,aC' 33 27 [.t 32,i' 8],o' 34 (.cvt .u8 (.t 33)),aX' 35 1 30 31,aS' 1 35 34] [6,7,8,9]
def c74x3:AC := .seq (.reg [m' 16 1,aB' 17 .geq (.t 16) (i' 0),m' 18 17,aG' 19 18 1,gT' 20 18 (.bin .lss (.t 19) (i' 32)),o' 21 (.pick (.t 18) (.t 20) kF'),m' 22 21,aG' 23 22 1,gT' 24 22 (.bin .lss (.t 23) (i' 5)),aG' 25 22 24,gF' 26 25 (.mv (.t 1)),gF' 27 25 (.bin .gtr (.t 26) (i' 7)),gT' 28 22 (.pick (.t 25) kT' (.t 27)),o' 29 (.pick (.t 22) (.t 28) kF')] [1,2,6,7,8,9,29]) (.cond (.t 29) c74x1 .skip)
def c74x5:AC := .seq (.reg [aM' 11 2 3,aC' 12 133 [.t 11],m' 10 12,aE' 13 10 0,aE' 14 10 1,aE' 15 10 2,m' 7 13,m' 8 14,m' 9 15] [1,2,6,7,8,9]) (.seq c74x3 c74x0)
def c74:AC := .seq (.reg [o' 3 (.new 2 (.t 0)),o' 6 (.zero [(.slice none 0 0),(.slice none 0 0)])] [1,2,3,6]) c74x5
theorem k74:KQ Tryz.prog Tryz.f74 c74 [.cell (some 2) 6] := ⟨by kernel_rfl,by kernel_rfl⟩
theorem e74:enters Tryz.prog 74 = true := by kernel_rfl
def c81x0:AC := .seq (.reg [m' 42 6,m' 43 7,m' 44 8,aC' 45 107 [.t 42,.t 43,.t 44],m' 46 9,aS' 2 4 45,m' 5 46] [4,5]) .ret
def c81x1:AC := .reg [m' 19 6,aB' 20 .quo (.t 19) (i' 64),m' 9 20] [4,6,7,8,9]
def c81x2:AC := .reg [m' 24 6,aB' 25 .rem (.t 24) (i' 64),m' 9 25] [4,6,7,8,9]
def c81x4:AC := .reg [m' 37 8,m' 38 1,aX' 39 1 37 38,aL' 40 39,o' 41 (.cvt .i64 (.t 40)),m' 9 41] [4,6,7,8,9]
def c81x6:AC := .seq (.reg [m' 31 1,aB' 32 .geq (.t 31) (i' 0),m' 33 32,aG' 34 33 1,gT' 35 33 (.bin .lss (.t 34) (i' 32)),o' 36 (.pick (.t 33) (.t 35) kF'),m' 30 36] [1,4,6,7,8,9,30]) (.cond (.t 30) c81x4 .skip)
def c81x8:AC := .seq (.reg [m' 27 1,aB' 28 .eql (.t 27) (i' 7),m' 26 28] [1,4,6,7,8,9,26]) (.cond (.t 26) (.reg [m' 29 7,m' 9 29,aV' 7 0] [4,6,7,8,9]) c81x6)
def c81x10:AC := .seq (.reg [m' 22 1,aB' 23 .eql (.t 22) (i' 6),m' 21 23] [1,4,6,7,8,9,21]) (.cond (.t 21) c81x2 c81x8)
def c81x12:AC := .seq (.reg [m' 17 1,aB' 18 .eql (.t 17) (i' 5),m' 16 18] [1,4,6,7,8,9,16]) (.cond (.t 16) c81x1 c81x10)
def c81x16:AC := .seq (.reg [aM' 11 2 2,aC' 12 133 [.t 11],m' 10 12,aE' 13 10 0,aE' 14 10 1,aE' 15 10 2,m' 6 13,m' 7 14,m' 8 15] [1,4,6,7,8]) (.seq (.reg [aV' 9 0] [1,4,6,7,8,9]) (.seq (.block 0 c81x12) c81x0))
def c81:AC := .seq (.reg [o' 2 (.new 2 (.t 0)),o' 4 (.zero [(.slice none 0 0),(.slice none 0 0)]),aV' 5 0] [1,2,4]) c81x16
theorem k81:KQ Tryz.prog Tryz.f81 c81 [.cell (some 2) 4,.t 5] := ⟨by kernel_rfl,by kernel_rfl⟩
theorem e81:enters Tryz.prog 81 = true := by kernel_rfl
def c107x0:AC := .seq (.reg [m' 7 0,m' 8 1,o' 9 (.bsl zLI 2 [(0,(.t 7)),(1,(.t 8))]),m' 10 2,o' 11 (.build [(.slice none 0 0),(.slice none 0 0)] [(0,1,(.t 9)),(1,1,(.t 10))]),aS' 2 6 11] [6]) .ret
def c107:AC := .seq (.reg [o' 6 (.zero [(.slice none 0 0),(.slice none 0 0)])] [0,1,2,6]) c107x0
theorem k107:KQ Tryz.prog Tryz.f107 c107 [.cell (some 2) 6] := ⟨by kernel_rfl,by kernel_rfl⟩
theorem e107:enters Tryz.prog 107 = true := by kernel_rfl
def c124x0:AC := .seq (.reg [m' 12 5,m' 13 3,aC' 14 172 [.t 12,.t 13],m' 2 14] [2]) .ret
def c124x1:AC := .seq (.reg [aM' 7 2 1,aC' 8 133 [.t 7],m' 6 8,aE' 9 6 0,aE' 10 6 1,aE' 11 6 2,m' 3 9,m' 4 10,m' 5 11] [3,5]) c124x0
def c124:AC := .seq (.reg [o' 1 (.new 2 (.t 0)),aV' 2 0] [1]) c124x1
theorem k124:KQ Tryz.prog Tryz.f124 c124 [.t 2] := ⟨by kernel_rfl,by kernel_rfl⟩
theorem e124:enters Tryz.prog 124 = true := by kernel_rfl
def c133x0:AC := .seq (.reg [m' 33 5,m' 34 6,m' 35 7,m' 2 33,m' 3 34,m' 4 35] [2,3,4]) .ret
def c133x1:AC := .seq (.reg [m' 29 7,aF' 30 1 1,aL' 31 30,o' 32 (.copy 1 (.t 29) (.t 31))] [5,6,7]) c133x0
def c133x2:AC := .seq (.reg [o' 28 (.mksl [(.int .u8 0)] 1 (i' 32) (i' 32)),m' 7 28] [1,5,6,7]) c133x1
def c133x3:AC := .reg [aF' 23 0 1,aL' 24 23,o' 25 (.idx 1 none (.t 24) (i' 1)),aL' 26 25,aC' 27 27 [.t 26,i' 1],m' 6 27] [1,5,6]
def c133x5:AC := .seq (.reg [aF' 19 0 1,aL' 20 19,aT' 21 20,aB' 22 .gtr (.t 21) (i' 1)] [1,5,6,22]) (.cond (.t 22) c133x3 .skip)
def c133x7:AC := .reg [aF' 12 0 1,aL' 13 12,o' 14 (.idx 1 none (.t 13) (i' 0)),aL' 15 14,aB' 16 .rem (.t 15) (i' 2560),aB' 17 .add (.t 16) (i' 2560),aB' 18 .rem (.t 17) (i' 2560),m' 5 18] [1,5,6]
def c133x9:AC := .seq (.reg [aF' 8 0 1,aL' 9 8,aT' 10 9,aB' 11 .gtr (.t 10) (i' 0)] [1,5,6,11]) (.cond (.t 11) c133x7 .skip)
def c133x11:AC := .seq (.reg [aV' 5 2559,aV' 6 0] [1,5,6]) (.seq c133x9 (.seq c133x5 c133x2))
def c133:AC := .seq (.reg [o' 1 (.new 2 (.t 0)),aV' 2 0,aV' 3 0,o' 4 (.mv (.k (.slice none 0 0)))] [1]) c133x11
theorem k133:KQ Tryz.prog Tryz.f133 c133 [.t 2,.t 3,.t 4] := ⟨by kernel_rfl,by kernel_rfl⟩
theorem e133:enters Tryz.prog 133 = true := by kernel_rfl
def c169x0:AC := .seq (.reg [m' 29 5,m' 30 6,m' 31 7,aC' 32 107 [.t 29,.t 30,.t 31],aS' 2 4 32] [4]) .ret
def c169x1:AC := .reg [aB' 28 .add (.t 20) (i' 1),m' 20 28] [4,5,6,7,19,20]
def c169x4:AC := .seq (.reg [m' 25 7,m' 26 5,aC' 27 186 [.t 25,.t 26]] [4,5,6,7,19,20,27]) (.cond (.t 27) (.reg [aV' 6 1] [4,5,6,7,19,20]) .skip)
def c169x5:AC := .seq (.reg [m' 22 5,aB' 23 .add (.t 22) (i' 1),aB' 24 .rem (.t 23) (i' 2560),m' 5 24] [4,5,6,7,19,20]) c169x4
def c169x10:AC := .seq (.reg [aB' 21 .lss (.t 20) (.t 19)] [4,5,6,7,19,20,21]) (.seq (.cond (.t 21) .skip (.exit 0)) (.seq (.block 1 c169x5) c169x1))
def c169x13:AC := .seq (.reg [m' 19 1,aV' 20 0] [4,5,6,7,19,20]) (.block 0 (.loop c169x10))
def c169x15:AC := .reg [m' 16 1,aB' 17 .rem (.t 16) (i' 2560),aB' 18 .add (i' 2560) (.t 17),m' 1 18] [1,4,5,6,7]
def c169x17:AC := .seq (.reg [m' 14 1,aB' 15 .gtr (.t 14) (i' 5120)] [1,4,5,6,7,15]) (.cond (.t 15) c169x15 .skip)
def c169x19:AC := .seq (.reg [aM' 9 2 2,aC' 10 133 [.t 9],m' 8 10,aE' 11 8 0,aE' 12 8 1,aE' 13 8 2,m' 5 11,m' 6 12,m' 7 13] [1,4,5,6,7]) (.seq c169x17 (.seq c169x13 c169x0))
def c169:AC := .seq (.reg [o' 2 (.new 2 (.t 0)),o' 4 (.zero [(.slice none 0 0),(.slice none 0 0)])] [1,2,4]) c169x19
theorem k169:KQ Tryz.prog Tryz.f169 c169 [.cell (some 2) 4] := ⟨by kernel_rfl,by kernel_rfl⟩
theorem e169:enters Tryz.prog 169 = true := by kernel_rfl
def c172x0:AC := .seq (.reg [m' 23 0,m' 24 1,aC' 25 192 [.t 23,.t 24],m' 4 25] [4]) .ret
def c172x1:AC := .seq (.reg [m' 9 0,o' 10 (.idx 1 none (.t 9) (i' 0)),aL' 11 10,o' 12 (.cvt .i64 (.t 11)),aB' 13 .and (.t 12) (i' 15),m' 4 13] [4]) .ret
def c172x2:AC := .seq (.reg [m' 18 0,o' 19 (.idx 1 none (.t 18) (i' 3)),aL' 20 19,o' 21 (.cvt .i64 (.t 20)),aB' 22 .and (.t 21) (i' 15),m' 4 22] [4]) .ret
def c172x4:AC := .seq (.reg [m' 15 0,m' 16 1,aC' 17 191 [.t 15,.t 16],m' 14 17] [0,1,14]) (.cond (.t 14) c172x2 .skip)
def c172x6:AC := .seq (.reg [m' 6 1,aC' 7 190 [.t 6],o' 8 (.not (.t 7)),m' 5 8] [0,1,5]) (.cond (.t 5) c172x1 c172x4)
def c172:AC := .seq (.reg [aV' 4 0] [0,1]) (.seq (.block 0 c172x6) c172x0)
theorem k172:KQ Tryz.prog Tryz.f172 c172 [.t 4] := ⟨by kernel_rfl,by kernel_rfl⟩
theorem e172:enters Tryz.prog 172 = true := by kernel_rfl
def c186x0:AC := .seq (.reg [m' 5 1,aC' 6 190 [.t 5],m' 7 6,aG' 8 7 0,aG' 9 7 1,gT' 10 7 (.call 191 [.t 8,.t 9]),o' 11 (.pick (.t 7) (.t 10) kF'),m' 12 11,aG' 13 12 0,aG' 14 12 1,gT' 15 12 (.call 192 [.t 13,.t 14]),gT' 16 12 (.bin .neq (.t 15) (i' 0)),o' 17 (.pick (.t 12) (.t 16) kF'),m' 4 17] [4]) .ret
def c186:AC := .seq (.reg [o' 4 (.mv kF')] [0,1]) c186x0
theorem k186:KQ Tryz.prog Tryz.f186 c186 [.t 4] := ⟨by kernel_rfl,by kernel_rfl⟩
theorem e186:enters Tryz.prog 186 = true := by kernel_rfl
def c190x0:AC := .seq (.reg [m' 3 0,aB' 4 .rem (.t 3) (i' 64),aB' 5 .lss (.t 4) (i' 48),m' 6 5,aG' 7 6 0,gT' 8 6 (.bin .quo (.t 7) (i' 64)),gT' 9 6 (.bin .lss (.t 8) (i' 32)),o' 10 (.pick (.t 6) (.t 9) kF'),m' 2 10] [2]) .ret
def c190:AC := .seq (.reg [o' 2 (.mv kF')] [0]) c190x0
theorem k190:KQ Tryz.prog Tryz.f190 c190 [.t 2] := ⟨by kernel_rfl,by kernel_rfl⟩
theorem e190:enters Tryz.prog 190 = true := by kernel_rfl
def c191x0:AC := .seq (.reg [m' 21 5,aB' 22 .geq (.t 21) (i' 0),m' 23 22,aG' 24 23 5,gT' 25 23 (.bin .lss (.t 24) (i' 8)),o' 26 (.pick (.t 23) (.t 25) kF'),m' 27 26,aG' 28 27 6,gT' 29 27 (.bin .geq (.t 28) (i' 0)),o' 30 (.pick (.t 27) (.t 29) kF'),m' 31 30,aG' 32 31 6,gT' 33 31 (.bin .lss (.t 32) (i' 8)),o' 34 (.pick (.t 31) (.t 33) kF'),m' 35 34,aG' 36 35 0,gT' 37 35 (.idx 1 none (.t 36) (i' 4)),gT' 38 35 (.ld none (.t 37)),aG' 39 35 5,gT' 40 35 (.bin .sub (i' 7) (.t 39)),gT' 41 35 (.bin .shr (.t 38) (.t 40)),gT' 42 35 (.bin .and (.t 41) (.k (.int .u8 1))),gT' 43 35 (.bin .eql (.t 42) (.k (.int .u8 1))),o' 44 (.pick (.t 35) (.t 43) kF'),m' 4 44] [4]) .ret
def c191x1:AC := .seq (.dreg [m' 7 1,aB' 8 .rem (.t 7) (i' 64),m' 9 0,o' 10 (.idx 1 none (.t 9) (i' 1)),aL' 11 10,o' 12 (.cvt .i64 (.t 11)),aB' 13 .sub (.t 8) (.t 12),m' 14 1,aB' 15 .quo (.t 14) (i' 64),m' 16 0,o' 17 (.idx 1 none (.t 16) (i' 2)),aL' 18 17,o' 19 (.cvt .i64 (.t 18)),aB' 20 .sub (.t 15) (.t 19),m' 5 13,m' 6 20] (bf [[],[0,1],[],[2,3],[2,4],[2,5],[0,6],[],[7,8],[],[9,10],[9,11],[9,12],[7,13],[0,7],[0,15]]) [0,5,6]) c191x0
def c191:AC := .seq (.reg [o' 4 (.mv kF')] [0,1]) c191x1
theorem k191:KQ Tryz.prog Tryz.f191 c191 [.t 4] := ⟨by kernel_rfl,by kernel_rfl⟩
theorem e191:enters Tryz.prog 191 = true := by kernel_rfl
def c192x0:AC := .seq (.reg [m' 5 0,m' 6 1,aB' 7 .quo (.t 6) (i' 64),aB' 8 .quo (.t 7) (i' 8),aB' 9 .mul (.t 8) (i' 6),aB' 10 .add (i' 8) (.t 9),m' 11 1,aB' 12 .rem (.t 11) (i' 64),aB' 13 .quo (.t 12) (i' 8),aB' 14 .add (.t 10) (.t 13),aX' 15 1 5 14,aL' 16 15,o' 17 (.cvt .i64 (.t 16)),aB' 18 .and (.t 17) (i' 15),m' 4 18] [4]) .ret
def c192:AC := .seq (.reg [aV' 4 0] [0,1]) c192x0
theorem k192:KQ Tryz.prog Tryz.f192 c192 [.t 4] := ⟨by kernel_rfl,by kernel_rfl⟩
theorem e192:enters Tryz.prog 192 = true := by kernel_rfl
def c54x0:AC := .seq (.reg [o' 1 (.mksl zLI 8 (i' 12) (i' 12)),o' 2 (.build [(.slice none 0 0),(.slice none 0 0)] [(0,1,(.t 1))]),aS' 2 0 2] [0]) .ret
def c54:AC := .seq (.reg [o' 0 (.zero [(.slice none 0 0),(.slice none 0 0)])] [0]) c54x0
theorem k54:KQ Tryz.prog Tryz.f54 c54 [.cell (some 2) 0] := ⟨by kernel_rfl,by kernel_rfl⟩
theorem e54:enters Tryz.prog 54 = true := by kernel_rfl
def c75x0:AC := .seq (.reg [m' 48 7,o' 49 (.build [(.slice none 0 0),(.slice none 0 0)] [(0,1,(.t 48))]),aS' 2 6 49] [6]) .ret
def c75x1:AC := .reg [m' 24 8,m' 25 8,o' 26 (.idx 1 none (.t 25) (i' 0)),aL' 27 26,m' 28 2,aC' 29 130 [.t 27,i' 0,i' 8,.t 28],o' 30 (.idx 1 none (.t 24) (i' 0)),aS' 1 30 29] [6,7]
def c75x2:AC := .reg [m' 33 8,m' 34 8,o' 35 (.idx 1 none (.t 34) (i' 0)),aL' 36 35,m' 37 2,aC' 38 130 [.t 36,i' 8,i' 4,.t 37],o' 39 (.idx 1 none (.t 33) (i' 0)),aS' 1 39 38] [6,7]
def c75x3:AC := .reg [m' 42 8,m' 43 8,m' 44 2,aC' 45 27 [.t 44,i' 4],o' 46 (.idx 1 none (.t 42) (i' 1)),aS' 1 46 45,o' 47 (.idx 1 none (.t 43) (i' 5)),n' (.st 1 (.t 47) (i' 0))] [6,7]
def c75x4:AC := .reg [m' 18 8,m' 19 2,aC' 20 27 [.t 19,i' 8],o' 21 (.idx 1 none (.t 18) (i' 2)),aS' 1 21 20] [6,7]
def c75x6:AC := .seq (.reg [aB' 41 .eql (.t 17) (i' 2),m' 40 41] [2,6,7,8,40]) (.cond (.t 40) c75x3 c75x4)
def c75x8:AC := .seq (.reg [aB' 32 .eql (.t 17) (i' 1),m' 31 32] [2,6,7,8,17,31]) (.cond (.t 31) c75x2 c75x6)
def c75x10:AC := .seq (.reg [aB' 23 .eql (.t 17) (i' 0),m' 22 23] [2,6,7,8,17,22]) (.cond (.t 22) c75x1 c75x8)
def c75x12:AC := .seq (.reg [m' 16 1,aB' 17 .rem (.t 16) (i' 4)] [2,6,7,8,17]) (.block 0 c75x10)
def c75x14:AC := .seq (.reg [m' 14 8,o' 15 (.eqn true (.t 14))] [1,2,6,7,8,15]) (.cond (.t 15) c75x12 .skip)
def c75x15:AC := .seq (.reg [m' 11 7,m' 12 1,aC' 13 135 [.t 11,.t 12],m' 8 13] [1,2,6,7,8]) c75x14
def c75x17:AC := .seq (.reg [aM' 9 2 3,aC' 10 134 [.t 9],m' 7 10] [1,2,6,7]) (.seq c75x15 c75x0)
def c75:AC := .seq (.reg [o' 3 (.new 2 (.t 0)),o' 6 (.zero [(.slice none 0 0),(.slice none 0 0)])] [1,2,3,6]) c75x17
theorem k75:kS Tryz.prog Tryz.f75 [(0,[1,2,3,6]),(1,[1,2,6,7]),(2,[1,2,6,7,8]),(3,[1,2,6,7,8,15]),(4,[2,6,7,8,17]),(5,[6,7]),(6,[2,6,7,8,17,22]),(7,[6,7]),(8,[2,6,7,8,17,31]),(9,[6,7]),(10,[2,6,7,8,40]),(11,[6,7]),(12,[6])] = some c75∧qS Tryz.prog Tryz.f75 = some [.cell (some 2) 6] := ⟨by kernel_rfl,by kernel_rfl⟩
theorem e75:enters Tryz.prog 75 = true := by kernel_rfl
def c82x0:AC := .seq (.reg [m' 35 6,o' 36 (.build [(.slice none 0 0),(.slice none 0 0)] [(0,1,(.t 35))]),m' 37 7,aS' 2 4 36,m' 5 37] [4,5]) .ret
def c82x1:AC := .dreg [m' 16 8,o' 17 (.idx 1 none (.t 16) (i' 0)),aL' 18 17,aC' 19 138 [.t 18,i' 0,i' 8],m' 20 8,o' 21 (.idx 1 none (.t 20) (i' 0)),aL' 22 21,aC' 23 138 [.t 22,i' 8,i' 4],m' 24 8,o' 25 (.idx 1 none (.t 24) (i' 1)),aL' 26 25,m' 27 8,o' 28 (.idx 1 none (.t 27) (i' 2)),aL' 29 28,o' 30 (.bsl zLI 4 [(0,(.t 19)),(1,(.t 23)),(2,(.t 26)),(3,(.t 29))]),m' 31 1,aB' 32 .rem (.t 31) (i' 4),aX' 33 1 30 32,aL' 34 33,m' 7 34] (bf [[],[0,1],[0,2],[0,3],[],[4,5],[4,6],[0,7],[],[8,9],[8,10],[],[11,12],[11,13],[0,14],[],[15,16],[0,17],[0,18],[0,19]]) [4,6,7]
def c82x3:AC := .seq (.reg [m' 14 8,o' 15 (.eqn true (.t 14))] [1,4,6,7,8,15]) (.cond (.t 15) c82x1 .skip)
def c82x4:AC := .seq (.reg [m' 11 6,m' 12 1,aC' 13 135 [.t 11,.t 12],m' 8 13] [1,4,6,7,8]) c82x3
def c82x7:AC := .seq (.reg [aM' 9 2 2,aC' 10 134 [.t 9],m' 6 10] [1,4,6]) (.seq (.reg [aV' 7 0] [1,4,6,7]) (.seq c82x4 c82x0))
def c82:AC := .seq (.reg [o' 2 (.new 2 (.t 0)),o' 4 (.zero [(.slice none 0 0),(.slice none 0 0)]),aV' 5 0] [1,2,4]) c82x7
theorem k82:KQ Tryz.prog Tryz.f82 c82 [.cell (some 2) 4,.t 5] := ⟨by kernel_rfl,by kernel_rfl⟩
theorem e82:enters Tryz.prog 82 = true := by kernel_rfl
def c125x0:AC := .seq (.dreg [m' 6 3,o' 7 (.idx 1 none (.t 6) (i' 1)),aL' 8 7,m' 9 3,o' 10 (.idx 1 none (.t 9) (i' 4)),aL' 11 10,aB' 12 .mul (.t 8) (.t 11),m' 13 3,o' 14 (.idx 1 none (.t 13) (i' 7)),aL' 15 14,m' 16 3,o' 17 (.idx 1 none (.t 16) (i' 10)),aL' 18 17,aB' 19 .mul (.t 15) (.t 18),aB' 20 .add (.t 12) (.t 19),m' 2 20] (bf [[],[0,1],[0,2],[],[3,4],[3,5],[0,6],[],[7,8],[7,9],[],[10,11],[10,12],[7,13],[0,14],[0,15]]) [2]) .ret
def c125x1:AC := .seq (.reg [aM' 4 2 1,aC' 5 134 [.t 4],m' 3 5] [3]) c125x0
def c125:AC := .seq (.reg [o' 1 (.new 2 (.t 0)),aV' 2 0] [1]) c125x1
theorem k125:KQ Tryz.prog Tryz.f125 c125 [.t 2] := ⟨by kernel_rfl,by kernel_rfl⟩
theorem e125:enters Tryz.prog 125 = true := by kernel_rfl
def c134x2:AC := .reg [aB' 35 .add (.t 16) (i' 1),m' 16 35] [3,4,12,15,16]
def c134x3:AC := .reg [m' 20 3,m' 21 4,aB' 22 .mul (.t 21) (i' 6),m' 23 5,aB' 24 .add (.t 22) (.t 23),m' 25 3,m' 26 4,aB' 27 .mul (.t 26) (i' 6),m' 28 5,aB' 29 .add (.t 27) (.t 28),aX' 30 1 25 29,aL' 31 30,m' 32 6,aC' 33 27 [.t 31,.t 32],aX' 34 1 20 24,aS' 1 34 33] [3,4,12,15,16]
def c134x4:AC := .seq (.reg [m' 18 16,o' 19 (.ixa 6 1 none (.t 15) (.t 16)),m' 5 18,m' 6 19] [3,4,5,6,12,15,16]) c134x3
def c134x9:AC := .seq (.reg [aB' 17 .lss (.t 16) (i' 6)] [3,4,12,15,16,17]) (.seq (.cond (.t 17) .skip (.exit 2)) (.seq (.block 3 c134x4) c134x2))
def c134x12:AC := .seq (.reg [o' 15 (.build [(.int .i64 0),(.int .i64 0),(.int .i64 0),(.int .i64 0),(.int .i64 0),(.int .i64 0)] [(0,1,(i' 12)),(1,1,(i' 4)),(2,1,(i' 8)),(3,1,(i' 12)),(4,1,(i' 1)),(5,1,(i' 14))]),aV' 16 0] [3,4,12,15,16]) (.block 2 (.loop c134x9))
def c134x18:AC := .seq (.reg [aB' 13 .lss (.t 12) (i' 2)] [3,12,13]) (.seq (.cond (.t 13) .skip (.exit 0)) (.seq (.block 1 (.seq (.reg [m' 14 12,m' 4 14] [3,4,12]) c134x12)) (.reg [aB' 36 .add (.t 12) (i' 1),m' 12 36] [3,12])))
def c134x23:AC := .seq (.reg [m' 8 3,aF' 9 0 1,aL' 10 9,o' 11 (.copy 1 (.t 8) (.t 10))] [3]) (.seq (.seq (.reg [aV' 12 0] [3,12]) (.block 0 (.loop c134x18))) (.seq (.reg [m' 37 3,m' 2 37] [2]) .ret))
def c134x24:AC := .seq (.reg [o' 7 (.mksl zLI 8 (i' 12) (i' 12)),m' 3 7] [1,3]) c134x23
def c134:AC := .seq (.reg [o' 1 (.new 2 (.t 0)),o' 2 (.mv (.k (.slice none 0 0)))] [1]) c134x24
theorem k134:KQ Tryz.prog Tryz.f134 c134 [.t 2] := ⟨by kernel_rfl,by kernel_rfl⟩
theorem e134:enters Tryz.prog 134 = true := by kernel_rfl
def c135x0:AC := .seq (.reg [m' 11 0,m' 12 1,aB' 13 .quo (.t 12) (i' 4),aB' 14 .mul (.t 13) (i' 6),m' 15 1,aB' 16 .quo (.t 15) (i' 4),aB' 17 .mul (.t 16) (i' 6),aB' 18 .add (.t 17) (i' 6),o' 19 (.slc 1 (.t 11) (some (.t 14)) (some (.t 18))),m' 4 19] [4]) .ret
def c135x3:AC := .seq (.reg [m' 5 1,aB' 6 .lss (.t 5) (i' 0),m' 7 6,gF' 8 7 (.mv (.t 1)),gF' 9 7 (.bin .geq (.t 8) (i' 8)),o' 10 (.pick (.t 7) kT' (.t 9))] [0,1,10]) (.cond (.t 10) (.seq (.reg [o' 4 (.mv (.k (.slice none 0 0)))] [4]) .ret) .skip)
def c135:AC := .seq (.reg [o' 4 (.mv (.k (.slice none 0 0)))] [0,1]) (.seq c135x3 c135x0)
theorem k135:KQ Tryz.prog Tryz.f135 c135 [.t 4] := ⟨by kernel_rfl,by kernel_rfl⟩
theorem e135:enters Tryz.prog 135 = true := by kernel_rfl
def c170x0:AC := .seq (.reg [m' 48 5,o' 49 (.build [(.slice none 0 0),(.slice none 0 0)] [(0,1,(.t 48))]),aS' 2 4 49] [4]) .ret
def c170x1:AC := .reg [aB' 47 .add (.t 14) (i' 1),m' 14 47] [1,4,5,14]
def c170x2:AC := .reg [m' 43 8,m' 44 9,aB' 45 .add (.t 44) (i' 1),aB' 46 .sub (.t 43) (.t 45),m' 8 46] [1,4,5,7,8,14]
def c170x3:AC := .seq (.reg [m' 39 7,m' 40 9,aB' 41 .add (.t 40) (i' 1),aC' 42 188 [.t 39,.t 41]] [1,4,5,7,8,9,14]) c170x2
def c170x4:AC := .seq (.reg [m' 36 7,m' 37 8,aC' 38 188 [.t 36,.t 37]] [1,4,5,14]) (.exit 2)
def c170x6:AC := .seq (.reg [m' 29 9,m' 30 8,aB' 31 .geq (.t 29) (.t 30),m' 32 31,gF' 33 32 (.mv (.t 9)),gF' 34 32 (.bin .eql (.t 33) (i' 100000)),o' 35 (.pick (.t 32) kT' (.t 34))] [1,4,5,7,8,9,14,35]) (.cond (.t 35) c170x4 .skip)
def c170x8:AC := .seq (.reg [m' 27 7,aC' 28 187 [.t 27],m' 9 28] [1,4,5,7,8,9,14]) (.seq c170x6 c170x3)
def c170x11:AC := .seq (.reg [m' 25 8,aB' 26 .gtr (.t 25) (i' 0)] [1,4,5,7,8,14,26]) (.cond (.t 26) .skip (.exit 2))
def c170x16:AC := .seq (.reg [m' 17 5,m' 18 6,aB' 19 .mul (.t 18) (i' 6),m' 20 6,aB' 21 .mul (.t 20) (i' 6),aB' 22 .add (.t 21) (i' 6),o' 23 (.slc 1 (.t 17) (some (.t 19)) (some (.t 22))),m' 7 23] [1,4,5,7,14]) (.seq (.reg [m' 24 1,m' 8 24] [1,4,5,7,8,14]) (.block 2 (.loop (.seq c170x11 (.block 3 c170x8)))))
def c170x22:AC := .seq (.reg [aB' 15 .lss (.t 14) (i' 2)] [1,4,5,14,15]) (.seq (.cond (.t 15) .skip (.exit 0)) (.seq (.block 1 (.seq (.reg [m' 16 14,m' 6 16] [1,4,5,6,14]) c170x16)) c170x1))
def c170x27:AC := .seq (.reg [m' 12 1,o' 13 (.mnx false [.t 12,i' 10000000]),m' 1 13] [1,4,5]) (.seq (.seq (.reg [aV' 14 0] [1,4,5,14]) (.block 0 (.loop c170x22))) c170x0)
def c170x28:AC := .seq (.reg [aM' 10 2 2,aC' 11 134 [.t 10],m' 5 11] [1,4,5]) c170x27
def c170:AC := .seq (.reg [o' 2 (.new 2 (.t 0)),o' 4 (.zero [(.slice none 0 0),(.slice none 0 0)])] [1,2,4]) c170x28
theorem k170:KQ Tryz.prog Tryz.f170 c170 [.cell (some 2) 4] := ⟨by kernel_rfl,by kernel_rfl⟩
theorem e170:enters Tryz.prog 170 = true := by kernel_rfl
def c187x1:AC := .dreg [m' 29 3,m' 30 0,o' 31 (.idx 1 none (.t 30) (i' 2)),aL' 32 31,aB' 33 .mul (.t 32) (i' 64),m' 34 0,o' 35 (.idx 1 none (.t 34) (i' 5)),aL' 36 35,aB' 37 .sub (.t 33) (.t 36),o' 38 (.mnx true [i' 1,.t 37]),aB' 39 .sub (.t 38) (i' 1),o' 40 (.mnx false [.t 29,.t 39]),m' 3 40] (bf [[],[],[1,2],[1,3],[1,4],[],[5,6],[5,7],[1,8],[1,9],[1,10],[0,11],[0,12]]) [3]
def c187x3:AC := .seq (.reg [m' 19 0,o' 20 (.idx 1 none (.t 19) (i' 2)),aL' 21 20,aB' 22 .gtr (.t 21) (i' 0),m' 23 22,aG' 24 23 0,gT' 25 23 (.idx 1 none (.t 24) (i' 1)),gT' 26 23 (.ld none (.t 25)),gT' 27 23 (.bin .gtr (.t 26) (i' 0)),o' 28 (.pick (.t 23) (.t 27) kF')] [0,3,28]) (.cond (.t 28) c187x1 .skip)
def c187x5:AC := .dreg [m' 8 3,m' 9 0,o' 10 (.idx 1 none (.t 9) (i' 0)),aL' 11 10,m' 12 0,o' 13 (.idx 1 none (.t 12) (i' 3)),aL' 14 13,aB' 15 .sub (.t 11) (.t 14),o' 16 (.mnx true [i' 1,.t 15]),aB' 17 .sub (.t 16) (i' 1),o' 18 (.mnx false [.t 8,.t 17]),m' 3 18] (bf [[],[],[1,2],[1,3],[],[4,5],[4,6],[1,7],[1,8],[1,9],[0,10],[0,11]]) [0,3]
def c187x7:AC := .seq (.reg [m' 4 0,o' 5 (.idx 1 none (.t 4) (i' 0)),aL' 6 5,aB' 7 .gtr (.t 6) (i' 0)] [0,3,7]) (.cond (.t 7) c187x5 .skip)
def c187:AC := .seq (.reg [aV' 2 0] [0]) (.seq (.reg [aV' 3 100000] [0,3]) (.seq c187x7 (.seq c187x3 (.seq (.reg [m' 41 3,m' 2 41] [2]) .ret))))
theorem k187:KQ Tryz.prog Tryz.f187 c187 [.t 2] := ⟨by kernel_rfl,by kernel_rfl⟩
theorem e187:enters Tryz.prog 187 = true := by kernel_rfl
def c188x0:AC := .reg [m' 55 0,o' 56 (.idx 1 none (.t 55) (i' 1)),aL' 57 56,aB' 58 .sub (.t 57) (i' 1),o' 59 (.idx 1 none (.t 55) (i' 1)),aS' 1 59 58] []
def c188x1:AC := .seq (.reg [m' 53 0,o' 54 (.idx 1 none (.t 53) (i' 5)),n' (.st 1 (.t 54) (i' 0))] [0]) c188x0
def c188x3:AC := .seq (.dreg [m' 45 0,o' 46 (.idx 1 none (.t 45) (i' 5)),aL' 47 46,m' 48 0,o' 49 (.idx 1 none (.t 48) (i' 2)),aL' 50 49,aB' 51 .mul (.t 50) (i' 64),aB' 52 .geq (.t 47) (.t 51)] (bf [[],[0,1],[0,2],[],[3,4],[3,5],[3,6],[0,7]]) [0,52]) (.cond (.t 52) c188x1 .skip)
def c188x4:AC := .seq (.reg [m' 39 0,o' 40 (.idx 1 none (.t 39) (i' 5)),aL' 41 40,m' 42 1,aB' 43 .add (.t 41) (.t 42),o' 44 (.idx 1 none (.t 39) (i' 5)),aS' 1 44 43] [0]) c188x3
def c188x6:AC := .seq (.reg [m' 29 0,o' 30 (.idx 1 none (.t 29) (i' 2)),aL' 31 30,aB' 32 .gtr (.t 31) (i' 0),m' 33 32,aG' 34 33 0,gT' 35 33 (.idx 1 none (.t 34) (i' 1)),gT' 36 33 (.ld none (.t 35)),gT' 37 33 (.bin .gtr (.t 36) (i' 0)),o' 38 (.pick (.t 33) (.t 37) kF')] [0,1,38]) (.cond (.t 38) c188x4 .skip)
def c188x7:AC := .reg [m' 21 0,m' 22 0,m' 23 0,o' 24 (.idx 1 none (.t 23) (i' 4)),aL' 25 24,aB' 26 .sub (i' 1) (.t 25),o' 27 (.idx 1 none (.t 21) (i' 3)),n' (.st 1 (.t 27) (i' 0)),o' 28 (.idx 1 none (.t 22) (i' 4)),aS' 1 28 26] [0,1]
def c188x9:AC := .seq (.dreg [m' 14 0,o' 15 (.idx 1 none (.t 14) (i' 3)),aL' 16 15,m' 17 0,o' 18 (.idx 1 none (.t 17) (i' 0)),aL' 19 18,aB' 20 .geq (.t 16) (.t 19)] (bf [[],[0,1],[0,2],[],[3,4],[3,5],[0,6]]) [0,1,20]) (.cond (.t 20) c188x7 .skip)
def c188x10:AC := .seq (.reg [m' 8 0,o' 9 (.idx 1 none (.t 8) (i' 3)),aL' 10 9,m' 11 1,aB' 12 .add (.t 10) (.t 11),o' 13 (.idx 1 none (.t 8) (i' 3)),aS' 1 13 12] [0,1]) c188x9
def c188x12:AC := .seq (.reg [m' 4 0,o' 5 (.idx 1 none (.t 4) (i' 0)),aL' 6 5,aB' 7 .gtr (.t 6) (i' 0)] [0,1,7]) (.cond (.t 7) c188x10 .skip)
def c188:AC := .seq c188x12 c188x6
theorem k188:KQ Tryz.prog Tryz.f188 c188 [] := ⟨by kernel_rfl,by kernel_rfl⟩
theorem e188:enters Tryz.prog 188 = true := by kernel_rfl
def c51x0:AC := .seq (.reg [o' 1 (.bsl zLI 3 [(0,(i' 255)),(1,(i' 0)),(2,(i' 0))]),o' 2 (.build [(.slice none 0 0),(.slice none 0 0)] [(0,1,(.t 1))]),aS' 2 0 2] [0]) .ret
def c51:AC := .seq (.reg [o' 0 (.zero [(.slice none 0 0),(.slice none 0 0)])] [0]) c51x0
theorem k51:KQ Tryz.prog Tryz.f51 c51 [.cell (some 2) 0] := ⟨by kernel_rfl,by kernel_rfl⟩
theorem e51:enters Tryz.prog 51 = true := by kernel_rfl
def c72x0:AC := .seq (.reg [m' 22 7,o' 23 (.build [(.slice none 0 0),(.slice none 0 0)] [(0,1,(.t 22))]),aS' 2 6 23] [6]) .ret
def c72x1:AC := .reg [m' 16 7,m' 17 1,aB' 18 .add (i' 1) (.t 17),m' 19 2,aC' 20 27 [.t 19,i' 8],aX' 21 1 16 18,aS' 1 21 20] [6,7]
def c72x3:AC := .seq (.reg [m' 10 1,aB' 11 .eql (.t 10) (i' 0),m' 12 11,gF' 13 12 (.mv (.t 1)),gF' 14 12 (.bin .eql (.t 13) (i' 1)),o' 15 (.pick (.t 12) kT' (.t 14))] [1,2,6,7,15]) (.cond (.t 15) c72x1 .skip)
def c72x5:AC := .seq (.reg [aM' 8 2 3,aC' 9 131 [.t 8],m' 7 9] [1,2,6,7]) (.seq c72x3 c72x0)
def c72:AC := .seq (.reg [o' 3 (.new 2 (.t 0)),o' 6 (.zero [(.slice none 0 0),(.slice none 0 0)])] [1,2,3,6]) c72x5
theorem k72:KQ Tryz.prog Tryz.f72 c72 [.cell (some 2) 6] := ⟨by kernel_rfl,by kernel_rfl⟩
theorem e72:enters Tryz.prog 72 = true := by kernel_rfl
def c79x0:AC := .seq (.reg [m' 33 6,o' 34 (.build [(.slice none 0 0),(.slice none 0 0)] [(0,1,(.t 33))]),m' 35 7,aS' 2 4 34,m' 5 35] [4,5]) .ret
def c79x1:AC := .dreg [m' 13 6,o' 14 (.idx 1 none (.t 13) (i' 1)),aL' 15 14,m' 16 6,o' 17 (.idx 1 none (.t 16) (i' 2)),aL' 18 17,aB' 19 .and (.t 15) (.t 18),m' 20 6,o' 21 (.idx 1 none (.t 20) (i' 0)),aL' 22 21,m' 23 6,o' 24 (.idx 1 none (.t 23) (i' 2)),aL' 25 24,aB' 26 .andNot (.t 22) (.t 25),aB' 27 .or (.t 19) (.t 26),m' 7 27] (bf [[],[0,1],[0,2],[],[3,4],[3,5],[0,6],[],[7,8],[7,9],[],[10,11],[10,12],[7,13],[0,14],[0,15]]) [4,6,7]
def c79x2:AC := .reg [m' 30 6,o' 31 (.idx 1 none (.t 30) (i' 2)),aL' 32 31,m' 7 32] [4,6,7]
def c79x4:AC := .seq (.reg [aB' 29 .eql (.t 10) (i' 1),m' 28 29] [4,6,7,28]) (.cond (.t 28) c79x2 .skip)
def c79x6:AC := .seq (.reg [aB' 12 .eql (.t 10) (i' 0),m' 11 12] [4,6,7,10,11]) (.cond (.t 11) c79x1 c79x4)
def c79x11:AC := .seq (.reg [aM' 8 2 2,aC' 9 131 [.t 8],m' 6 9] [1,4,6]) (.seq (.reg [aV' 7 0] [1,4,6,7]) (.seq (.seq (.reg [m' 10 1] [4,6,7,10]) (.block 0 c79x6)) c79x0))
def c79:AC := .seq (.reg [o' 2 (.new 2 (.t 0)),o' 4 (.zero [(.slice none 0 0),(.slice none 0 0)]),aV' 5 0] [1,2,4]) c79x11
theorem k79:KQ Tryz.prog Tryz.f79 c79 [.cell (some 2) 4,.t 5] := ⟨by kernel_rfl,by kernel_rfl⟩
theorem e79:enters Tryz.prog 79 = true := by kernel_rfl
def c122x0:AC := .seq (.dreg [m' 6 3,o' 7 (.idx 1 none (.t 6) (i' 1)),aL' 8 7,m' 9 3,o' 10 (.idx 1 none (.t 9) (i' 2)),aL' 11 10,aB' 12 .and (.t 8) (.t 11),m' 2 12] (bf [[],[0,1],[0,2],[],[3,4],[3,5],[0,6],[0,7]]) [2]) .ret
def c122x1:AC := .seq (.reg [aM' 4 2 1,aC' 5 131 [.t 4],m' 3 5] [3]) c122x0
def c122:AC := .seq (.reg [o' 1 (.new 2 (.t 0)),aV' 2 0] [1]) c122x1
theorem k122:KQ Tryz.prog Tryz.f122 c122 [.t 2] := ⟨by kernel_rfl,by kernel_rfl⟩
theorem e122:enters Tryz.prog 122 = true := by kernel_rfl
def c131x1:AC := .reg [aB' 23 .add (.t 12) (i' 1),m' 12 23] [3,11,12]
def c131x2:AC := .reg [m' 15 3,m' 16 4,m' 17 3,m' 18 4,aX' 19 1 17 18,aL' 20 19,aC' 21 27 [.t 20,i' 8],aX' 22 1 15 16,aS' 1 22 21] [3,11,12]
def c131x8:AC := .seq (.reg [aB' 13 .lss (.t 12) (.t 11)] [3,11,12,13]) (.seq (.cond (.t 13) .skip (.exit 0)) (.seq (.block 1 (.seq (.reg [m' 14 12,m' 4 14] [3,4,11,12]) c131x2)) c131x1))
def c131x11:AC := .seq (.reg [m' 10 3,aT' 11 10,aV' 12 0] [3,11,12]) (.block 0 (.loop c131x8))
def c131x13:AC := .seq (.reg [m' 6 3,aF' 7 0 1,aL' 8 7,o' 9 (.copy 1 (.t 6) (.t 8))] [3]) (.seq c131x11 (.seq (.reg [m' 24 3,m' 2 24] [2]) .ret))
def c131x14:AC := .seq (.reg [o' 5 (.mksl zLI 8 (i' 3) (i' 3)),m' 3 5] [1,3]) c131x13
def c131:AC := .seq (.reg [o' 1 (.new 2 (.t 0)),o' 2 (.mv (.k (.slice none 0 0)))] [1]) c131x14
theorem k131:KQ Tryz.prog Tryz.f131 c131 [.t 2] := ⟨by kernel_rfl,by kernel_rfl⟩
theorem e131:enters Tryz.prog 131 = true := by kernel_rfl
def c147x0:AC := .seq (.reg [m' 12 5,o' 13 (.build [(.slice none 0 0),(.slice none 0 0)] [(0,1,(.t 12))]),aS' 2 4 13] [4]) .ret
def c147x1:AC := .seq (.reg [m' 8 5,m' 9 1,aC' 10 27 [.t 9,i' 8],o' 11 (.idx 1 none (.t 8) (i' 0)),aS' 1 11 10] [4,5]) c147x0
def c147x2:AC := .seq (.reg [aM' 6 2 2,aC' 7 131 [.t 6],m' 5 7] [1,4,5]) c147x1
def c147:AC := .seq (.reg [o' 2 (.new 2 (.t 0)),o' 4 (.zero [(.slice none 0 0),(.slice none 0 0)])] [1,2,4]) c147x2
theorem k147:KQ Tryz.prog Tryz.f147 c147 [.cell (some 2) 4] := ⟨by kernel_rfl,by kernel_rfl⟩
theorem e147:enters Tryz.prog 147 = true := by kernel_rfl
end Go.Proofs.YtonhglhdlgbcnabGreat.Code
namespace Go.Proofs.YtonhglhdlgbcnabGreat.Code
end Go.Proofs.YtonhglhdlgbcnabGreat.Code
namespace Go.Proofs.YtonhglhdlgbcnabGreat.Code
open Go Go.Proofs.YtonhglhdlgbcnabGreat.Calc
set_option maxRecDepth 100000
def c20x1:AC := .reg [aB' 99 .add (.t 82) (i' 1),m' 82 99] [1,80,81,82]
def c20x4:AC := .seq (.dreg [aF' 93 7 1,aL' 94 93,m' 95 9,o' 96 (.slc 2 (.t 94) none (some (.t 95))),aM' 97 2 10,aC' 98 48 [.t 96,.t 97]] (bf [[],[0,1],[],[0,3],[],[0,5]]) [1,80,81,82,98]) (.cond (.t 98) (.seq (.reg [aV' 2 5] [2]) .ret) .skip)
def c20x7:AC := .seq (.reg [m' 90 11,aB' 91 .neq (.t 90) (i' 0)] [1,9,10,11,80,81,82,91]) (.cond (.t 91) (.seq (.reg [m' 92 11,m' 2 92] [2]) .ret) .skip)
def c20x8:AC := .seq (.reg [aM' 87 8 1,aM' 88 2 10,aC' 89 47 [.t 87,.t 88],m' 11 89] [1,9,10,11,80,81,82]) c20x7
def c20x10:AC := .seq (.reg [m' 84 82,aX' 85 2 80 82,aM' 86 2 85,o' 10 (.zero [(.string ⟨#[]⟩),(.string ⟨#[]⟩)]),m' 9 84,aS' 2 10 86] [1,9,10,80,81,82]) (.seq c20x8 c20x4)
def c20x15:AC := .seq (.reg [aB' 83 .lss (.t 82) (.t 81)] [1,80,81,82,83]) (.seq (.cond (.t 83) .skip (.exit 5)) (.seq (.block 6 c20x10) c20x1))
def c20x18:AC := .seq (.reg [aF' 79 7 1,aL' 80 79,aT' 81 80,aV' 82 0] [1,80,81,82]) (.block 5 (.loop c20x15))
def c20x22:AC := .seq (.reg [aF' 75 7 1,aL' 76 75,aT' 77 76,aB' 78 .gtr (.t 77) (i' 40)] [1,78]) (.cond (.t 78) (.seq (.reg [aV' 2 2] [2]) .ret) .skip)
def c20x24:AC := .reg [aB' 74 .add (.t 29) (i' 1),m' 29 74] [1,27,28,29]
def c20x25:AC := .reg [aB' 73 .add (.t 44) (i' 1),m' 44 73] [1,5,27,28,29,42,43,44]
def c20x29:AC := .seq (.reg [aF' 55 2 5,aL' 56 55,aF' 57 2 8,aL' 58 57,aF' 59 3 8,aL' 60 59,aB' 61 .add (.t 58) (.t 60),aB' 62 .lss (.t 56) (.t 61),m' 63 62,gT' 64 63 (.fad 2 (.t 8)),gT' 65 63 (.ld none (.t 64)),gT' 66 63 (.fad 2 (.t 5)),gT' 67 63 (.ld none (.t 66)),gT' 68 63 (.fad 3 (.t 5)),gT' 69 63 (.ld none (.t 68)),gT' 70 63 (.bin .add (.t 67) (.t 69)),gT' 71 63 (.bin .lss (.t 65) (.t 70)),o' 72 (.pick (.t 63) (.t 71) kF'),m' 54 72] [1,5,27,28,29,42,43,44,54]) (.cond (.t 54) (.seq (.reg [aV' 2 16] [2]) .ret) .skip)
def c20x31:AC := .seq (.reg [aF' 49 0 8,aL' 50 49,aF' 51 0 5,aL' 52 51,aB' 53 .eql (.t 50) (.t 52),m' 48 53] [1,5,8,27,28,29,42,43,44,48]) (.cond (.t 48) (.seq (.reg [aV' 2 5] [2]) .ret) c20x29)
def c20x33:AC := .seq (.reg [aX' 46 5 42 44,aM' 47 5 46,o' 8 (.zero zLC),aS' 5 8 47] [1,5,8,27,28,29,42,43,44]) (.block 4 c20x31)
def c20x38:AC := .seq (.reg [aB' 45 .lss (.t 44) (.t 43)] [1,5,27,28,29,42,43,44,45]) (.seq (.cond (.t 45) .skip (.exit 2)) (.seq (.block 3 c20x33) c20x25))
def c20x41:AC := .seq (.reg [aF' 39 6 1,aL' 40 39,m' 41 4,o' 42 (.slc 5 (.t 40) none (some (.t 41))),aT' 43 42,aV' 44 0] [1,5,27,28,29,42,43,44]) (.block 2 (.loop c20x38))
def c20x44:AC := .seq (.reg [m' 36 6,aB' 37 .neq (.t 36) (i' 0)] [1,4,5,6,27,28,29,37]) (.cond (.t 37) (.seq (.reg [m' 38 6,m' 2 38] [2]) .ret) .skip)
def c20x45:AC := .seq (.reg [aM' 34 5 5,aC' 35 46 [.t 34],m' 6 35] [1,4,5,6,27,28,29]) c20x44
def c20x47:AC := .seq (.reg [m' 31 29,aX' 32 5 27 29,aM' 33 5 32,o' 5 (.zero zLC),m' 4 31,aS' 5 5 33] [1,4,5,27,28,29]) (.seq c20x45 c20x41)
def c20x52:AC := .seq (.reg [aB' 30 .lss (.t 29) (.t 28)] [1,27,28,29,30]) (.seq (.cond (.t 30) .skip (.exit 0)) (.seq (.block 1 c20x47) c20x24))
def c20x55:AC := .seq (.reg [aF' 26 6 1,aL' 27 26,aT' 28 27,aV' 29 0] [1,27,28,29]) (.block 0 (.loop c20x52))
def c20x59:AC := .seq (.reg [aF' 22 6 1,aL' 23 22,aT' 24 23,aB' 25 .gtr (.t 24) (i' 12)] [1,25]) (.cond (.t 25) (.seq (.reg [aV' 2 2] [2]) .ret) .skip)
def c20x63:AC := .seq (.reg [m' 19 3,aB' 20 .neq (.t 19) (i' 0)] [1,3,20]) (.cond (.t 20) (.seq (.reg [m' 21 3,m' 2 21] [2]) .ret) .skip)
def c20x64:AC := .seq (.reg [aF' 16 1 1,aM' 17 5 16,aC' 18 45 [.t 17],m' 3 18] [1,3]) c20x63
def c20x68:AC := .seq (.reg [aF' 12 0 1,aL' 13 12,aC' 14 44 [.t 13],o' 15 (.not (.t 14))] [1,15]) (.cond (.t 15) (.seq (.reg [aV' 2 15] [2]) .ret) .skip)
def c20:AC := .seq (.reg [o' 1 (.new 8 (.t 0)),aV' 2 0] [1]) (.seq c20x68 (.seq c20x64 (.seq c20x59 (.seq c20x55 (.seq c20x22 (.seq c20x18 (.seq (.reg [aV' 2 0] [2]) .ret)))))))
theorem k20:KQ Tryz.prog Tryz.f20 c20 [.t 2] := ⟨by kernel_rfl,by kernel_rfl⟩
theorem e20:enters Tryz.prog 20 = true := by kernel_rfl
def c26x0:AC := .seq (.reg [aV' 4 0,aV' 5 0,o' 6 (.mv kF')] [4,5,6]) .ret
def c26x1:AC := .reg [aB' 43 .add (.t 12) (i' 1),m' 12 43] [1,10,11,12]
def c26x2:AC := .seq (.dreg [m' 38 7,m' 39 1,aF' 40 2 8,aL' 41 40,aB' 42 .sub (.t 39) (.t 41),m' 4 38,m' 5 42,o' 6 (.mv kT')] (bf [[],[],[],[2,3],[1,4],[0,1],[0,6],[0,7]]) [4,5,6]) .ret
def c26x4:AC := .seq (.reg [m' 17 1,aF' 18 2 8,aL' 19 18,aB' 20 .geq (.t 17) (.t 19),m' 21 20,gT' 22 21 (.fad 3 (.t 8)),gT' 23 21 (.ld none (.t 22)),gT' 24 21 (.bin .gtr (.t 23) (i' 0)),o' 25 (.pick (.t 21) (.t 24) kF'),m' 26 25,aG' 27 26 1,gT' 28 26 (.cvt .u64 (.t 27)),gT' 29 26 (.fad 2 (.t 8)),gT' 30 26 (.ld none (.t 29)),gT' 31 26 (.cvt .u64 (.t 30)),gT' 32 26 (.bin .sub (.t 28) (.t 31)),gT' 33 26 (.fad 3 (.t 8)),gT' 34 26 (.ld none (.t 33)),gT' 35 26 (.cvt .u64 (.t 34)),gT' 36 26 (.bin .lss (.t 32) (.t 35)),o' 37 (.pick (.t 26) (.t 36) kF')] [1,7,8,10,11,12,37]) (.cond (.t 37) c26x2 .skip)
def c26x5:AC := .seq (.reg [m' 14 12,aX' 15 5 10 12,aM' 16 5 15,o' 8 (.zero zLC),m' 7 14,aS' 5 8 16] [1,7,8,10,11,12]) c26x4
def c26x10:AC := .seq (.reg [aB' 13 .lss (.t 12) (.t 11)] [1,10,11,12,13]) (.seq (.cond (.t 13) .skip (.exit 0)) (.seq (.block 1 c26x5) c26x1))
def c26x13:AC := .seq (.reg [aF' 9 6 2,aL' 10 9,aT' 11 10,aV' 12 0] [1,10,11,12]) (.block 0 (.loop c26x10))
def c26:AC := .seq (.reg [o' 2 (.new 8 (.t 0)),aV' 4 0,aV' 5 0,o' 6 (.mv kF')] [1,2]) (.seq c26x13 c26x0)
theorem k26:KQ Tryz.prog Tryz.f26 c26 [.t 4,.t 5,.t 6] := ⟨by kernel_rfl,by kernel_rfl⟩
theorem e26:enters Tryz.prog 26 = true := by kernel_rfl
def c47x5:AC := .seq (.reg [aF' 36 1 3,aL' 37 36,o' 38 (.bin .neq (.t 37) (.k (.string ⟨#[99,112,117,46,105,114,113]⟩))),m' 35 38] [35]) (.cond (.t 35) (.seq (.reg [aV' 4 20] [4]) .ret) .skip)
def c47x7:AC := .seq (.reg [m' 23 6,o' 24 (.bin .neq (.t 23) (.k (.string ⟨#[105,114,113]⟩))),m' 25 24,gF' 26 25 (.fad 6 (.t 2)),gF' 27 25 (.ld none (.t 26)),gF' 28 25 (.mv (.t 8)),gF' 29 25 (.idx 5 none (.t 27) (.t 28)),gF' 30 25 (.fad 1 (.t 29)),gF' 31 25 (.ld none (.t 30)),gF' 32 25 (.call 103 [.t 31]),gF' 33 25 (.not (.t 32)),o' 34 (.pick (.t 25) kT' (.t 33)),m' 22 34] [3,22]) (.cond (.t 22) (.seq (.reg [aV' 4 8] [4]) .ret) c47x5)
def c47x9:AC := .seq (.reg [m' 20 8,aB' 21 .lss (.t 20) (i' 0),m' 19 21] [2,3,6,8,19]) (.cond (.t 19) (.seq (.reg [aV' 4 4] [4]) .ret) c47x7)
def c47x12:AC := .seq (.reg [aM' 16 8 2,m' 17 5,aC' 18 102 [.t 16,.t 17],m' 8 18] [2,3,6,8]) (.seq (.block 0 c47x9) (.seq (.reg [aV' 4 0] [4]) .ret))
def c47x13:AC := .seq (.reg [aF' 10 0 3,aL' 11 10,o' 12 (.call 101 [.t 11,(.k (.string ⟨#[46]⟩))]),m' 9 12,aE' 13 9 0,aE' 14 9 1,aE' 15 9 2,m' 5 13,m' 6 14,m' 7 15] [2,3,5,6]) c47x12
def c47:AC := .seq (.reg [o' 2 (.new 8 (.t 0)),o' 3 (.new 2 (.t 1)),aV' 4 0] [2,3]) c47x13
theorem k47:KQ Tryz.prog Tryz.f47 c47 [.t 4] := ⟨by kernel_rfl,by kernel_rfl⟩
theorem e47:enters Tryz.prog 47 = true := by kernel_rfl
def c102x0:AC := .seq (.reg [aF' 5 6 2,aL' 6 5,o' 7 (.mkf 146 [.t 3]),aC' 8 108 [.t 6,.t 7],m' 4 8] [4]) .ret
def c102:AC := .seq (.reg [o' 2 (.new 8 (.t 0)),o' 3 (.new 1 (.t 1)),aV' 4 0] [2,3]) c102x0
theorem k102:KQ Tryz.prog Tryz.f102 c102 [.t 4] := ⟨by kernel_rfl,by kernel_rfl⟩
theorem e102:enters Tryz.prog 102 = true := by kernel_rfl
def c103x0:AC := .seq (.reg [m' 3 0,aB' 4 .eql (.t 3) (i' 3),m' 5 4,gF' 6 5 (.mv (.t 0)),gF' 7 5 (.bin .eql (.t 6) (i' 5)),o' 8 (.pick (.t 5) kT' (.t 7)),m' 9 8,gF' 10 9 (.mv (.t 0)),gF' 11 9 (.bin .eql (.t 10) (i' 8)),o' 12 (.pick (.t 9) kT' (.t 11)),m' 2 12] [2]) .ret
def c103:AC := .seq (.reg [o' 2 (.mv kF')] [0]) c103x0
theorem k103:KQ Tryz.prog Tryz.f103 c103 [.t 2] := ⟨by kernel_rfl,by kernel_rfl⟩
theorem e103:enters Tryz.prog 103 = true := by kernel_rfl
def c115x1:AC := .reg [aB' 30 .add (.t 13) (i' 1),m' 13 30] [1,3,11,12,13]
def c115x2:AC := .reg [m' 18 3,m' 19 4,aF' 20 1 5,aL' 21 20,aC' 22 103 [.t 21],m' 23 22,gT' 24 23 (.fad 7 (.t 1)),gT' 25 23 (.ld none (.t 24)),gT' 26 23 (.mkf 153 [.t 5]),gT' 27 23 (.call 152 [.t 25,.t 26]),o' 28 (.pick (.t 23) (.t 27) kF'),aX' 29 1 18 19,aS' 1 29 28] [1,3,11,12,13]
def c115x3:AC := .seq (.reg [m' 15 13,aX' 16 5 11 13,aM' 17 5 16,o' 5 (.zero zLC),m' 4 15,aS' 5 5 17] [1,3,4,5,11,12,13]) c115x2
def c115x8:AC := .seq (.reg [aB' 14 .lss (.t 13) (.t 12)] [1,3,11,12,13,14]) (.seq (.cond (.t 14) .skip (.exit 0)) (.seq (.block 1 c115x3) c115x1))
def c115x11:AC := .seq (.reg [aF' 10 6 1,aL' 11 10,aT' 12 11,aV' 13 0] [1,3,11,12,13]) (.block 0 (.loop c115x8))
def c115x13:AC := .seq (.reg [aF' 6 6 1,aL' 7 6,aT' 8 7,o' 9 (.mksl [(.bool false)] 1 (.t 8) (.t 8)),m' 3 9] [1,3]) (.seq c115x11 (.seq (.reg [m' 31 3,m' 2 31] [2]) .ret))
def c115:AC := .seq (.reg [o' 1 (.new 8 (.t 0)),o' 2 (.mv (.k (.slice none 0 0)))] [1]) c115x13
theorem k115:KQ Tryz.prog Tryz.f115 c115 [.t 2] := ⟨by kernel_rfl,by kernel_rfl⟩
theorem e115:enters Tryz.prog 115 = true := by kernel_rfl
def c146x0:AC := .seq (.reg [aF' 4 0 2,aL' 5 4,aL' 6 1,aB' 7 .eql (.t 5) (.t 6),m' 3 7] [3]) .ret
def c146:AC := .seq (.reg [o' 2 (.new 5 (.t 0)),o' 3 (.mv kF')] [1,2]) c146x0
theorem k146:KQ Tryz.prog Tryz.f146 c146 [.t 3] := ⟨by kernel_rfl,by kernel_rfl⟩
theorem e146:enters Tryz.prog 146 = true := by kernel_rfl
def c153x0:AC := .seq (.reg [aF' 4 0 2,aL' 5 4,aF' 6 0 1,aL' 7 6,o' 8 (.bin .add (.t 7) (.k (.string ⟨#[46,105,114,113]⟩))),aB' 9 .eql (.t 5) (.t 8),m' 10 9,gT' 11 10 (.fad 1 (.t 2)),gT' 12 10 (.ld none (.t 11)),gT' 13 10 (.bin .eql (.t 12) (.k (.string ⟨#[99,112,117,46,105,114,113]⟩))),o' 14 (.pick (.t 10) (.t 13) kF'),m' 3 14] [3]) .ret
def c153:AC := .seq (.reg [o' 2 (.new 2 (.t 0)),o' 3 (.mv kF')] [1,2]) c153x0
theorem k153:KQ Tryz.prog Tryz.f153 c153 [.t 3] := ⟨by kernel_rfl,by kernel_rfl⟩
theorem e153:enters Tryz.prog 153 = true := by kernel_rfl
def c7x0:AC := .seq (.reg [aM' 31 17 5,aS' 17 2 31,aV' 3 0] [2,3]) .ret
def c7x1:AC := .reg [aB' 30 .add (.t 19) (i' 1),m' 19 30] [2,5,17,18,19]
def c7x2:AC := .dreg [aF' 23 13 5,aL' 24 23,aM' 25 5 7,aC' 26 22 [.t 25],o' 27 (.bsl [(.slice none 0 0),(.slice none 0 0)] 1 [(0,(.t 26))]),o' 28 (.app 2 48 (.t 24) (.t 27)),aF' 29 13 5,aS' 1 29 28] (bf [[],[0,1],[],[2,3],[2,4],[0,5],[0,6],[0,7]]) [2,5,17,18,19]
def c7x3:AC := .seq (.reg [aX' 21 5 17 19,aM' 22 5 21,o' 7 (.zero zLC),aS' 5 7 22] [2,5,7,17,18,19]) c7x2
def c7x8:AC := .seq (.reg [aB' 20 .lss (.t 19) (.t 18)] [2,5,17,18,19,20]) (.seq (.cond (.t 20) .skip (.exit 0)) (.seq (.block 1 c7x3) c7x1))
def c7x11:AC := .seq (.reg [aF' 16 6 1,aL' 17 16,aT' 18 17,aV' 19 0] [2,5,17,18,19]) (.block 0 (.loop c7x8))
def c7x13:AC := .seq (.reg [aC' 14 21 [],o' 15 (.build zLM [(1,12,(.t 14))]),o' 5 (.zero zLM),aS' 17 5 15] [1,2,5]) (.seq c7x11 c7x0)
def c7x14:AC := .seq (.reg [o' 12 (.build zLM []),m' 13 4,aS' 17 2 12,m' 3 13] [2,3]) .ret
def c7x16:AC := .seq (.reg [m' 10 4,aB' 11 .neq (.t 10) (i' 0)] [1,2,4,11]) (.cond (.t 11) c7x14 .skip)
def c7x17:AC := .seq (.reg [aM' 8 8 1,aC' 9 20 [.t 8],m' 4 9] [1,2,4]) c7x16
def c7:AC := .seq (.reg [o' 1 (.new 8 (.t 0)),o' 2 (.zero zLM),aV' 3 0] [1,2]) (.seq c7x17 c7x13)
theorem k7:KQ Tryz.prog Tryz.f7 c7 [.cell (some 17) 2,.t 3] := ⟨by kernel_rfl,by kernel_rfl⟩
theorem e7:enters Tryz.prog 7 = true := by kernel_rfl
def c8x0:AC := .seq (.reg [aM' 40 17 5,m' 41 12,aS' 17 8 40,m' 9 41,aV' 10 0] [8,9,10]) .ret
def c8x1:AC := .reg [aB' 39 .add (.t 32) (i' 1),m' 32 39] [2,4,5,8,12,31,32]
def c8x2:AC := .reg [m' 34 12,aM' 35 8 4,m' 36 2,aC' 37 25 [.t 35,.t 5,.t 36],o' 38 (.app 3 32 (.t 34) (.t 37)),m' 12 38] [2,4,5,8,12,31,32]
def c8x7:AC := .seq (.reg [aB' 33 .lss (.t 32) (.t 31)] [2,4,5,8,12,31,32,33]) (.seq (.cond (.t 33) .skip (.exit 1)) (.seq (.block 2 c8x2) c8x1))
def c8x10:AC := .seq (.reg [m' 31 3,aV' 32 0] [2,4,5,8,12,31,32]) (.block 1 (.loop c8x7))
def c8x12:AC := .seq (.reg [o' 12 (.mv (.k (.slice none 0 0)))] [2,3,4,5,8,12]) (.seq c8x10 c8x0)
def c8x13:AC := .seq (.reg [aM' 29 17 5,aC' 30 24 [.t 29],aS' 17 5 30] [2,3,4,5,8]) c8x12
def c8x14:AC := .seq (.reg [o' 24 (.build zLM []),aS' 17 8 24,o' 9 (.mv (.k (.slice none 0 0))),aV' 10 1] [8,9,10]) .ret
def c8x15:AC := .seq (.reg [o' 28 (.build zLM []),aS' 17 8 28,o' 9 (.mv (.k (.slice none 0 0))),aV' 10 2] [8,9,10]) .ret
def c8x17:AC := .seq (.reg [m' 26 3,aB' 27 .gtr (.t 26) (i' 100000),m' 25 27] [2,3,4,5,8,25]) (.cond (.t 25) c8x15 .skip)
def c8x19:AC := .seq (.reg [m' 22 3,aB' 23 .lss (.t 22) (i' 0),m' 21 23] [2,3,4,5,8,21]) (.cond (.t 21) c8x14 c8x17)
def c8x22:AC := .seq (.reg [o' 19 (.build zLM []),m' 20 11,aS' 17 8 19,o' 9 (.mv (.k (.slice none 0 0))),m' 10 20] [8,9,10]) .ret
def c8x24:AC := .seq (.reg [m' 17 11,aB' 18 .neq (.t 17) (i' 0)] [2,3,4,5,8,11,18]) (.cond (.t 18) c8x22 .skip)
def c8x25:AC := .seq (.reg [aM' 13 8 4,aM' 14 17 5,m' 15 2,aC' 16 23 [.t 13,.t 14,.t 15],m' 11 16] [2,3,4,5,8,11]) c8x24
def c8:AC := .seq (.reg [o' 4 (.new 8 (.t 0)),o' 5 (.new 17 (.t 1)),o' 8 (.zero zLM),o' 9 (.mv (.k (.slice none 0 0))),aV' 10 0] [2,3,4,5,8]) (.seq c8x25 (.seq (.block 0 c8x19) c8x13))
theorem k8:KQ Tryz.prog Tryz.f8 c8 [.cell (some 17) 8,.t 9,.t 10] := ⟨by kernel_rfl,by kernel_rfl⟩
theorem e8:enters Tryz.prog 8 = true := by kernel_rfl
theorem e10:enters Tryz.prog 10 = true := by kernel_rfl
def c13x0:AC := .seq (.reg [aF' 5 0 2,aL' 6 5,aF' 7 0 3,aL' 8 7,aB' 9 .eql (.t 6) (.t 8),m' 10 9,gT' 11 10 (.fad 1 (.t 2)),gT' 12 10 (.ld (some 12) (.t 11)),gT' 13 10 (.fad 1 (.t 3)),gT' 14 10 (.ld (some 12) (.t 13)),gT' 15 10 (.eqs [.i .i64,.i .i64,.i .i64,.i .i64,.i .i64,.i .i64,.i .i64,.i .i64,.i .i64,.i .i64,.i .i64,.b] false (.t 12) (.t 14)),o' 16 (.pick (.t 10) (.t 15) kF'),m' 17 16,gT' 18 17 (.fad 14 (.t 2)),gT' 19 17 (.ld (some 3) (.t 18)),gT' 20 17 (.fad 14 (.t 3)),gT' 21 17 (.ld (some 3) (.t 20)),gT' 22 17 (.eqs [.i .i64,.i .i64,.i .i64] false (.t 19) (.t 21)),o' 23 (.pick (.t 17) (.t 22) kF'),m' 24 23,gT' 25 24 (.fad 13 (.t 2)),gT' 26 24 (.ld none (.t 25)),gT' 27 24 (.fad 13 (.t 3)),gT' 28 24 (.ld none (.t 27)),gT' 29 24 (.call 30 [.t 26,.t 28,(.f 31)]),o' 30 (.pick (.t 24) (.t 29) kF'),m' 4 30] [4]) .ret
def c13:AC := .seq (.reg [o' 2 (.new 17 (.t 0)),o' 3 (.new 17 (.t 1)),o' 4 (.mv kF')] [2,3]) c13x0
theorem k13:KQ Tryz.prog Tryz.f13 c13 [.t 4] := ⟨by kernel_rfl,by kernel_rfl⟩
theorem e13:enters Tryz.prog 13 = true := by kernel_rfl
def c23x1:AC := .reg [aB' 68 .add (.t 38) (i' 1),m' 38 68] [2,3,36,37,38]
def c23x5:AC := .seq (.reg [aF' 58 1 9,aL' 59 58,o' 60 (.bin .neq (.t 59) (.k (.string ⟨#[99,112,117]⟩))),m' 61 60,gT' 62 61 (.fad 6 (.t 3)),gT' 63 61 (.ld none (.t 62)),gT' 64 61 (.mkf 57 [.t 9]),gT' 65 61 (.call 56 [.t 63,.t 64]),gT' 66 61 (.not (.t 65)),o' 67 (.pick (.t 61) (.t 66) kF'),m' 57 67] [2,3,36,37,38,57]) (.cond (.t 57) (.seq (.reg [aV' 6 4] [6]) .ret) .skip)
def c23x7:AC := .seq (.dreg [m' 44 8,aB' 45 .gtr (.t 44) (i' 0),m' 46 45,gT' 47 46 (.fad 0 (.t 9)),gT' 48 46 (.ld none (.t 47)),aG' 49 46 2,aG' 50 46 8,gT' 51 46 (.bin .sub (.t 50) (i' 1)),gT' 52 46 (.idx 3 none (.t 49) (.t 51)),gT' 53 46 (.fad 0 (.t 52)),gT' 54 46 (.ld none (.t 53)),gT' 55 46 (.bin .lss (.t 48) (.t 54)),o' 56 (.pick (.t 46) (.t 55) kF'),m' 43 56] (bf [[],[0,1],[0,2],[0,3],[0,4],[0,3],[0,3],[0,3,6,7],[0,3,5,8],[0,3,5,9],[0,3,5,10],[0,11],[0,12],[0,13]]) [2,3,9,36,37,38,43]) (.cond (.t 43) (.seq (.reg [aV' 6 9] [6]) .ret) c23x5)
def c23x9:AC := .seq (.reg [m' 40 38,aX' 41 3 36 38,aM' 42 3 41,o' 9 (.zero [(.int .i64 0),(.string ⟨#[]⟩),(.int .i64 0)]),m' 8 40,aS' 3 9 42] [2,3,8,9,36,37,38]) (.block 3 c23x7)
def c23x14:AC := .seq (.reg [aB' 39 .lss (.t 38) (.t 37)] [2,3,36,37,38,39]) (.seq (.cond (.t 39) .skip (.exit 1)) (.seq (.block 2 c23x9) c23x1))
def c23x17:AC := .seq (.reg [m' 36 2,aT' 37 36,aV' 38 0] [2,3,36,37,38]) (.block 1 (.loop c23x14))
def c23x23:AC := .seq (.reg [m' 33 2,aT' 34 33,aB' 35 .gtr (.t 34) (i' 500),m' 32 35] [2,3,32]) (.cond (.t 32) (.seq (.reg [aV' 6 2] [6]) .ret) .skip)
def c23x25:AC := .seq (.reg [aF' 24 0 4,aL' 25 24,aB' 26 .lss (.t 25) (i' 0),m' 27 26,gF' 28 27 (.fad 0 (.t 4)),gF' 29 27 (.ld none (.t 28)),gF' 30 27 (.bin .gtr (.t 29) (i' 1099511627776)),o' 31 (.pick (.t 27) kT' (.t 30)),m' 23 31] [2,3,23]) (.cond (.t 23) (.seq (.reg [aV' 6 1] [6]) .ret) c23x23)
def c23x27:AC := .seq (.reg [aF' 16 13 4,aL' 17 16,aT' 18 17,aF' 19 6 3,aL' 20 19,aT' 21 20,aB' 22 .neq (.t 18) (.t 21),m' 15 22] [2,3,4,15]) (.cond (.t 15) (.seq (.reg [aV' 6 3] [6]) .ret) c23x25)
def c23x32:AC := .seq (.reg [m' 12 7,aB' 13 .neq (.t 12) (i' 0)] [2,3,4,7,13]) (.cond (.t 13) (.seq (.reg [m' 14 7,m' 6 14] [6]) .ret) .skip)
def c23x33:AC := .seq (.reg [aM' 10 8 3,aC' 11 20 [.t 10],m' 7 11] [2,3,4,7]) c23x32
def c23:AC := .seq (.reg [o' 3 (.new 8 (.t 0)),o' 4 (.new 17 (.t 1)),aV' 6 0] [2,3,4]) (.seq c23x33 (.seq (.block 0 c23x27) (.seq c23x17 (.seq (.reg [aV' 6 0] [6]) .ret))))
theorem k23:KQ Tryz.prog Tryz.f23 c23 [.t 6] := ⟨by kernel_rfl,by kernel_rfl⟩
theorem e23:enters Tryz.prog 23 = true := by kernel_rfl
def c24x0:AC := .seq (.reg [aM' 29 17 1,aS' 17 2 29] [2]) .ret
def c24x1:AC := .reg [aB' 28 .add (.t 12) (i' 1),m' 12 28] [1,2,10,11,12]
def c24x2:AC := .dreg [aF' 17 13 1,aL' 18 17,m' 19 3,aF' 20 0 4,aL' 21 20,aC' 22 59 [.t 21],aF' 23 1 4,aL' 24 23,aC' 25 60 [.t 24],o' 26 (.build [(.slice none 0 0),(.slice none 0 0)] [(0,1,(.t 22)),(1,1,(.t 25))]),aX' 27 2 18 19,aS' 2 27 26] (bf [[],[0,1],[],[],[3,4],[3,5],[],[6,7],[3,8],[3,9],[0,10],[0,11]]) [1,2,10,11,12]
def c24x3:AC := .seq (.reg [m' 14 12,aX' 15 2 10 12,aM' 16 2 15,o' 4 (.zero [(.slice none 0 0),(.slice none 0 0)]),m' 3 14,aS' 2 4 16] [1,2,3,4,10,11,12]) c24x2
def c24x8:AC := .seq (.reg [aB' 13 .lss (.t 12) (.t 11)] [1,2,10,11,12,13]) (.seq (.cond (.t 13) .skip (.exit 0)) (.seq (.block 1 c24x3) c24x1))
def c24x11:AC := .seq (.reg [aF' 9 13 1,aL' 10 9,aT' 11 10,aV' 12 0] [1,2,10,11,12]) (.block 0 (.loop c24x8))
def c24x13:AC := .seq (.reg [aF' 5 13 1,aL' 6 5,aC' 7 58 [.t 6],aF' 8 13 1,aS' 1 8 7] [1,2]) (.seq c24x11 c24x0)
def c24:AC := .seq (.reg [o' 1 (.new 17 (.t 0)),o' 2 (.zero zLM)] [1,2]) c24x13
theorem k24:KQ Tryz.prog Tryz.f24 c24 [.cell (some 17) 2] := ⟨by kernel_rfl,by kernel_rfl⟩
theorem e24:enters Tryz.prog 24 = true := by kernel_rfl
def c25x1:AC := .seq (.reg [m' 110 1,m' 111 1,aN' 112 111,aF' 113 0 112,aL' 114 113,o' 115 (.mnx false [.t 114,i' 1099511627775]),o' 116 (.mnx true [(.k (.int .i64 (-1))),(.t 115)]),aB' 117 .add (.t 116) (i' 1),aN' 118 110,aF' 119 0 118,aS' 1 119 117] [8]) (.seq (.reg [m' 120 8,m' 6 120] [6]) .ret)
def c25x2:AC := .reg [aB' 109 .add (.t 63) (i' 1),m' 63 109] [1,7,8,61,62,63]
def c25x3:AC := .dreg [m' 98 8,m' 99 1,aN' 100 99,aF' 101 0 100,aL' 102 101,aF' 103 0 10,aL' 104 103,m' 105 11,o' 106 (.build [(.int .i64 0),(.string ⟨#[]⟩),(.int .i64 0)] [(0,1,(.t 102)),(1,1,(.t 104)),(2,1,(.t 105))]),o' 107 (.bsl [(.int .i64 0),(.string ⟨#[]⟩),(.int .i64 0)] 1 [(0,(.t 106))]),o' 108 (.app 3 32 (.t 98) (.t 107)),m' 8 108] (bf [[],[],[1,2],[1,3],[1,4],[],[5,6],[],[1,8],[1,9],[0,10],[0,11]]) [1,7,8,61,62,63]
def c25x5:AC := .seq (.reg [m' 92 11,m' 93 7,m' 94 9,aX' 95 1 93 94,aL' 96 95,aB' 97 .neq (.t 92) (.t 96)] [1,7,8,10,11,61,62,63,97]) (.cond (.t 97) c25x3 .skip)
def c25x6:AC := .seq (.dreg [aM' 83 5 10,m' 84 1,aN' 85 84,aF' 86 13 85,aL' 87 86,m' 88 9,aX' 89 2 87 88,aM' 90 2 89,aC' 91 68 [.t 83,.t 90],m' 11 91] (bf [[],[],[1,2],[1,3],[1,4],[],[1,6],[1,7],[0,8],[0,9]]) [1,7,8,9,10,11,61,62,63]) c25x5
def c25x7:AC := .seq (.dreg [m' 68 1,aN' 69 68,aF' 70 13 69,aL' 71 70,m' 72 9,aM' 73 5 10,m' 74 1,aN' 75 74,aF' 76 13 75,aL' 77 76,m' 78 9,aX' 79 2 77 78,aM' 80 2 79,aC' 81 67 [.t 73,.t 80],aX' 82 2 71 72,aS' 2 82 81] (bf [[],[0,1],[0,2],[0,3],[],[],[],[6,7],[6,8],[6,9],[],[6,11],[6,12],[5,13],[0,14],[0,15]]) [1,7,8,9,10,61,62,63]) c25x6
def c25x8:AC := .seq (.reg [m' 65 63,aX' 66 5 61 63,aM' 67 5 66,o' 10 (.zero zLC),m' 9 65,aS' 5 10 67] [1,7,8,9,10,61,62,63]) c25x7
def c25x13:AC := .seq (.reg [aB' 64 .lss (.t 63) (.t 62)] [1,7,8,61,62,63,64]) (.seq (.cond (.t 64) .skip (.exit 0)) (.seq (.block 1 c25x8) c25x2))
def c25x16:AC := .seq (.reg [aF' 60 6 3,aL' 61 60,aT' 62 61,aV' 63 0] [1,7,8,61,62,63]) (.block 0 (.loop c25x13))
def c25x18:AC := .seq (.reg [o' 8 (.mv (.k (.slice none 0 0)))] [1,3,7,8]) (.seq c25x16 c25x1)
def c25x19:AC := .seq (.dreg [m' 45 1,aF' 46 1 3,aM' 47 5 46,m' 48 1,aN' 49 48,aF' 50 1 49,aM' 51 12 50,m' 52 1,aN' 53 52,aF' 54 14 53,aF' 55 2 54,aL' 56 55,aC' 57 66 [.t 47,.t 51,.t 56],aN' 58 45,aF' 59 1 58,aS' 12 59 57] (bf [[],[],[1,2],[],[3,4],[3,5],[3,6],[],[7,8],[7,9],[7,10],[7,11],[1,12],[0,13],[0,14],[0,15]]) [1,3,7]) c25x18
def c25x20:AC := .seq (.reg [aM' 42 8 3,m' 43 1,aC' 44 65 [.t 42,.t 43]] [1,3,7]) c25x19
def c25x21:AC := .seq (.dreg [m' 22 1,m' 23 1,aF' 24 1 3,aM' 25 5 24,m' 26 1,aN' 27 26,aF' 28 1 27,aM' 29 12 28,aM' 30 8 3,m' 31 1,aN' 32 31,aM' 33 17 32,aC' 34 64 [.t 30,.t 33],aC' 35 63 [.t 25,.t 29,.t 34],m' 21 35,aE' 36 21 0,aE' 37 21 1,aN' 38 22,aF' 39 1 38,aS' 12 39 36,aN' 40 23,aF' 41 14 40,aS' 3 41 37] (bf [[],[],[],[2,3],[],[4,5],[4,6],[4,7],[],[],[9,10],[9,11],[8,12],[2,13],[2,14],[2,15],[2,15],[0,1,2,16],[0,1,2,16,17,18],[0,1,2,16,17,19],[0,20],[0,21],[0,22]]) [1,3,7]) c25x20
def c25x22:AC := .seq (.reg [aM' 17 8 3,m' 18 1,m' 19 2,aC' 20 62 [.t 17,.t 18,.t 19]] [1,3,7]) c25x21
def c25x23:AC := .seq (.dreg [aM' 12 8 3,m' 13 1,aN' 14 13,aM' 15 17 14,aC' 16 61 [.t 12,.t 15],m' 7 16] (bf [[],[],[1,2],[1,3],[0,4],[0,5]]) [1,2,3,7]) c25x22
def c25:AC := .seq (.reg [o' 3 (.new 8 (.t 0)),o' 6 (.mv (.k (.slice none 0 0)))] [1,2,3]) c25x23
theorem k25:KQ Tryz.prog Tryz.f25 c25 [.t 6] := ⟨by kernel_rfl,by kernel_rfl⟩
theorem e25:enters Tryz.prog 25 = true := by kernel_rfl
def c31x0:AC := .seq (.reg [aF' 5 0 2,aL' 6 5,aF' 7 0 3,aL' 8 7,aC' 9 32 [.t 6,.t 8],m' 10 9,gT' 11 10 (.fad 1 (.t 2)),gT' 12 10 (.ld none (.t 11)),gT' 13 10 (.fad 1 (.t 3)),gT' 14 10 (.ld none (.t 13)),gT' 15 10 (.call 33 [.t 12,.t 14]),o' 16 (.pick (.t 10) (.t 15) kF'),m' 4 16] [4]) .ret
def c31:AC := .seq (.reg [o' 2 (.new 2 (.t 0)),o' 3 (.new 2 (.t 1)),o' 4 (.mv kF')] [2,3]) c31x0
theorem k31:KQ Tryz.prog Tryz.f31 c31 [.t 4] := ⟨by kernel_rfl,by kernel_rfl⟩
theorem e31:enters Tryz.prog 31 = true := by kernel_rfl
def c57x0:AC := .seq (.reg [aF' 4 0 2,aL' 5 4,aF' 6 1 1,aL' 7 6,aB' 8 .eql (.t 5) (.t 7),m' 3 8] [3]) .ret
def c57:AC := .seq (.reg [o' 2 (.new 5 (.t 0)),o' 3 (.mv kF')] [1,2]) c57x0
theorem k57:KQ Tryz.prog Tryz.f57 c57 [.t 3] := ⟨by kernel_rfl,by kernel_rfl⟩
theorem e57:enters Tryz.prog 57 = true := by kernel_rfl
def c61x1:AC := .reg [aB' 26 .add (.t 11) (i' 1),m' 11 26] [3,5,9,10,11]
def c61x2:AC := .dreg [m' 16 5,aM' 17 5 7,aF' 18 13 3,aL' 19 18,m' 20 6,aX' 21 2 19 20,aM' 22 2 21,aC' 23 68 [.t 17,.t 22],o' 24 (.bsl zLI 1 [(0,(.t 23))]),o' 25 (.app 1 8 (.t 16) (.t 24)),m' 5 25] (bf [[],[],[],[2,3],[],[2,5],[2,6],[1,7],[1,8],[0,9],[0,10]]) [3,5,9,10,11]
def c61x3:AC := .seq (.reg [m' 13 11,aX' 14 5 9 11,aM' 15 5 14,o' 7 (.zero zLC),m' 6 13,aS' 5 7 15] [3,5,6,7,9,10,11]) c61x2
def c61x8:AC := .seq (.reg [aB' 12 .lss (.t 11) (.t 10)] [3,5,9,10,11,12]) (.seq (.cond (.t 12) .skip (.exit 0)) (.seq (.block 1 c61x3) c61x1))
def c61x11:AC := .seq (.reg [aF' 8 6 2,aL' 9 8,aT' 10 9,aV' 11 0] [3,5,9,10,11]) (.block 0 (.loop c61x8))
def c61x13:AC := .seq (.reg [o' 5 (.mv (.k (.slice none 0 0)))] [2,3,5]) (.seq c61x11 (.seq (.reg [m' 27 5,m' 4 27] [4]) .ret))
def c61:AC := .seq (.reg [o' 2 (.new 8 (.t 0)),o' 3 (.new 17 (.t 1)),o' 4 (.mv (.k (.slice none 0 0)))] [2,3]) c61x13
theorem k61:KQ Tryz.prog Tryz.f61 c61 [.t 4] := ⟨by kernel_rfl,by kernel_rfl⟩
theorem e61:enters Tryz.prog 61 = true := by kernel_rfl
def c62x0:AC := .reg [aB' 65 .add (.t 12) (i' 1),m' 12 65] [1,3,10,11,12]
def c62x1:AC := .reg [aB' 64 .add (.t 37) (i' 1),m' 37 64] [1,3,7,10,11,12,35,36,37]
def c62x2:AC := .dreg [m' 47 1,aN' 48 47,aF' 49 13 48,aL' 50 49,m' 51 8,aM' 52 5 9,m' 53 1,aN' 54 53,aF' 55 13 54,aL' 56 55,m' 57 8,aX' 58 2 56 57,aM' 59 2 58,aF' 60 2 7,aL' 61 60,aC' 62 110 [.t 52,.t 59,.t 61],aX' 63 2 50 51,aS' 2 63 62] (bf [[],[0,1],[0,2],[0,3],[],[],[],[6,7],[6,8],[6,9],[],[6,11],[6,12],[],[13,14],[5,15],[0,16],[0,17]]) [1,3,7,10,11,12,35,36,37]
def c62x4:AC := .seq (.reg [aF' 42 0 9,aL' 43 42,aF' 44 1 7,aL' 45 44,aB' 46 .eql (.t 43) (.t 45)] [1,3,7,8,9,10,11,12,35,36,37,46]) (.cond (.t 46) c62x2 .skip)
def c62x5:AC := .seq (.reg [m' 39 37,aX' 40 5 35 37,aM' 41 5 40,o' 9 (.zero zLC),m' 8 39,aS' 5 9 41] [1,3,7,8,9,10,11,12,35,36,37]) c62x4
def c62x10:AC := .seq (.reg [aB' 38 .lss (.t 37) (.t 36)] [1,3,7,10,11,12,35,36,37,38]) (.seq (.cond (.t 38) .skip (.exit 2)) (.seq (.block 3 c62x5) c62x1))
def c62x13:AC := .seq (.reg [aF' 34 6 3,aL' 35 34,aT' 36 35,aV' 37 0] [1,3,7,10,11,12,35,36,37]) (.block 2 (.loop c62x10))
def c62x14:AC := .seq (.reg [m' 26 1,m' 27 1,aN' 28 27,aF' 29 1 28,aM' 30 12 29,aC' 31 109 [.t 30],aN' 32 26,aF' 33 1 32,aS' 12 33 31] [1,3,10,11,12]) (.exit 1)
def c62x16:AC := .seq (.reg [aF' 23 1 7,aL' 24 23,o' 25 (.bin .eql (.t 24) (.k (.string ⟨#[99,112,117]⟩)))] [1,3,7,10,11,12,25]) (.cond (.t 25) c62x14 .skip)
def c62x19:AC := .seq (.dreg [aF' 16 0 7,aL' 17 16,m' 18 1,aN' 19 18,aF' 20 0 19,aL' 21 20,aB' 22 .neq (.t 17) (.t 21)] (bf [[],[0,1],[],[2,3],[2,4],[2,5],[0,6]]) [1,3,7,10,11,12,22]) (.cond (.t 22) (.exit 1) .skip)
def c62x21:AC := .seq (.reg [aX' 14 3 10 12,aM' 15 3 14,o' 7 (.zero [(.int .i64 0),(.string ⟨#[]⟩),(.int .i64 0)]),aS' 3 7 15] [1,3,7,10,11,12]) (.seq c62x19 (.seq c62x16 c62x13))
def c62x26:AC := .seq (.reg [aB' 13 .lss (.t 12) (.t 11)] [1,3,10,11,12,13]) (.seq (.cond (.t 13) .skip (.exit 0)) (.seq (.block 1 c62x21) c62x0))
def c62x29:AC := .seq (.reg [m' 10 2,aT' 11 10,aV' 12 0] [1,3,10,11,12]) (.block 0 (.loop c62x26))
def c62:AC := .seq (.reg [o' 3 (.new 8 (.t 0))] [1,2,3]) c62x29
theorem k62:KQ Tryz.prog Tryz.f62 c62 [] := ⟨by kernel_rfl,by kernel_rfl⟩
theorem e62:enters Tryz.prog 62 = true := by kernel_rfl
def c64x1:AC := .reg [aB' 36 .add (.t 10) (i' 1),m' 10 36] [2,3,8,9,10]
def c64x4:AC := .seq (.dreg [m' 15 6,m' 16 15,aG' 17 16 5,gT' 18 16 (.fad 13 (.t 3)),gT' 19 16 (.ld none (.t 18)),gT' 20 16 (.len (.t 19)),gT' 21 16 (.bin .lss (.t 17) (.t 20)),o' 22 (.pick (.t 16) (.t 21) kF'),m' 23 22,gT' 24 23 (.fad 6 (.t 2)),gT' 25 23 (.ld none (.t 24)),aG' 26 23 5,gT' 27 23 (.idx 5 none (.t 25) (.t 26)),gT' 28 23 (.ld (some 5) (.t 27)),gT' 29 23 (.fad 13 (.t 3)),gT' 30 23 (.ld none (.t 29)),aG' 31 23 5,gT' 32 23 (.idx 2 none (.t 30) (.t 31)),gT' 33 23 (.ld (some 2) (.t 32)),gT' 34 23 (.call 116 [.t 28,.t 33]),o' 35 (.pick (.t 23) (.t 34) kF')] (bf [[],[0,1],[0,2],[0,2],[0,2,3,4],[0,2,3,5],[0,6],[0,7],[0,8],[0,9],[0,10],[0,9],[0,12],[0,13],[0,9],[0,9,14,15],[0,9],[0,9,14,17],[0,9,14,18],[0,19],[0,20]]) [2,3,8,9,10,35]) (.cond (.t 35) (.seq (.reg [o' 4 (.mv kT')] [4]) .ret) .skip)
def c64x5:AC := .seq (.reg [m' 12 10,aX' 13 1 8 10,aL' 14 13,m' 5 12,m' 6 14] [2,3,5,6,8,9,10]) c64x4
def c64x10:AC := .seq (.reg [aB' 11 .lss (.t 10) (.t 9)] [2,3,8,9,10,11]) (.seq (.cond (.t 11) .skip (.exit 0)) (.seq (.block 1 c64x5) c64x1))
def c64x13:AC := .seq (.reg [aM' 7 8 2,aC' 8 115 [.t 7],aT' 9 8,aV' 10 0] [2,3,8,9,10]) (.block 0 (.loop c64x10))
def c64:AC := .seq (.reg [o' 2 (.new 8 (.t 0)),o' 3 (.new 17 (.t 1)),o' 4 (.mv kF')] [2,3]) (.seq c64x13 (.seq (.reg [o' 4 (.mv kF')] [4]) .ret))
theorem k64:KQ Tryz.prog Tryz.f64 c64 [.t 4] := ⟨by kernel_rfl,by kernel_rfl⟩
theorem e64:enters Tryz.prog 64 = true := by kernel_rfl
def c65x0:AC := .reg [m' 29 1,aN' 30 29,aF' 31 14 30,aF' 32 2 31,n' (.st 1 (.t 32) (i' 255))] []
def c65x1:AC := .dreg [m' 41 1,aN' 42 41,aF' 43 13 42,aL' 44 43,m' 45 4,m' 46 1,aF' 47 6 2,aL' 48 47,m' 49 4,aX' 50 5 48 49,aM' 51 5 50,m' 52 1,aN' 53 52,aF' 54 13 53,aL' 55 54,m' 56 4,aX' 57 2 55 56,aM' 58 2 57,m' 59 5,aC' 60 29 [.t 51,.t 58,.t 59],m' 40 60,aE' 61 40 0,aE' 62 40 1,aX' 63 2 44 45,aS' 2 63 61,aN' 64 46,aF' 65 14 64,aF' 66 2 65,aS' 1 66 62] (bf [[],[0,1],[0,2],[0,3],[],[],[],[6,7],[],[6,9],[6,10],[],[11,12],[11,13],[11,14],[],[11,16],[11,17],[],[6,19],[6,20],[6,21],[6,21],[0,5,6,22],[0,5,6,22,23,24],[0,25],[0,26],[0,27],[0,28]]) []
def c65x2:AC := .dreg [m' 77 1,aN' 78 77,aF' 79 13 78,aL' 80 79,m' 81 4,aF' 82 6 2,aL' 83 82,m' 84 4,aX' 85 5 83 84,aM' 86 5 85,m' 87 1,aN' 88 87,aF' 89 13 88,aL' 90 89,m' 91 4,aX' 92 2 90 91,aM' 93 2 92,m' 94 5,m' 95 1,aN' 96 95,aF' 97 14 96,aF' 98 2 97,aL' 99 98,aC' 100 28 [.t 86,.t 93,.t 94,.t 99],aX' 101 2 80 81,aS' 2 101 100] (bf [[],[0,1],[0,2],[0,3],[],[],[5,6],[],[5,8],[5,9],[],[10,11],[10,12],[10,13],[],[10,15],[10,16],[],[],[18,19],[18,20],[18,21],[18,22],[5,23],[0,24],[0,25]]) []
def c65x4:AC := .seq (.reg [m' 68 1,aN' 69 68,aF' 70 14 69,aF' 71 0 70,aL' 72 71,aB' 73 .eql (.t 72) (i' 2),m' 74 73,aG' 75 74 6,o' 76 (.pick (.t 74) (.t 75) kF'),m' 67 76] [1,2,4,5,67]) (.cond (.t 67) c65x2 .skip)
def c65x6:AC := .seq (.reg [m' 34 1,aN' 35 34,aF' 36 14 35,aF' 37 0 36,aL' 38 37,aB' 39 .eql (.t 38) (i' 1),m' 33 39] [1,2,4,5,6,33]) (.cond (.t 33) c65x1 c65x4)
def c65x8:AC := .seq (.reg [m' 19 1,aN' 20 19,aF' 21 14 20,aF' 22 0 21,aL' 23 22,aB' 24 .eql (.t 23) (i' 1),m' 25 24,aG' 26 25 6,gT' 27 25 (.not (.t 26)),o' 28 (.pick (.t 25) (.t 27) kF'),m' 18 28] [1,2,4,5,6,18]) (.cond (.t 18) c65x0 c65x6)
def c65x10:AC := .seq (.dreg [aM' 8 8 2,m' 9 1,aN' 10 9,aF' 11 14 10,aF' 12 1 11,aL' 13 12,aC' 14 26 [.t 8,.t 13],m' 7 14,aE' 15 7 0,aE' 16 7 1,aE' 17 7 2,m' 4 15,m' 5 16,m' 6 17] (bf [[],[],[1,2],[1,3],[1,4],[1,5],[0,6],[0,7],[0,8],[0,8],[0,8],[0,9],[0,10,11,12],[0,13]]) [1,2,4,5,6]) (.block 0 c65x8)
def c65:AC := .seq (.reg [o' 2 (.new 8 (.t 0))] [1,2]) c65x10
theorem k65:KQ Tryz.prog Tryz.f65 c65 [] := ⟨by kernel_rfl,by kernel_rfl⟩
theorem e65:enters Tryz.prog 65 = true := by kernel_rfl
def c21x0:AC := .seq (.reg [aM' 5 12 1,aS' 12 0 5] [0]) .ret
def c21x1:AC := .seq (.reg [aF' 3 0 1,o' 4 (.idx 1 (some 9) (.t 3) (i' 4)),n' (.st 1 (.t 4) (i' 4))] [0,1]) c21x0
def c21x2:AC := .seq (.reg [o' 2 (.build [(.int .i64 0),(.int .i64 0),(.int .i64 0),(.int .i64 0),(.int .i64 0),(.int .i64 0),(.int .i64 0),(.int .i64 0),(.int .i64 0),(.int .i64 0),(.int .i64 0),(.bool false)] [(9,1,(i' 258))]),o' 1 (.zero [(.int .i64 0),(.int .i64 0),(.int .i64 0),(.int .i64 0),(.int .i64 0),(.int .i64 0),(.int .i64 0),(.int .i64 0),(.int .i64 0),(.int .i64 0),(.int .i64 0),(.bool false)]),aS' 12 1 2] [0,1]) c21x1
def c21:AC := .seq (.reg [o' 0 (.zero [(.int .i64 0),(.int .i64 0),(.int .i64 0),(.int .i64 0),(.int .i64 0),(.int .i64 0),(.int .i64 0),(.int .i64 0),(.int .i64 0),(.int .i64 0),(.int .i64 0),(.bool false)])] [0]) c21x2
theorem k21:KQ Tryz.prog Tryz.f21 c21 [.cell (some 12) 0] := ⟨by kernel_rfl,by kernel_rfl⟩
theorem e21:enters Tryz.prog 21 = true := by kernel_rfl
def c63x0:AC := .seq (.dreg [aM' 86 12 4,aM' 87 3 12,aS' 12 6 86,aS' 3 7 87] (bf [[],[],[0,1],[0,3]]) [6,7]) .ret
def c63x1:AC := .seq (.reg [aF' 77 1 10,aL' 78 77,aF' 79 0 4,aM' 80 9 79,aC' 81 113 [.t 78,.t 80],m' 76 81,aE' 82 76 0,aE' 83 76 1,aF' 84 1 12,aS' 1 84 82,aF' 85 0 4,aS' 9 85 83] [4,6,7,12]) c63x0
def c63x2:AC := .reg [aF' 69 2 10,aL' 70 69,aF' 71 0 4,o' 72 (.idx 1 (some 9) (.t 71) (.t 70)),aL' 73 72,aC' 74 27 [.t 73,i' 8],aF' 75 2 12,aS' 1 75 74] [4,6,7,10,12]
def c63x4:AC := .seq (.reg [aF' 56 0 10,aL' 57 56,aB' 58 .eql (.t 57) (i' 2),m' 59 58,gT' 60 59 (.fad 2 (.t 10)),gT' 61 59 (.ld none (.t 60)),gT' 62 59 (.bin .geq (.t 61) (i' 0)),o' 63 (.pick (.t 59) (.t 62) kF'),m' 64 63,gT' 65 64 (.fad 2 (.t 10)),gT' 66 64 (.ld none (.t 65)),gT' 67 64 (.bin .lss (.t 66) (i' 9)),o' 68 (.pick (.t 64) (.t 67) kF')] [4,6,7,10,12,68]) (.cond (.t 68) c63x2 .skip)
def c63x6:AC := .seq (.reg [aF' 53 0 10,aL' 54 53,o' 55 (.build [(.int .i64 0),(.int .i64 0),(.int .i64 0)] [(0,1,(.t 54))]),o' 12 (.zero [(.int .i64 0),(.int .i64 0),(.int .i64 0)]),aS' 3 12 55] [4,6,7,10,12]) (.seq c63x4 c63x1)
def c63x7:AC := .seq (.reg [aM' 51 12 4,o' 52 (.build [(.int .i64 0),(.int .i64 0),(.int .i64 0)] []),aS' 12 6 51,aS' 3 7 52] [6,7]) .ret
def c63x9:AC := .seq (.reg [m' 44 11,o' 45 (.not (.t 44)),m' 46 45,gF' 47 46 (.fad 0 (.t 10)),gF' 48 46 (.ld none (.t 47)),gF' 49 46 (.bin .eql (.t 48) (i' 0)),o' 50 (.pick (.t 46) kT' (.t 49))] [4,6,7,10,50]) (.cond (.t 50) c63x7 .skip)
def c63x11:AC := .seq (.reg [aM' 39 5 3,aM' 40 12 4,aC' 41 114 [.t 39,.t 40],m' 38 41,aE' 42 38 0,aE' 43 38 1,o' 10 (.zero [(.int .i64 0),(.int .i64 0),(.int .i64 0),(.slice none 0 0)]),aS' 4 10 42,m' 11 43] [4,6,7,10,11]) (.seq c63x9 c63x6)
def c63x12:AC := .seq (.reg [aM' 35 12 4,m' 36 8,o' 37 (.build [(.int .i64 0),(.int .i64 0),(.int .i64 0)] [(0,1,(i' 1)),(1,1,(.t 36))]),aS' 12 6 35,aS' 3 7 37] [6,7]) .ret
def c63x13:AC := .seq (.reg [aM' 33 9 9,aF' 34 0 4,aS' 9 34 33] [4,6,7,8]) c63x12
def c63x14:AC := .seq (.reg [aF' 28 0 4,aM' 29 9 28,aC' 30 113 [i' 0,.t 29],m' 27 30,aE' 31 27 0,aE' 32 27 1,o' 9 (.zero [(.int .i64 0),(.int .i64 0),(.int .i64 0),(.int .i64 0),(.int .i64 0),(.int .i64 0),(.int .i64 0),(.int .i64 0),(.int .i64 0)]),m' 8 31,aS' 9 9 32] [4,6,7,8,9]) c63x13
def c63x16:AC := .seq (.reg [aF' 24 9 4,aL' 25 24,aB' 26 .eql (.t 25) (.k (.int .i64 (-1)))] [3,4,6,7,26]) (.cond (.t 26) c63x14 .skip)
def c63x18:AC := .reg [aM' 20 5 3,aM' 21 12 4,m' 22 2,aC' 23 112 [.t 20,.t 21,.t 22],aS' 12 4 23] [3,4,6,7]
def c63x20:AC := .seq (.reg [aF' 17 9 4,aL' 18 17,aB' 19 .eql (.t 18) (.k (.int .i64 (-1)))] [2,3,4,6,7,19]) (.cond (.t 19) c63x18 .skip)
def c63x22:AC := .seq (.reg [aF' 13 0 4,aM' 14 9 13,aC' 15 111 [.t 14],aF' 16 0 4,aS' 9 16 15] [2,3,4,6,7]) (.seq c63x20 (.seq c63x16 c63x11))
def c63:AC := .seq (.reg [o' 3 (.new 5 (.t 0)),o' 4 (.new 12 (.t 1)),o' 6 (.zero [(.int .i64 0),(.int .i64 0),(.int .i64 0),(.int .i64 0),(.int .i64 0),(.int .i64 0),(.int .i64 0),(.int .i64 0),(.int .i64 0),(.int .i64 0),(.int .i64 0),(.bool false)]),o' 7 (.zero [(.int .i64 0),(.int .i64 0),(.int .i64 0)])] [2,3,4,6,7]) c63x22
theorem k63:KQ Tryz.prog Tryz.f63 c63 [.cell (some 12) 6,.cell (some 3) 7] := ⟨by kernel_rfl,by kernel_rfl⟩
theorem e63:enters Tryz.prog 63 = true := by kernel_rfl
def c66x0:AC := .seq (.reg [aM' 107 12 4,aS' 12 6 107] [6]) .ret
def c66x1:AC := .reg [aF' 105 9 4,n' (.st 1 (.t 105) (.k (.int .i64 (-1)))),aF' 106 10 4,n' (.st 1 (.t 106) (i' 0))] [4,6]
def c66x3:AC := .seq (.dreg [aF' 97 10 4,aL' 98 97,aM' 99 5 3,aF' 100 9 4,aL' 101 100,aC' 102 120 [.t 99,.t 101],aT' 103 102,aB' 104 .geq (.t 98) (.t 103)] (bf [[],[0,1],[],[],[3,4],[2,5],[2,6],[0,7]]) [4,6,104]) (.cond (.t 104) c66x1 .skip)
def c66x5:AC := .reg [aB' 96 .add (.t 79) (i' 1),m' 79 96] [3,4,6,77,78,79]
def c66x6:AC := .seq (.reg [aM' 95 12 4,aS' 12 6 95] [6]) .ret
def c66x7:AC := .seq (.reg [aF' 93 9 4,n' (.st 1 (.t 93) (.k (.int .i64 (-1)))),aF' 94 10 4,n' (.st 1 (.t 94) (i' 0))] [4,6]) c66x6
def c66x10:AC := .seq (.reg [aM' 90 9 13,aF' 91 0 4,aS' 9 91 90] [3,4,6,14,77,78,79]) (.seq (.reg [m' 92 14] [3,4,6,77,78,79,92]) (.cond (.t 92) c66x7 .skip))
def c66x11:AC := .seq (.reg [aM' 84 4 12,aF' 85 0 4,aM' 86 9 85,aC' 87 119 [.t 84,.t 86],m' 83 87,aE' 88 83 0,aE' 89 83 1,o' 13 (.zero [(.int .i64 0),(.int .i64 0),(.int .i64 0),(.int .i64 0),(.int .i64 0),(.int .i64 0),(.int .i64 0),(.int .i64 0),(.int .i64 0)]),aS' 9 13 88,m' 14 89] [3,4,6,13,14,77,78,79]) c66x10
def c66x12:AC := .seq (.reg [aX' 81 4 77 79,aM' 82 4 81,o' 12 (.zero [(.int .i64 0),(.int .i64 0),(.int .i64 0),(.int .i64 0)]),aS' 4 12 82] [3,4,6,12,77,78,79]) c66x11
def c66x17:AC := .seq (.reg [aB' 80 .lss (.t 79) (.t 78)] [3,4,6,77,78,79,80]) (.seq (.cond (.t 80) .skip (.exit 1)) (.seq (.block 2 c66x12) c66x5))
def c66x20:AC := .seq (.reg [aF' 76 3 9,aL' 77 76,aT' 78 77,aV' 79 0] [3,4,6,77,78,79]) (.block 1 (.loop c66x17))
def c66x22:AC := .seq (.reg [aF' 72 10 4,aL' 73 72,aB' 74 .add (.t 73) (i' 1),aF' 75 10 4,aS' 1 75 74] [3,4,6,9]) (.seq c66x20 (.seq c66x3 c66x0))
def c66x23:AC := .reg [aF' 67 2 9,aL' 68 67,m' 69 2,aF' 70 0 4,o' 71 (.idx 1 (some 9) (.t 70) (.t 68)),aS' 1 71 69] [3,4,6,9]
def c66x25:AC := .seq (.reg [aF' 54 0 9,aL' 55 54,aB' 56 .eql (.t 55) (i' 1),m' 57 56,gT' 58 57 (.fad 2 (.t 9)),gT' 59 57 (.ld none (.t 58)),gT' 60 57 (.bin .geq (.t 59) (i' 0)),o' 61 (.pick (.t 57) (.t 60) kF'),m' 62 61,gT' 63 62 (.fad 2 (.t 9)),gT' 64 62 (.ld none (.t 63)),gT' 65 62 (.bin .lss (.t 64) (i' 9)),o' 66 (.pick (.t 62) (.t 65) kF')] [2,3,4,6,9,66]) (.cond (.t 66) c66x23 .skip)
def c66x27:AC := .seq (.reg [aM' 51 5 3,aM' 52 12 4,aC' 53 118 [.t 51,.t 52],aS' 12 6 53] [6]) .ret
def c66x29:AC := .seq (.reg [m' 49 10,o' 50 (.not (.t 49))] [2,3,4,6,9,50]) (.cond (.t 50) c66x27 .skip)
def c66x31:AC := .seq (.reg [aM' 44 5 3,aM' 45 12 4,aC' 46 114 [.t 44,.t 45],m' 43 46,aE' 47 43 0,aE' 48 43 1,o' 9 (.zero [(.int .i64 0),(.int .i64 0),(.int .i64 0),(.slice none 0 0)]),aS' 4 9 47,m' 10 48] [2,3,4,6,9,10]) (.seq c66x29 (.seq c66x25 c66x22))
def c66x32:AC := .seq (.reg [aM' 42 12 4,aS' 12 6 42] [6]) .ret
def c66x33:AC := .seq (.reg [aF' 41 10 4,n' (.st 1 (.t 41) (i' 0))] [4,6]) c66x32
def c66x34:AC := .reg [aF' 33 9 4,n' (.st 1 (.t 33) (i' 259))] [4,6]
def c66x35:AC := .reg [m' 39 2,aF' 40 9 4,aS' 1 40 39] [4,6]
def c66x37:AC := .seq (.reg [aF' 35 3 7,aL' 36 35,aT' 37 36,aB' 38 .gtr (.t 37) (i' 0),m' 34 38] [2,4,6,34]) (.cond (.t 34) c66x35 .skip)
def c66x39:AC := .seq (.reg [m' 31 8,o' 32 (.not (.t 31)),m' 30 32] [2,4,6,7,30]) (.cond (.t 30) c66x34 c66x37)
def c66x42:AC := .seq (.reg [aM' 25 5 3,m' 26 2,aC' 27 117 [.t 25,.t 26],m' 24 27,aE' 28 24 0,aE' 29 24 1,o' 7 (.zero [(.int .i64 0),(.string ⟨#[]⟩),(.int .i64 0),(.slice none 0 0)]),aS' 4 7 28,m' 8 29] [2,4,6,7,8]) (.seq (.block 0 c66x39) c66x33)
def c66x44:AC := .seq (.reg [aF' 21 9 4,aL' 22 21,aB' 23 .eql (.t 22) (.k (.int .i64 (-1)))] [2,3,4,6,23]) (.cond (.t 23) c66x42 .skip)
def c66x46:AC := .seq (.reg [aF' 17 0 4,aM' 18 9 17,aC' 19 111 [.t 18],aF' 20 0 4,aS' 9 20 19] [2,3,4,6]) (.seq c66x44 c66x31)
def c66x47:AC := .seq (.reg [m' 15 2,aC' 16 27 [.t 15,i' 8],m' 2 16] [2,3,4,6]) c66x46
def c66:AC := .seq (.reg [o' 3 (.new 5 (.t 0)),o' 4 (.new 12 (.t 1)),o' 6 (.zero [(.int .i64 0),(.int .i64 0),(.int .i64 0),(.int .i64 0),(.int .i64 0),(.int .i64 0),(.int .i64 0),(.int .i64 0),(.int .i64 0),(.int .i64 0),(.int .i64 0),(.bool false)])] [2,3,4,6]) c66x47
theorem k66:KQ Tryz.prog Tryz.f66 c66 [.cell (some 12) 6] := ⟨by kernel_rfl,by kernel_rfl⟩
theorem e66:enters Tryz.prog 66 = true := by kernel_rfl
def c109x0:AC := .seq (.reg [aM' 4 12 1,aS' 12 2 4] [2]) .ret
def c109x1:AC := .seq (.reg [aF' 3 11 1,n' (.st 1 (.t 3) kT')] [1,2]) c109x0
def c109:AC := .seq (.reg [o' 1 (.new 12 (.t 0)),o' 2 (.zero [(.int .i64 0),(.int .i64 0),(.int .i64 0),(.int .i64 0),(.int .i64 0),(.int .i64 0),(.int .i64 0),(.int .i64 0),(.int .i64 0),(.int .i64 0),(.int .i64 0),(.bool false)])] [1,2]) c109x1
theorem k109:KQ Tryz.prog Tryz.f109 c109 [.cell (some 12) 2] := ⟨by kernel_rfl,by kernel_rfl⟩
theorem e109:enters Tryz.prog 109 = true := by kernel_rfl
def c112x0:AC := .seq (.reg [aM' 44 12 4,aS' 12 6 44] [6]) .ret
def c112x1:AC := .reg [aB' 43 .add (.t 12) (i' 1),m' 12 43] [2,3,4,6,10,11,12]
def c112x2:AC := .seq (.reg [aM' 42 12 4,aS' 12 6 42] [6]) .ret
def c112x3:AC := .seq (.reg [m' 39 8,aF' 40 9 4,aS' 1 40 39,aF' 41 10 4,n' (.st 1 (.t 41) (i' 0))] [4,6]) c112x2
def c112x4:AC := .reg [aF' 38 11 4,n' (.st 1 (.t 38) kF')] [4,6,8]
def c112x6:AC := .seq (.reg [m' 36 8,aB' 37 .eql (.t 36) (i' 257)] [4,6,8,37]) (.cond (.t 37) c112x4 .skip)
def c112x9:AC := .seq (.reg [m' 28 9,m' 29 28,gT' 30 29 (.ld (some 5) (.t 3)),aG' 31 29 8,gT' 32 29 (.call 120 [.t 30,.t 31]),gT' 33 29 (.len (.t 32)),gT' 34 29 (.bin .gtr (.t 33) (i' 0)),o' 35 (.pick (.t 29) (.t 34) kF')] [2,3,4,6,8,10,11,12,35]) (.cond (.t 35) (.seq c112x6 c112x3) .skip)
def c112x10:AC := .reg [m' 20 2,m' 21 20,gT' 22 21 (.fad 0 (.t 4)),gT' 23 21 (.idx 1 (some 9) (.t 22) (i' 4)),gT' 24 21 (.ld none (.t 23)),gT' 25 21 (.bin .and (.t 24) (i' 4)),gT' 26 21 (.bin .eql (.t 25) (i' 0)),o' 27 (.pick (.t 21) (.t 26) kF'),m' 9 27] [2,3,4,6,8,9,10,11,12]
def c112x12:AC := .seq (.reg [m' 18 8,aB' 19 .eql (.t 18) (i' 256)] [2,3,4,6,8,9,10,11,12,19]) (.cond (.t 19) c112x10 .skip)
def c112x14:AC := .seq (.reg [aF' 16 11 4,aL' 17 16,m' 9 17] [2,3,4,6,8,9,10,11,12]) (.seq c112x12 c112x9)
def c112x15:AC := .seq (.reg [aX' 14 1 10 12,aL' 15 14,m' 8 15] [2,3,4,6,8,10,11,12]) c112x14
def c112x20:AC := .seq (.reg [aB' 13 .lss (.t 12) (.t 11)] [2,3,4,6,10,11,12,13]) (.seq (.cond (.t 13) .skip (.exit 0)) (.seq (.block 1 c112x15) c112x1))
def c112x23:AC := .seq (.reg [o' 10 (.bsl zLI 2 [(0,(i' 257)),(1,(i' 256))]),aT' 11 10,aV' 12 0] [2,3,4,6,10,11,12]) (.block 0 (.loop c112x20))
def c112:AC := .seq (.reg [o' 3 (.new 5 (.t 0)),o' 4 (.new 12 (.t 1)),o' 6 (.zero [(.int .i64 0),(.int .i64 0),(.int .i64 0),(.int .i64 0),(.int .i64 0),(.int .i64 0),(.int .i64 0),(.int .i64 0),(.int .i64 0),(.int .i64 0),(.int .i64 0),(.bool false)])] [2,3,4,6]) (.seq c112x23 c112x0)
theorem k112:KQ Tryz.prog Tryz.f112 c112 [.cell (some 12) 6] := ⟨by kernel_rfl,by kernel_rfl⟩
theorem e112:enters Tryz.prog 112 = true := by kernel_rfl
def c113x0:AC := .seq (.dreg [m' 66 0,aC' 67 151 [.t 66],aM' 68 9 3,m' 4 67,aS' 9 5 68] (bf [[],[0,1],[],[0,2],[0,4]]) [4,5]) .ret
def c113x1:AC := .seq (.dreg [aM' 65 9 3,aV' 4 0,aS' 9 5 65] (bf [[],[],[0,2]]) [4,5]) .ret
def c113x3:AC := .seq (.reg [m' 59 0,aB' 60 .lss (.t 59) (i' 0),m' 61 60,gF' 62 61 (.mv (.t 0)),gF' 63 61 (.bin .geq (.t 62) (i' 12)),o' 64 (.pick (.t 61) kT' (.t 63))] [0,3,5,64]) (.cond (.t 64) c113x1 .skip)
def c113x5:AC := .seq (.dreg [m' 17 6,aM' 18 9 3,m' 4 17,aS' 9 5 18] (bf [[],[],[0,1],[0,3]]) [4,5]) .ret
def c113x6:AC := .seq (.reg [m' 13 6,aB' 14 .add (.t 13) (i' 1),aC' 15 27 [.t 14,i' 16],o' 16 (.idx 1 (some 9) (.t 3) (i' 7)),aS' 1 16 15] [3,5,6]) c113x5
def c113x7:AC := .seq (.reg [o' 11 (.idx 1 (some 9) (.t 3) (i' 7)),aL' 12 11,m' 6 12] [3,5,6]) c113x6
def c113x8:AC := .seq (.dreg [o' 21 (.idx 1 (some 9) (.t 3) (i' 7)),aL' 22 21,aM' 23 9 3,m' 4 22,aS' 9 5 23] (bf [[],[0,1],[],[0,2],[0,4]]) [4,5]) .ret
def c113x9:AC := .seq (.dreg [o' 26 (.idx 1 (some 9) (.t 3) (i' 8)),aL' 27 26,aM' 28 9 3,m' 4 27,aS' 9 5 28] (bf [[],[0,1],[],[0,2],[0,4]]) [4,5]) .ret
def c113x10:AC := .seq (.dreg [o' 31 (.idx 1 (some 9) (.t 3) (i' 8)),aL' 32 31,aB' 33 .add (.t 32) (i' 1),aC' 34 27 [.t 33,i' 16],aM' 35 9 3,m' 4 34,aS' 9 5 35] (bf [[],[0,1],[0,2],[0,3],[],[0,4],[0,6]]) [4,5]) .ret
def c113x11:AC := .seq (.dreg [m' 46 7,aM' 47 9 3,m' 4 46,aS' 9 5 47] (bf [[],[],[0,1],[0,3]]) [4,5]) .ret
def c113x12:AC := .seq (.reg [o' 41 (.idx 1 (some 9) (.t 3) (i' 3)),aL' 42 41,aB' 43 .sub (.t 42) (i' 1),aC' 44 27 [.t 43,i' 8],o' 45 (.idx 1 (some 9) (.t 3) (i' 3)),aS' 1 45 44] [3,5,7]) c113x11
def c113x13:AC := .seq (.reg [o' 38 (.idx 1 (some 9) (.t 3) (i' 3)),aL' 39 38,aB' 40 .add (i' 256) (.t 39),m' 7 40] [3,5,7]) c113x12
def c113x14:AC := .seq (.dreg [o' 55 (.idx 1 (some 9) (.t 3) (i' 3)),aL' 56 55,aB' 57 .add (i' 256) (.t 56),aM' 58 9 3,m' 4 57,aS' 9 5 58] (bf [[],[0,1],[0,2],[],[0,3],[0,5]]) [4,5]) .ret
def c113x15:AC := .seq (.reg [o' 50 (.idx 1 (some 9) (.t 3) (i' 3)),aL' 51 50,aB' 52 .add (.t 51) (i' 1),aC' 53 27 [.t 52,i' 8],o' 54 (.idx 1 (some 9) (.t 3) (i' 3)),aS' 1 54 53] [3,5]) c113x14
def c113x17:AC := .seq (.reg [aB' 49 .eql (.t 8) (i' 5),m' 48 49] [0,3,5,48]) (.cond (.t 48) c113x15 .skip)
def c113x19:AC := .seq (.reg [aB' 37 .eql (.t 8) (i' 4),m' 36 37] [0,3,5,8,36]) (.cond (.t 36) c113x13 c113x17)
def c113x21:AC := .seq (.reg [aB' 30 .eql (.t 8) (i' 3),m' 29 30] [0,3,5,8,29]) (.cond (.t 29) c113x10 c113x19)
def c113x23:AC := .seq (.reg [aB' 25 .eql (.t 8) (i' 2),m' 24 25] [0,3,5,8,24]) (.cond (.t 24) c113x9 c113x21)
def c113x25:AC := .seq (.reg [aB' 20 .eql (.t 8) (i' 1),m' 19 20] [0,3,5,8,19]) (.cond (.t 19) c113x8 c113x23)
def c113x27:AC := .seq (.reg [aB' 10 .eql (.t 8) (i' 0),m' 9 10] [0,3,5,8,9]) (.cond (.t 9) c113x7 c113x25)
def c113:AC := .seq (.reg [o' 3 (.new 9 (.t 1)),aV' 4 0,o' 5 (.zero [(.int .i64 0),(.int .i64 0),(.int .i64 0),(.int .i64 0),(.int .i64 0),(.int .i64 0),(.int .i64 0),(.int .i64 0),(.int .i64 0)])] [0,3,5]) (.seq (.seq (.reg [m' 8 0] [0,3,5,8]) (.block 0 c113x27)) (.seq c113x3 c113x0))
theorem k113:KQ Tryz.prog Tryz.f113 c113 [.t 4,.cell (some 9) 5] := ⟨by kernel_rfl,by kernel_rfl⟩
theorem e113:enters Tryz.prog 113 = true := by kernel_rfl
def c114x0:AC := .seq (.reg [m' 27 6,aF' 28 10 3,aL' 29 28,aX' 30 4 27 29,aM' 31 4 30,aS' 4 4 31,o' 5 (.mv kT')] [4,5]) .ret
def c114x1:AC := .seq (.reg [o' 26 (.build [(.int .i64 0),(.int .i64 0),(.int .i64 0),(.slice none 0 0)] []),aS' 4 4 26,o' 5 (.mv kF')] [4,5]) .ret
def c114x3:AC := .seq (.reg [aF' 11 9 3,aL' 12 11,aB' 13 .eql (.t 12) (.k (.int .i64 (-1))),m' 14 13,gF' 15 14 (.fad 10 (.t 3)),gF' 16 14 (.ld none (.t 15)),gF' 17 14 (.bin .lss (.t 16) (i' 0)),o' 18 (.pick (.t 14) kT' (.t 17)),m' 19 18,gF' 20 19 (.fad 10 (.t 3)),gF' 21 19 (.ld none (.t 20)),gF' 22 19 (.mv (.t 6)),gF' 23 19 (.len (.t 22)),gF' 24 19 (.bin .geq (.t 21) (.t 23)),o' 25 (.pick (.t 19) kT' (.t 24))] [3,4,6,25]) (.cond (.t 25) c114x1 .skip)
def c114x5:AC := .seq (.reg [aM' 7 5 2,aF' 8 9 3,aL' 9 8,aC' 10 120 [.t 7,.t 9],m' 6 10] [3,4,6]) (.seq c114x3 c114x0)
def c114:AC := .seq (.reg [o' 2 (.new 5 (.t 0)),o' 3 (.new 12 (.t 1)),o' 4 (.zero [(.int .i64 0),(.int .i64 0),(.int .i64 0),(.slice none 0 0)]),o' 5 (.mv kF')] [2,3,4]) c114x5
theorem k114:KQ Tryz.prog Tryz.f114 c114 [.cell (some 4) 4,.t 5] := ⟨by kernel_rfl,by kernel_rfl⟩
theorem e114:enters Tryz.prog 114 = true := by kernel_rfl
def c118x0:AC := .seq (.reg [aM' 10 12 3,aS' 12 4 10] [4]) .ret
def c118x1:AC := .reg [aF' 8 9 3,n' (.st 1 (.t 8) (.k (.int .i64 (-1)))),aF' 9 10 3,n' (.st 1 (.t 9) (i' 0))] [3,4]
def c118x3:AC := .seq (.reg [aF' 5 9 3,aL' 6 5,aB' 7 .neq (.t 6) (i' 259)] [3,4,7]) (.cond (.t 7) c118x1 .skip)
def c118:AC := .seq (.reg [o' 2 (.new 5 (.t 0)),o' 3 (.new 12 (.t 1)),o' 4 (.zero [(.int .i64 0),(.int .i64 0),(.int .i64 0),(.int .i64 0),(.int .i64 0),(.int .i64 0),(.int .i64 0),(.int .i64 0),(.int .i64 0),(.int .i64 0),(.int .i64 0),(.bool false)])] [3,4]) (.seq c118x3 c118x0)
theorem k118:KQ Tryz.prog Tryz.f118 c118 [.cell (some 12) 4] := ⟨by kernel_rfl,by kernel_rfl⟩
theorem e118:enters Tryz.prog 118 = true := by kernel_rfl
def c120x1:AC := .reg [aB' 41 .add (.t 23) (i' 1),m' 23 41] [1,21,22,23]
def c120x2:AC := .seq (.reg [aF' 39 3 6,aL' 40 39,m' 4 40] [4]) .ret
def c120x4:AC := .seq (.reg [aF' 27 0 6,aL' 28 27,m' 29 1,aB' 30 .eql (.t 28) (.t 29),m' 31 30,aG' 32 31 1,gT' 33 31 (.bin .geq (.t 32) (i' 0)),o' 34 (.pick (.t 31) (.t 33) kF'),m' 35 34,aG' 36 35 1,gT' 37 35 (.bin .leq (.t 36) (i' 255)),o' 38 (.pick (.t 35) (.t 37) kF')] [1,6,21,22,23,38]) (.cond (.t 38) c120x2 .skip)
def c120x5:AC := .seq (.reg [aX' 25 4 21 23,aM' 26 4 25,o' 6 (.zero [(.int .i64 0),(.string ⟨#[]⟩),(.int .i64 0),(.slice none 0 0)]),aS' 4 6 26] [1,6,21,22,23]) c120x4
def c120x10:AC := .seq (.reg [aB' 24 .lss (.t 23) (.t 22)] [1,21,22,23,24]) (.seq (.cond (.t 24) .skip (.exit 1)) (.seq (.block 2 c120x5) c120x1))
def c120x13:AC := .seq (.reg [aF' 20 1 2,aL' 21 20,aT' 22 21,aV' 23 0] [1,21,22,23]) (.block 1 (.loop c120x10))
def c120x15:AC := .seq (.reg [aF' 10 3 2,aL' 11 10,m' 4 11] [4]) .ret
def c120x16:AC := .seq (.reg [aF' 14 4 2,aL' 15 14,m' 4 15] [4]) .ret
def c120x17:AC := .seq (.reg [aF' 18 2 2,aL' 19 18,m' 4 19] [4]) .ret
def c120x19:AC := .seq (.reg [aB' 17 .eql (.t 7) (i' 258),m' 16 17] [1,2,16]) (.cond (.t 16) c120x17 .skip)
def c120x21:AC := .seq (.reg [aB' 13 .eql (.t 7) (i' 257),m' 12 13] [1,2,7,12]) (.cond (.t 12) c120x16 c120x19)
def c120x23:AC := .seq (.reg [aB' 9 .eql (.t 7) (i' 256),m' 8 9] [1,2,7,8]) (.cond (.t 8) c120x15 c120x21)
def c120:AC := .seq (.reg [o' 2 (.new 5 (.t 0)),o' 4 (.mv (.k (.slice none 0 0)))] [1,2]) (.seq (.seq (.reg [m' 7 1] [1,2,7]) (.block 0 c120x23)) (.seq c120x13 (.seq (.reg [o' 4 (.mv (.k (.slice none 0 0)))] [4]) .ret)))
theorem k120:KQ Tryz.prog Tryz.f120 c120 [.t 4] := ⟨by kernel_rfl,by kernel_rfl⟩
theorem e120:enters Tryz.prog 120 = true := by kernel_rfl
def c151x0:AC := .seq (.reg [o' 3 (.bsl zLI 6 [(0,(i' 65534)),(1,(i' 65535)),(2,(i' 65530)),(3,(i' 65531)),(4,(i' 65532)),(5,(i' 65533))]),m' 4 0,aB' 5 .sub (.t 4) (i' 6),aX' 6 1 3 5,aL' 7 6,m' 2 7] [2]) .ret
def c151:AC := .seq (.reg [aV' 2 0] [0]) c151x0
theorem k151:KQ Tryz.prog Tryz.f151 c151 [.t 2] := ⟨by kernel_rfl,by kernel_rfl⟩
theorem e151:enters Tryz.prog 151 = true := by kernel_rfl
def c111x0:AC := .seq (.reg [aM' 16 9 1,aS' 9 2 16] [2]) .ret
def c111x2:AC := .dreg [m' 7 3,m' 8 3,o' 9 (.idx 1 (some 9) (.t 1) (.t 8)),aL' 10 9,m' 11 3,aC' 12 150 [.t 11],aC' 13 27 [.t 10,.t 12],o' 14 (.idx 1 (some 9) (.t 1) (.t 7)),aS' 1 14 13] (bf [[],[],[1,2],[1,3],[],[4,5],[1,6],[0,7],[0,8]]) [1,2,4]
def c111x8:AC := .seq (.reg [aB' 5 .lss (.t 4) (i' 9)] [1,2,4,5]) (.seq (.cond (.t 5) .skip (.exit 0)) (.seq (.block 1 (.seq (.reg [m' 6 4,m' 3 6] [1,2,3,4]) c111x2)) (.reg [aB' 15 .add (.t 4) (i' 1),m' 4 15] [1,2,4])))
def c111:AC := .seq (.reg [o' 1 (.new 9 (.t 0)),o' 2 (.zero [(.int .i64 0),(.int .i64 0),(.int .i64 0),(.int .i64 0),(.int .i64 0),(.int .i64 0),(.int .i64 0),(.int .i64 0),(.int .i64 0)])] [1,2]) (.seq (.seq (.reg [aV' 4 0] [1,2,4]) (.block 0 (.loop c111x8))) c111x0)
theorem k111:KQ Tryz.prog Tryz.f111 c111 [.cell (some 9) 2] := ⟨by kernel_rfl,by kernel_rfl⟩
theorem e111:enters Tryz.prog 111 = true := by kernel_rfl
def c119x0:AC := .seq (.reg [aM' 163 9 3,aC' 164 111 [.t 163],aS' 9 4 164,o' 5 (.mv kF')] [4,5]) .ret
def c119x1:AC := .reg [m' 21 6,m' 22 7,o' 23 (.idx 1 (some 9) (.t 3) (.t 22)),aL' 24 23,o' 25 (.idx 1 (some 9) (.t 3) (.t 21)),aS' 1 25 24] [3,4]
def c119x2:AC := .reg [m' 28 6,aF' 29 3 2,aL' 30 29,o' 31 (.idx 1 (some 9) (.t 3) (.t 28)),aS' 1 31 30] [3,4]
def c119x3:AC := .dreg [aM' 34 9 3,m' 35 6,o' 36 (.idx 1 (some 9) (.t 3) (.t 35)),aL' 37 36,aC' 38 27 [.t 37,i' 8],aC' 39 160 [.t 34,.t 38],aS' 9 3 39] (bf [[],[],[1,2],[1,3],[1,4],[0,5],[0,6]]) [3,4]
def c119x4:AC := .reg [aF' 47 0 2,aL' 48 47,m' 49 6,m' 50 7,aM' 51 9 3,aC' 52 161 [.t 48,.t 49,.t 50,.t 51],aS' 9 3 52] [3,4]
def c119x5:AC := .reg [m' 74 6,m' 75 8,o' 76 (.idx 1 (some 9) (.t 3) (.t 74)),aS' 1 76 75] [3,4]
def c119x6:AC := .reg [aM' 71 9 3,m' 72 8,aC' 73 160 [.t 71,.t 72],aS' 9 3 73] [3,4,6,8]
def c119x8:AC := .seq (.reg [m' 68 6,aC' 69 162 [.t 68],o' 70 (.not (.t 69))] [3,4,6,8,70]) (.cond (.t 70) c119x6 .skip)
def c119x10:AC := .seq (.dreg [m' 56 6,o' 57 (.idx 1 (some 9) (.t 3) (.t 56)),aL' 58 57,aB' 59 .add (.t 58) (i' 1),aF' 60 0 2,aL' 61 60,aB' 62 .sub (.t 61) (i' 10),aB' 63 .mul (i' 2) (.t 62),aB' 64 .sub (.t 59) (.t 63),m' 65 6,aC' 66 150 [.t 65],aC' 67 27 [.t 64,.t 66],m' 8 67] (bf [[],[0,1],[0,2],[0,3],[],[4,5],[4,6],[4,7],[0,8],[],[9,10],[0,11],[0,12]]) [3,4,6,8]) (.seq c119x8 c119x5)
def c119x11:AC := .reg [aF' 82 0 2,aL' 83 82,m' 84 6,aM' 85 9 3,aC' 86 163 [.t 83,.t 84,.t 85],aS' 9 3 86] [3,4]
def c119x12:AC := .dreg [aM' 90 9 3,aF' 91 3 2,aL' 92 91,aC' 93 27 [.t 92,i' 8],aF' 94 0 2,aL' 95 94,aB' 96 .eql (.t 95) (i' 16),aC' 97 164 [.t 90,.t 93,.t 96],aS' 9 3 97] (bf [[],[],[1,2],[1,3],[],[4,5],[4,6],[0,7],[0,8]]) [3,4]
def c119x13:AC := .dreg [m' 101 6,m' 102 6,o' 103 (.idx 1 (some 9) (.t 3) (.t 102)),aL' 104 103,aF' 105 0 2,aL' 106 105,aB' 107 .sub (.t 106) (i' 18),aB' 108 .mul (i' 8) (.t 107),m' 109 7,o' 110 (.idx 1 (some 9) (.t 3) (.t 109)),aL' 111 110,aC' 112 130 [.t 104,.t 108,i' 8,.t 111],o' 113 (.idx 1 (some 9) (.t 3) (.t 101)),aS' 1 113 112] (bf [[],[],[1,2],[1,3],[],[4,5],[4,6],[4,7],[],[8,9],[8,10],[1,11],[0,12],[0,13]]) [3,4]
def c119x14:AC := .dreg [m' 117 6,m' 118 7,o' 119 (.idx 1 (some 9) (.t 3) (.t 118)),aL' 120 119,aF' 121 0 2,aL' 122 121,aB' 123 .sub (.t 122) (i' 20),aB' 124 .mul (i' 8) (.t 123),aC' 125 138 [.t 120,.t 124,i' 8],o' 126 (.idx 1 (some 9) (.t 3) (.t 117)),aS' 1 126 125] (bf [[],[],[1,2],[1,3],[],[4,5],[4,6],[4,7],[1,8],[0,9],[0,10]]) [3,4]
def c119x15:AC := .dreg [m' 129 6,o' 130 (.idx 1 (some 9) (.t 3) (.t 129)),aL' 131 130,m' 132 7,o' 133 (.idx 1 (some 9) (.t 3) (.t 132)),aL' 134 133,aC' 135 27 [.t 134,i' 8],aB' 136 .add (.t 131) (.t 135),o' 137 (.idx 1 (some 9) (.t 3) (.t 129)),aS' 1 137 136] (bf [[],[0,1],[0,2],[],[3,4],[3,5],[3,6],[0,7],[0,8],[0,9]]) [3,4]
def c119x16:AC := .dreg [m' 140 6,o' 141 (.idx 1 (some 9) (.t 3) (.t 140)),aL' 142 141,m' 143 7,o' 144 (.idx 1 (some 9) (.t 3) (.t 143)),aL' 145 144,aC' 146 165 [.t 145,i' 8],aB' 147 .add (.t 142) (.t 146),o' 148 (.idx 1 (some 9) (.t 3) (.t 140)),aS' 1 148 147] (bf [[],[0,1],[0,2],[],[3,4],[3,5],[3,6],[0,7],[0,8],[0,9]]) [3,4]
def c119x17:AC := .seq (.dreg [aM' 151 9 3,o' 152 (.idx 1 (some 9) (.t 3) (i' 4)),aL' 153 152,aF' 154 3 2,aL' 155 154,aC' 156 27 [.t 155,i' 8],aB' 157 .and (.t 153) (.t 156),aB' 158 .neq (.t 157) (i' 0),aF' 159 2 2,aL' 160 159,aB' 161 .eql (.t 160) (i' 1),o' 162 (.eqb true (.t 158) (.t 161)),aS' 9 4 151,m' 5 162] (bf [[],[],[1,2],[],[3,4],[3,5],[1,6],[1,7],[],[8,9],[8,10],[1,11],[0,1,3,6],[0,13]]) [4,5]) .ret
def c119x19:AC := .seq (.reg [aB' 150 .eql (.t 18) (i' 24),m' 149 150] [2,3,4,149]) (.cond (.t 149) c119x17 .skip)
def c119x21:AC := .seq (.reg [aB' 139 .eql (.t 18) (i' 23),m' 138 139] [2,3,4,6,7,18,138]) (.cond (.t 138) c119x16 c119x19)
def c119x23:AC := .seq (.reg [aB' 128 .eql (.t 18) (i' 22),m' 127 128] [2,3,4,6,7,18,127]) (.cond (.t 127) c119x15 c119x21)
def c119x25:AC := .reg [aB' 116 .eql (.t 18) (i' 21),m' 114 116] [2,3,4,6,7,18,114]
def c119x27:AC := .seq (.reg [aB' 115 .eql (.t 18) (i' 20),m' 114 115] [2,3,4,6,7,18,114]) (.cond (.t 114) .skip c119x25)
def c119x30:AC := .reg [aB' 100 .eql (.t 18) (i' 19),m' 98 100] [2,3,4,6,7,18,98]
def c119x32:AC := .seq (.reg [aB' 99 .eql (.t 18) (i' 18),m' 98 99] [2,3,4,6,7,18,98]) (.cond (.t 98) .skip c119x30)
def c119x35:AC := .reg [aB' 89 .eql (.t 18) (i' 17),m' 87 89] [2,3,4,6,7,18,87]
def c119x37:AC := .seq (.reg [aB' 88 .eql (.t 18) (i' 16),m' 87 88] [2,3,4,6,7,18,87]) (.cond (.t 87) .skip c119x35)
def c119x40:AC := .reg [aB' 81 .eql (.t 18) (i' 15),m' 77 81] [2,3,4,6,7,18,77]
def c119x42:AC := .seq (.reg [aB' 80 .eql (.t 18) (i' 14),m' 77 80] [2,3,4,6,7,18,77]) (.cond (.t 77) .skip c119x40)
def c119x44:AC := .seq (.reg [aB' 79 .eql (.t 18) (i' 13),m' 77 79] [2,3,4,6,7,18,77]) (.cond (.t 77) .skip c119x42)
def c119x46:AC := .seq (.reg [aB' 78 .eql (.t 18) (i' 12),m' 77 78] [2,3,4,6,7,18,77]) (.cond (.t 77) .skip c119x44)
def c119x49:AC := .reg [aB' 55 .eql (.t 18) (i' 11),m' 53 55] [2,3,4,6,7,18,53]
def c119x51:AC := .seq (.reg [aB' 54 .eql (.t 18) (i' 10),m' 53 54] [2,3,4,6,7,18,53]) (.cond (.t 53) .skip c119x49)
def c119x54:AC := .reg [aB' 46 .eql (.t 18) (i' 9),m' 40 46] [2,3,4,6,7,18,40]
def c119x56:AC := .seq (.reg [aB' 45 .eql (.t 18) (i' 8),m' 40 45] [2,3,4,6,7,18,40]) (.cond (.t 40) .skip c119x54)
def c119x58:AC := .seq (.reg [aB' 44 .eql (.t 18) (i' 7),m' 40 44] [2,3,4,6,7,18,40]) (.cond (.t 40) .skip c119x56)
def c119x60:AC := .seq (.reg [aB' 43 .eql (.t 18) (i' 6),m' 40 43] [2,3,4,6,7,18,40]) (.cond (.t 40) .skip c119x58)
def c119x62:AC := .seq (.reg [aB' 42 .eql (.t 18) (i' 5),m' 40 42] [2,3,4,6,7,18,40]) (.cond (.t 40) .skip c119x60)
def c119x64:AC := .seq (.reg [aB' 41 .eql (.t 18) (i' 4),m' 40 41] [2,3,4,6,7,18,40]) (.cond (.t 40) .skip c119x62)
def c119x67:AC := .seq (.reg [aB' 33 .eql (.t 18) (i' 3),m' 32 33] [2,3,4,6,7,18,32]) (.cond (.t 32) c119x3 (.seq c119x64 (.cond (.t 40) c119x4 (.seq c119x51 (.cond (.t 53) c119x10 (.seq c119x46 (.cond (.t 77) c119x11 (.seq c119x37 (.cond (.t 87) c119x12 (.seq c119x32 (.cond (.t 98) c119x13 (.seq c119x27 (.cond (.t 114) c119x14 c119x23)))))))))))))
def c119x69:AC := .seq (.reg [aB' 27 .eql (.t 18) (i' 2),m' 26 27] [2,3,4,6,7,18,26]) (.cond (.t 26) c119x2 c119x67)
def c119x71:AC := .seq (.reg [aB' 20 .eql (.t 18) (i' 1),m' 19 20] [2,3,4,6,7,18,19]) (.cond (.t 19) c119x1 c119x69)
def c119x73:AC := .seq (.reg [aF' 17 0 2,aL' 18 17] [2,3,4,6,7,18]) (.block 0 c119x71)
def c119x75:AC := .seq (.reg [aM' 15 9 3,aC' 16 111 [.t 15],aS' 9 3 16] [2,3,4,6,7]) (.seq c119x73 c119x0)
def c119x76:AC := .seq (.dreg [aF' 9 1 2,aL' 10 9,aC' 11 159 [.t 10],aF' 12 2 2,aL' 13 12,aC' 14 159 [.t 13],m' 6 11,m' 7 14] (bf [[],[0,1],[0,2],[],[3,4],[0,5],[0,6],[0,7]]) [2,3,4,6,7]) c119x75
def c119:AC := .seq (.reg [o' 2 (.new 4 (.t 0)),o' 3 (.new 9 (.t 1)),o' 4 (.zero [(.int .i64 0),(.int .i64 0),(.int .i64 0),(.int .i64 0),(.int .i64 0),(.int .i64 0),(.int .i64 0),(.int .i64 0),(.int .i64 0)]),o' 5 (.mv kF')] [2,3,4]) c119x76
theorem k119:KQ Tryz.prog Tryz.f119 c119 [.cell (some 9) 4,.t 5] := ⟨by kernel_rfl,by kernel_rfl⟩
theorem e119:enters Tryz.prog 119 = true := by kernel_rfl
def c150:AC := .seq (.reg [aV' 2 0] [0]) (.seq (.seq (.reg [m' 3 0,aC' 4 162 [.t 3]] [4]) (.cond (.t 4) (.seq (.reg [aV' 2 16] [2]) .ret) .skip)) (.seq (.reg [aV' 2 8] [2]) .ret))
theorem k150:KQ Tryz.prog Tryz.f150 c150 [.t 2] := ⟨by kernel_rfl,by kernel_rfl⟩
theorem e150:enters Tryz.prog 150 = true := by kernel_rfl
def c159x0:AC := .seq (.reg [m' 3 0,o' 4 (.mnx false [.t 3,i' 8]),o' 5 (.mnx true [i' 0,.t 4]),m' 2 5] [2]) .ret
def c159:AC := .seq (.reg [aV' 2 0] [0]) c159x0
theorem k159:KQ Tryz.prog Tryz.f159 c159 [.t 2] := ⟨by kernel_rfl,by kernel_rfl⟩
theorem e159:enters Tryz.prog 159 = true := by kernel_rfl
def c160x0:AC := .seq (.reg [aM' 5 9 2,m' 6 1,aB' 7 .eql (.t 6) (i' 0),aC' 8 164 [.t 5,i' 2,.t 7],m' 9 1,aB' 10 .geq (.t 9) (i' 128),aC' 11 164 [.t 8,i' 128,.t 10],aS' 9 4 11] [4]) .ret
def c160:AC := .seq (.reg [o' 2 (.new 9 (.t 0)),o' 4 (.zero [(.int .i64 0),(.int .i64 0),(.int .i64 0),(.int .i64 0),(.int .i64 0),(.int .i64 0),(.int .i64 0),(.int .i64 0),(.int .i64 0)])] [1,2,4]) c160x0
theorem k160:KQ Tryz.prog Tryz.f160 c160 [.cell (some 9) 4] := ⟨by kernel_rfl,by kernel_rfl⟩
theorem e160:enters Tryz.prog 160 = true := by kernel_rfl
def c161x0:AC := .seq (.reg [aM' 91 9 7,aS' 9 8 91] [8]) .ret
def c161x1:AC := .seq (.reg [m' 88 1,m' 89 9,o' 90 (.idx 1 (some 9) (.t 7) (.t 88)),aS' 1 90 89] [7,8]) c161x0
def c161x2:AC := .seq (.reg [aM' 85 9 7,m' 86 9,aC' 87 160 [.t 85,.t 86],aS' 9 7 87] [1,7,8,9]) c161x1
def c161x3:AC := .seq (.reg [aM' 39 9 7,m' 40 1,m' 41 11,m' 42 12,aC' 43 182 [.t 39,.t 40,.t 41,.t 42],aS' 9 8 43] [8]) .ret
def c161x4:AC := .seq (.reg [m' 32 9,m' 33 10,aM' 34 9 7,aC' 35 181 [.t 34],aC' 36 180 [.t 32,.t 33,.t 35,i' 8],m' 31 36,aE' 37 31 0,aE' 38 31 1,m' 11 37,m' 12 38] [1,7,8,11,12]) c161x3
def c161x5:AC := .seq (.reg [aM' 55 9 7,m' 56 1,m' 57 13,m' 58 14,aB' 59 .sub (i' 1) (.t 58),aC' 60 182 [.t 55,.t 56,.t 57,.t 59],aS' 9 8 60] [8]) .ret
def c161x6:AC := .seq (.reg [m' 47 9,m' 48 10,aM' 49 9 7,aC' 50 181 [.t 49],aB' 51 .sub (i' 1) (.t 50),aC' 52 183 [.t 47,.t 48,.t 51,i' 8],m' 46 52,aE' 53 46 0,aE' 54 46 1,m' 13 53,m' 14 54] [1,7,8,13,14]) c161x5
def c161x7:AC := .seq (.reg [aM' 69 9 7,m' 70 15,aC' 71 160 [.t 69,.t 70],m' 72 16,aB' 73 .eql (.t 72) (i' 0),aC' 74 164 [.t 71,i' 1,.t 73],aS' 9 8 74] [8]) .ret
def c161x8:AC := .seq (.reg [m' 64 9,m' 65 10,aC' 66 183 [.t 64,.t 65,i' 0,i' 8],m' 63 66,aE' 67 63 0,aE' 68 63 1,m' 15 67,m' 16 68] [7,8,15,16]) c161x7
def c161x9:AC := .reg [m' 77 9,m' 78 10,aB' 79 .and (.t 77) (.t 78),m' 9 79] [1,7,8,9]
def c161x10:AC := .reg [m' 82 9,m' 83 10,aB' 84 .or (.t 82) (.t 83),m' 9 84] [1,7,8,9]
def c161x11:AC := .reg [m' 26 9,m' 27 10,aB' 28 .xor (.t 26) (.t 27),m' 9 28] [1,7,8,9]
def c161x13:AC := .seq (.reg [aB' 81 .eql (.t 25) (i' 8),m' 80 81] [1,7,8,9,10,80]) (.cond (.t 80) c161x10 c161x11)
def c161x15:AC := .seq (.reg [aB' 76 .eql (.t 25) (i' 7),m' 75 76] [1,7,8,9,10,25,75]) (.cond (.t 75) c161x9 c161x13)
def c161x17:AC := .seq (.reg [aB' 62 .eql (.t 25) (i' 6),m' 61 62] [1,7,8,9,10,25,61]) (.cond (.t 61) c161x8 c161x15)
def c161x19:AC := .seq (.reg [aB' 45 .eql (.t 25) (i' 5),m' 44 45] [1,7,8,9,10,25,44]) (.cond (.t 44) c161x6 c161x17)
def c161x21:AC := .seq (.reg [aB' 30 .eql (.t 25) (i' 4),m' 29 30] [1,7,8,9,10,25,29]) (.cond (.t 29) c161x4 c161x19)
def c161x25:AC := .seq (.dreg [m' 17 1,o' 18 (.idx 1 (some 9) (.t 7) (.t 17)),aL' 19 18,aC' 20 27 [.t 19,i' 8],m' 21 2,o' 22 (.idx 1 (some 9) (.t 7) (.t 21)),aL' 23 22,aC' 24 27 [.t 23,i' 8],m' 9 20,m' 10 24] (bf [[],[0,1],[0,2],[0,3],[],[4,5],[4,6],[0,7],[0,8],[0,9]]) [0,1,7,8,9,10]) (.seq (.seq (.reg [m' 25 0] [1,7,8,9,10,25]) (.block 0 c161x21)) c161x2)
def c161:AC := .seq (.reg [o' 7 (.new 9 (.t 3)),o' 8 (.zero [(.int .i64 0),(.int .i64 0),(.int .i64 0),(.int .i64 0),(.int .i64 0),(.int .i64 0),(.int .i64 0),(.int .i64 0),(.int .i64 0)])] [0,1,2,7,8]) c161x25
theorem k161:kS Tryz.prog Tryz.f161 [(0,[0,1,2,7,8]),(1,[0,1,7,8,9,10]),(2,[1,7,8,9,10,25]),(3,[1,7,8,9]),(4,[1,7,8,9,10,25,29]),(5,[1,7,8,11,12]),(6,[8]),(7,[1,7,8,9,10,25,44]),(8,[1,7,8,13,14]),(9,[8]),(10,[1,7,8,9,10,25,61]),(11,[7,8,15,16]),(12,[8]),(13,[1,7,8,9,10,25,75]),(14,[1,7,8,9]),(15,[1,7,8,9,10,80]),(16,[1,7,8,9]),(17,[1,7,8,9]),(18,[7,8]),(19,[8])] = some c161∧qS Tryz.prog Tryz.f161 = some [.cell (some 9) 8] := ⟨by kernel_rfl,by kernel_rfl⟩
theorem e161:enters Tryz.prog 161 = true := by kernel_rfl
def c163x0:AC := .seq (.reg [aM' 47 9 5,m' 48 1,m' 49 10,m' 50 11,aC' 51 182 [.t 47,.t 48,.t 49,.t 50],aS' 9 6 51] [6]) .ret
def c163x1:AC := .seq (.reg [m' 40 1,o' 41 (.idx 1 (some 9) (.t 5) (.t 40)),aL' 42 41,m' 43 7,aC' 44 185 [.t 42,.t 43,i' 8],m' 39 44,aE' 45 39 0,aE' 46 39 1,m' 10 45,m' 11 46] [1,5,6,10,11]) c163x0
def c163x2:AC := .seq (.reg [aM' 34 9 5,m' 35 1,m' 36 8,m' 37 9,aC' 38 182 [.t 34,.t 35,.t 36,.t 37],aS' 9 6 38] [6]) .ret
def c163x3:AC := .seq (.reg [m' 27 1,o' 28 (.idx 1 (some 9) (.t 5) (.t 27)),aL' 29 28,m' 30 7,aC' 31 184 [.t 29,.t 30,i' 8],m' 26 31,aE' 32 26 0,aE' 33 26 1,m' 8 32,m' 9 33] [1,5,6,8,9]) c163x2
def c163x5:AC := .seq (.reg [m' 20 0,aB' 21 .eql (.t 20) (i' 12),m' 22 21,gF' 23 22 (.mv (.t 0)),gF' 24 22 (.bin .eql (.t 23) (i' 14)),o' 25 (.pick (.t 22) kT' (.t 24))] [1,5,6,7,25]) (.cond (.t 25) c163x3 .skip)
def c163x9:AC := .seq (.reg [m' 14 0,aB' 15 .eql (.t 14) (i' 12),m' 16 15,gF' 17 16 (.mv (.t 0)),gF' 18 16 (.bin .eql (.t 17) (i' 13)),o' 19 (.pick (.t 16) kT' (.t 18))] [0,1,5,6,7,19]) (.cond (.t 19) (.reg [aV' 7 0] [0,1,5,6,7]) .skip)
def c163x11:AC := .seq (.reg [aM' 12 9 5,aC' 13 181 [.t 12],m' 7 13] [0,1,5,6,7]) (.seq c163x9 (.seq c163x5 c163x1))
def c163:AC := .seq (.reg [o' 5 (.new 9 (.t 2)),o' 6 (.zero [(.int .i64 0),(.int .i64 0),(.int .i64 0),(.int .i64 0),(.int .i64 0),(.int .i64 0),(.int .i64 0),(.int .i64 0),(.int .i64 0)])] [0,1,5,6]) c163x11
theorem k163:KQ Tryz.prog Tryz.f163 c163 [.cell (some 9) 6] := ⟨by kernel_rfl,by kernel_rfl⟩
theorem e163:enters Tryz.prog 163 = true := by kernel_rfl
def c164x0:AC := .seq (.reg [aM' 18 9 3,aS' 9 6 18] [6]) .ret
def c164x1:AC := .reg [o' 13 (.idx 1 (some 9) (.t 3) (i' 4)),aL' 14 13,m' 15 1,aB' 16 .or (.t 14) (.t 15),o' 17 (.idx 1 (some 9) (.t 3) (i' 4)),aS' 1 17 16] [3,6]
def c164x5:AC := .seq (.reg [o' 7 (.idx 1 (some 9) (.t 3) (i' 4)),aL' 8 7,m' 9 1,aB' 10 .andNot (.t 8) (.t 9),o' 11 (.idx 1 (some 9) (.t 3) (i' 4)),aS' 1 11 10] [1,2,3,6]) (.seq (.seq (.reg [m' 12 2] [1,3,6,12]) (.cond (.t 12) c164x1 .skip)) c164x0)
def c164:AC := .seq (.reg [o' 3 (.new 9 (.t 0)),o' 6 (.zero [(.int .i64 0),(.int .i64 0),(.int .i64 0),(.int .i64 0),(.int .i64 0),(.int .i64 0),(.int .i64 0),(.int .i64 0),(.int .i64 0)])] [1,2,3,6]) c164x5
theorem k164:KQ Tryz.prog Tryz.f164 c164 [.cell (some 9) 6] := ⟨by kernel_rfl,by kernel_rfl⟩
theorem e164:enters Tryz.prog 164 = true := by kernel_rfl
def c181x0:AC := .seq (.reg [o' 3 (.idx 1 (some 9) (.t 1) (i' 4)),aL' 4 3,aB' 5 .and (.t 4) (i' 1),m' 2 5] [2]) .ret
def c181:AC := .seq (.reg [o' 1 (.new 9 (.t 0)),aV' 2 0] [1]) c181x0
theorem k181:KQ Tryz.prog Tryz.f181 c181 [.t 2] := ⟨by kernel_rfl,by kernel_rfl⟩
theorem e181:enters Tryz.prog 181 = true := by kernel_rfl
def c182x0:AC := .seq (.reg [aM' 18 9 4,aS' 9 8 18] [8]) .ret
def c182x1:AC := .seq (.reg [m' 15 1,m' 16 2,o' 17 (.idx 1 (some 9) (.t 4) (.t 15)),aS' 1 17 16] [4,8]) c182x0
def c182x2:AC := .seq (.reg [aM' 9 9 4,m' 10 2,aC' 11 160 [.t 9,.t 10],m' 12 3,aB' 13 .eql (.t 12) (i' 1),aC' 14 164 [.t 11,i' 1,.t 13],aS' 9 4 14] [1,2,4,8]) c182x1
def c182:AC := .seq (.reg [o' 4 (.new 9 (.t 0)),o' 8 (.zero [(.int .i64 0),(.int .i64 0),(.int .i64 0),(.int .i64 0),(.int .i64 0),(.int .i64 0),(.int .i64 0),(.int .i64 0),(.int .i64 0)])] [1,2,3,4,8]) c182x2
theorem k182:KQ Tryz.prog Tryz.f182 c182 [.cell (some 9) 8] := ⟨by kernel_rfl,by kernel_rfl⟩
theorem e182:enters Tryz.prog 182 = true := by kernel_rfl
def c145x0:AC := .seq (.reg [m' 22 0,m' 4 22,o' 5 (.mv (.k (.string ⟨#[]⟩))),o' 6 (.mv kF')] [4,5,6]) .ret
def c145x1:AC := .seq (.dreg [m' 13 0,m' 14 7,o' 15 (.slcs (.t 13) none (some (.t 14))),m' 16 0,m' 17 7,m' 18 1,o' 19 (.lens (.t 18)),aB' 20 .add (.t 17) (.t 19),o' 21 (.slcs (.t 16) (some (.t 20)) none),m' 4 15,m' 5 21,o' 6 (.mv kT')] (bf [[],[],[0,2],[],[],[],[5,6],[4,7],[3,8],[0,3],[0,10],[0,11]]) [4,5,6]) .ret
def c145x3:AC := .seq (.reg [m' 11 7,aB' 12 .geq (.t 11) (i' 0)] [0,1,7,12]) (.cond (.t 12) c145x1 .skip)
def c145x4:AC := .seq (.reg [m' 8 0,m' 9 1,aC' 10 177 [.t 8,.t 9],m' 7 10] [0,1,7]) c145x3
def c145:AC := .seq (.reg [o' 4 (.mv (.k (.string ⟨#[]⟩))),o' 5 (.mv (.k (.string ⟨#[]⟩))),o' 6 (.mv kF')] [0,1]) (.seq c145x4 c145x0)
theorem k145:KQ Tryz.prog Tryz.f145 c145 [.t 4,.t 5,.t 6] := ⟨by kernel_rfl,by kernel_rfl⟩
theorem e145:enters Tryz.prog 145 = true := by kernel_rfl
def c177x2:AC := .seq (.reg [m' 115 12,m' 116 8,aB' 117 .add (.t 115) (.t 116),m' 4 117] [4]) .ret
def c177x4:AC := .seq (.reg [m' 113 12,aB' 114 .geq (.t 113) (i' 0)] [8,12,114]) (.cond (.t 114) c177x2 .skip)
def c177x6:AC := .seq (.reg [m' 108 0,m' 109 8,o' 110 (.slcs (.t 108) (some (.t 109)) none),m' 111 1,o' 112 (.xcall 196 [.t 110,.t 111]),m' 12 112] [8,12]) (.seq c177x4 (.seq (.reg [o' 4 (.mv (.k (.int .i64 (-1))))] [4]) .ret))
def c177x7:AC := .seq (.reg [m' 140 8,m' 141 13,aB' 142 .add (.t 140) (.t 141),m' 4 142] [4]) .ret
def c177x10:AC := .seq (.reg [m' 138 13,aB' 139 .lss (.t 138) (i' 0)] [8,13,139]) (.cond (.t 139) (.seq (.reg [o' 4 (.mv (.k (.int .i64 (-1))))] [4]) .ret) .skip)
def c177x12:AC := .seq (.reg [m' 133 0,m' 134 8,o' 135 (.slcs (.t 133) (some (.t 134)) none),m' 136 1,aC' 137 198 [.t 135,.t 136],m' 13 137] [8,13]) (.seq c177x10 c177x7)
def c177x14:AC := .seq (.reg [m' 118 5,o' 119 (.bad),aB' 120 .gtr (.t 118) (.t 119),m' 121 120,aG' 122 121 10,aG' 123 121 8,gT' 124 121 (.bin .shr (.t 123) (.k (.int .u64 4))),gT' 125 121 (.bin .add (i' 4) (.t 124)),gT' 126 121 (.bin .geq (.t 122) (.t 125)),o' 127 (.pick (.t 121) (.t 126) kF'),m' 128 127,aG' 129 128 8,aG' 130 128 9,gT' 131 128 (.bin .lss (.t 129) (.t 130)),o' 132 (.pick (.t 128) (.t 131) kF')] [0,1,5,6,7,8,9,10,132]) (.cond (.t 132) c177x12 .skip)
def c177x16:AC := .seq (.reg [m' 99 5,o' 100 (.bad),aB' 101 .leq (.t 99) (.t 100),m' 102 101,aG' 103 102 10,aG' 104 102 8,gT' 105 102 (.call 197 [.t 104]),gT' 106 102 (.bin .gtr (.t 103) (.t 105)),o' 107 (.pick (.t 102) (.t 106) kF')] [0,1,5,6,7,8,9,10,107]) (.cond (.t 107) c177x6 c177x14)
def c177x17:AC := .seq (.reg [m' 97 10,aB' 98 .add (.t 97) (i' 1),m' 10 98] [0,1,5,6,7,8,9,10]) c177x16
def c177x18:AC := .seq (.reg [m' 95 8,aB' 96 .add (.t 95) (i' 1),m' 8 96] [0,1,5,6,7,8,9,10]) c177x17
def c177x21:AC := .seq (.reg [m' 78 0,m' 79 8,aB' 80 .add (.t 79) (i' 1),o' 81 (.ixs (.t 78) (.t 80)),m' 82 7,aB' 83 .eql (.t 81) (.t 82),m' 84 83,aG' 85 84 0,aG' 86 84 8,aG' 87 84 8,aG' 88 84 5,gT' 89 84 (.bin .add (.t 87) (.t 88)),gT' 90 84 (.slcs (.t 85) (some (.t 86)) (some (.t 89))),aG' 91 84 1,gT' 92 84 (.bin .eql (.t 90) (.t 91)),o' 93 (.pick (.t 84) (.t 92) kF')] [0,1,5,6,7,8,9,10,93]) (.cond (.t 93) (.seq (.reg [m' 94 8,m' 4 94] [4]) .ret) .skip)
def c177x23:AC := .reg [m' 74 8,m' 75 11,aB' 76 .add (.t 75) (i' 1),aB' 77 .add (.t 74) (.t 76),m' 8 77] [0,1,5,6,7,8,9,10]
def c177x26:AC := .seq (.reg [m' 72 11,aB' 73 .lss (.t 72) (i' 0)] [0,1,5,6,7,8,9,10,11,73]) (.cond (.t 73) (.seq (.reg [o' 4 (.mv (.k (.int .i64 (-1))))] [4]) .ret) .skip)
def c177x28:AC := .seq (.reg [m' 65 0,m' 66 8,aB' 67 .add (.t 66) (i' 1),m' 68 9,o' 69 (.slcs (.t 65) (some (.t 67)) (some (.t 68))),m' 70 6,aC' 71 195 [.t 69,.t 70],m' 11 71] [0,1,5,6,7,8,9,10,11]) (.seq c177x26 c177x23)
def c177x30:AC := .seq (.reg [m' 60 0,m' 61 8,o' 62 (.ixs (.t 60) (.t 61)),m' 63 6,aB' 64 .neq (.t 62) (.t 63)] [0,1,5,6,7,8,9,10,64]) (.cond (.t 64) c177x28 .skip)
def c177x34:AC := .seq (.reg [m' 57 8,m' 58 9,aB' 59 .lss (.t 57) (.t 58)] [0,1,5,6,7,8,9,10,59]) (.cond (.t 59) .skip (.exit 1))
def c177x39:AC := .seq (.reg [aV' 10 0] [0,1,5,6,7,8,9,10]) (.seq (.block 1 (.loop (.seq c177x34 (.block 2 (.seq c177x30 (.seq c177x21 c177x18)))))) (.seq (.reg [o' 4 (.mv (.k (.int .i64 (-1))))] [4]) .ret))
def c177x40:AC := .seq (.reg [m' 52 0,o' 53 (.lens (.t 52)),m' 54 5,aB' 55 .sub (.t 53) (.t 54),aB' 56 .add (.t 55) (i' 1),m' 9 56] [0,1,5,6,7,8,9]) c177x39
def c177x42:AC := .seq (.reg [m' 50 1,o' 51 (.ixs (.t 50) (i' 1)),m' 7 51] [0,1,5,6,7]) (.seq (.reg [aV' 8 0] [0,1,5,6,7,8]) c177x40)
def c177x43:AC := .seq (.reg [m' 48 1,o' 49 (.ixs (.t 48) (i' 0)),m' 6 49] [0,1,5,6]) c177x42
def c177x45:AC := .seq (.reg [m' 27 0,m' 28 1,o' 29 (.ixs (.t 28) (i' 0)),aC' 30 195 [.t 27,.t 29],m' 4 30] [4]) .ret
def c177x47:AC := .seq (.reg [m' 45 0,m' 46 1,o' 47 (.xcall 196 [.t 45,.t 46]),m' 4 47] [4]) .ret
def c177x49:AC := .seq (.reg [m' 37 5,o' 38 (.bad),aB' 39 .leq (.t 37) (.t 38),m' 40 39,aG' 41 40 0,gT' 42 40 (.lens (.t 41)),gT' 43 40 (.bin .leq (.t 42) (i' 64)),o' 44 (.pick (.t 40) (.t 43) kF'),m' 36 44] [0,1,5,36]) (.cond (.t 36) c177x47 .skip)
def c177x51:AC := .seq (.reg [m' 32 5,m' 33 0,o' 34 (.lens (.t 33)),aB' 35 .geq (.t 32) (.t 34),m' 31 35] [0,1,5,31]) (.cond (.t 31) (.seq (.reg [o' 4 (.mv (.k (.int .i64 (-1))))] [4]) .ret) c177x49)
def c177x53:AC := .seq (.reg [m' 25 5,aB' 26 .eql (.t 25) (i' 1),m' 24 26] [0,1,5,24]) (.cond (.t 24) c177x45 c177x51)
def c177x55:AC := .seq (.reg [m' 17 5,aB' 18 .eql (.t 17) (i' 0),m' 19 18,gF' 20 19 (.mv (.t 1)),gF' 21 19 (.mv (.t 0)),gF' 22 19 (.bin .eql (.t 20) (.t 21)),o' 23 (.pick (.t 19) kT' (.t 22)),m' 16 23] [0,1,5,16]) (.cond (.t 16) (.seq (.reg [aV' 4 0] [4]) .ret) c177x53)
def c177x58:AC := .seq (.reg [m' 14 1,o' 15 (.lens (.t 14)),m' 5 15] [0,1,5]) (.seq (.block 0 c177x55) c177x43)
def c177:AC := .seq (.reg [aV' 4 0] [0,1]) c177x58
theorem k177:KQ Tryz.prog Tryz.f177 c177 [.t 4] := ⟨by kernel_rfl,by kernel_rfl⟩
theorem e177:enters Tryz.prog 177 = true := by kernel_rfl
def c195x0:AC := .seq (.reg [m' 5 0,m' 6 1,o' 7 (.xcall 202 [.t 5,.t 6]),m' 4 7] [4]) .ret
def c195:AC := .seq (.reg [aV' 4 0] [0,1]) c195x0
theorem k195:KQ Tryz.prog Tryz.f195 c195 [.t 4] := ⟨by kernel_rfl,by kernel_rfl⟩
theorem e195:enters Tryz.prog 195 = true := by kernel_rfl
def c101x0:AC := .seq (.reg [m' 7 0,m' 8 1,aC' 9 145 [.t 7,.t 8],aE' 10 9 0,aE' 11 9 1,aE' 12 9 2,m' 4 10,m' 5 11,m' 6 12] [4,5,6]) .ret
def c101:AC := .seq (.reg [o' 4 (.mv (.k (.string ⟨#[]⟩))),o' 5 (.mv (.k (.string ⟨#[]⟩))),o' 6 (.mv kF')] [0,1]) c101x0
theorem k101:KQ Tryz.prog Tryz.f101 c101 [.t 4,.t 5,.t 6] := ⟨by kernel_rfl,by kernel_rfl⟩
theorem e101:enters Tryz.prog 101 = true := by kernel_rfl
theorem e3:enters Tryz.prog 3 = true := by kernel_rfl
def c4x0:AC := .seq (.reg [aC' 65 11 [],m' 66 65,aG' 67 66 12,gT' 68 66 (.bin .eql (.t 67) (i' 0)),o' 69 (.pick (.t 66) (.t 68) kF'),m' 70 69,aG' 71 70 15,gT' 72 70 (.bin .eql (.t 71) (i' 0)),o' 73 (.pick (.t 70) (.t 72) kF'),m' 74 73,aG' 75 74 18,gT' 76 74 (.bin .eql (.t 75) (i' 0)),o' 77 (.pick (.t 74) (.t 76) kF'),m' 78 77,aG' 79 78 21,gT' 80 78 (.bin .eql (.t 79) (i' 0)),o' 81 (.pick (.t 78) (.t 80) kF'),m' 82 81,gT' 83 82 (.ld (some 17) (.t 16)),gT' 84 82 (.ld (some 17) (.t 19)),gT' 85 82 (.call 13 [.t 83,.t 84]),o' 86 (.pick (.t 82) (.t 85) kF'),m' 87 86,aG' 88 87 14,aG' 89 87 17,gT' 90 87 (.bsl [(.slice none 0 0)] 2 [(0,(.t 88)),(1,(.t 89))]),gT' 91 87 (.call 15 [.t 90]),aG' 92 87 20,gT' 93 87 (.call 14 [.t 91,.t 92]),o' 94 (.pick (.t 87) (.t 93) kF'),m' 95 94,gT' 96 95 (.fad 0 (.t 19)),gT' 97 95 (.ld none (.t 96)),aG' 98 95 2,aG' 99 95 3,gT' 100 95 (.bin .add (.t 98) (.t 99)),gT' 101 95 (.bin .eql (.t 97) (.t 100)),o' 102 (.pick (.t 95) (.t 101) kF'),m' 8 102] [8]) .ret
def c4x1:AC := .seq (.reg [aM' 55 8 9,aM' 56 17 11,m' 57 10,m' 58 2,m' 59 3,aB' 60 .add (.t 58) (.t 59),aC' 61 8 [.t 55,.t 56,.t 57,.t 60],m' 54 61,aE' 62 54 0,aE' 63 54 1,aE' 64 54 2,o' 19 (.zero zLM),aS' 17 19 62,m' 20 63,m' 21 64] [2,3,12,14,15,16,17,18,19,20,21]) c4x0
def c4x2:AC := .seq (.reg [aM' 46 8 9,aM' 47 17 13,m' 48 10,m' 49 3,aC' 50 8 [.t 46,.t 47,.t 48,.t 49],m' 45 50,aE' 51 45 0,aE' 52 45 1,aE' 53 45 2,o' 16 (.zero zLM),aS' 17 16 51,m' 17 52,m' 18 53] [2,3,9,10,11,12,14,15,16,17,18]) c4x1
def c4x3:AC := .seq (.reg [aM' 37 8 9,aM' 38 17 11,m' 39 10,m' 40 2,aC' 41 8 [.t 37,.t 38,.t 39,.t 40],m' 36 41,aE' 42 36 0,aE' 43 36 1,aE' 44 36 2,o' 13 (.zero zLM),aS' 17 13 42,m' 14 43,m' 15 44] [2,3,9,10,11,12,13,14,15]) c4x2
def c4x4:AC := .seq (.reg [aM' 32 8 9,aC' 33 7 [.t 32],m' 31 33,aE' 34 31 0,aE' 35 31 1,o' 11 (.zero zLM),aS' 17 11 34,m' 12 35] [2,3,9,10,11,12]) c4x3
def c4x5:AC := .seq (.reg [m' 27 2,aC' 28 6 [.t 27,i' 250],m' 29 3,aC' 30 6 [.t 29,i' 250],m' 2 28,m' 3 30] [2,3,9,10]) c4x4
def c4x6:AC := .seq (.reg [aM' 24 8 9,m' 25 1,aC' 26 9 [.t 24,.t 25],m' 10 26] [2,3,9,10]) c4x5
def c4x7:AC := .seq (.reg [m' 22 0,aC' 23 5 [.t 22],o' 9 (.zero zLB),aS' 8 9 23] [1,2,3,9]) c4x6
def c4:AC := .seq (.reg [o' 8 (.mv kF')] [0,1,2,3]) c4x7
theorem k4:KQ Tryz.prog Tryz.f4 c4 [.t 8] := ⟨by kernel_rfl,by kernel_rfl⟩
theorem e4:enters Tryz.prog 4 = true := by kernel_rfl
def c11x0:AC := .seq (.reg [m' 10 3,aB' 11 .eql (.t 10) (i' 0),m' 12 11,gT' 13 12 (.fad 13 (.t 2)),gT' 14 12 (.ld none (.t 13)),gT' 15 12 (.len (.t 14)),gT' 16 12 (.fad 6 (.t 1)),gT' 17 12 (.ld none (.t 16)),gT' 18 12 (.len (.t 17)),gT' 19 12 (.bin .eql (.t 15) (.t 18)),o' 20 (.pick (.t 12) (.t 19) kF'),m' 21 20,gT' 22 21 (.ld (some 17) (.t 2)),gT' 23 21 (.ld (some 17) (.t 2)),gT' 24 21 (.call 13 [.t 22,.t 23]),o' 25 (.pick (.t 21) (.t 24) kF'),m' 0 25] [0]) .ret
def c11x1:AC := .seq (.reg [aM' 6 8 1,aC' 7 7 [.t 6],m' 5 7,aE' 8 5 0,aE' 9 5 1,o' 2 (.zero zLM),aS' 17 2 8,m' 3 9] [1,2,3]) c11x0
def c11x2:AC := .seq (.reg [aC' 4 5 [(.k (.slice none 0 0))],o' 1 (.zero zLB),aS' 8 1 4] [1]) c11x1
def c11:AC := .seq (.reg [o' 0 (.mv kF')] []) c11x2
theorem k11:KQ Tryz.prog Tryz.f11 c11 [.t 0] := ⟨by kernel_rfl,by kernel_rfl⟩
theorem e11:enters Tryz.prog 11 = true := by kernel_rfl
end Go.Proofs.YtonhglhdlgbcnabGreat.Code
