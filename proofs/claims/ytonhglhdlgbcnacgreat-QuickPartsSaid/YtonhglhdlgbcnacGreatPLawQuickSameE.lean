/- Several texts in one (CdStrings, CdKMore), for the proof of LawQuickSame. No condition beyond those in each lemma. -/
import Derived.Test.YtonhglhdlgbcnacGreatProg
import Derived.Test.YtonhglhdlgbcnacGreatPLawQuickSameC
import Derived.KernelRfl
namespace Go.Proofs.YtonhglhdlgbcnacGreat.Code
open Go Go.Proofs.YtonhglhdlgbcnacGreat.Calc
set_option maxRecDepth 100000
def c99x0:AC := .seq (.reg [m' 7 0,m' 8 1,aC' 9 158 [.t 7,.t 8],aE' 10 9 0,aE' 11 9 1,aE' 12 9 2,m' 4 10,m' 5 11,m' 6 12] [4,5,6]) .ret
def c99:AC := .seq (.reg [o' 4 (.mv (.k (.string ⟨#[]⟩))),o' 5 (.mv (.k (.string ⟨#[]⟩))),o' 6 (.mv kF')] [0,1]) c99x0
theorem k99:KQ Tryz.prog Tryz.f99 c99 [.t 4,.t 5,.t 6] := ⟨by kernel_rfl,by kernel_rfl⟩
theorem e99:enters Tryz.prog 99 = true := by kernel_rfl
def c3x0:AC := .seq (.reg [aC' 47 11 [],m' 48 47,aG' 49 48 10,gT' 50 48 (.bin .eql (.t 49) (i' 0)),o' 51 (.pick (.t 48) (.t 50) kF'),m' 52 51,aG' 53 52 13,gT' 54 52 (.bin .eql (.t 53) (i' 0)),o' 55 (.pick (.t 52) (.t 54) kF'),m' 56 55,aG' 57 56 16,gT' 58 56 (.bin .eql (.t 57) (i' 0)),o' 59 (.pick (.t 56) (.t 58) kF'),m' 60 59,gT' 61 60 (.ld (some 17) (.t 11)),gT' 62 60 (.ld (some 17) (.t 14)),gT' 63 60 (.call 12 [.t 61,.t 62]),o' 64 (.pick (.t 60) (.t 63) kF'),m' 65 64,aG' 66 65 12,aG' 67 65 15,gT' 68 65 (.call 13 [.t 66,.t 67]),o' 69 (.pick (.t 65) (.t 68) kF'),m' 70 69,gT' 71 70 (.fad 0 (.t 14)),gT' 72 70 (.ld none (.t 71)),aG' 73 70 2,gT' 74 70 (.bin .eql (.t 72) (.t 73)),o' 75 (.pick (.t 70) (.t 74) kF'),m' 6 75] [6]) .ret
def c3x1:AC := .seq (.reg [aM' 39 8 7,aM' 40 17 9,m' 41 8,m' 42 2,aC' 43 10 [.t 39,.t 40,.t 41,.t 42],m' 38 43,aE' 44 38 0,aE' 45 38 1,aE' 46 38 2,o' 14 (.zero zLM),aS' 17 14 44,m' 15 45,m' 16 46] [2,10,11,12,13,14,15,16]) c3x0
def c3x2:AC := .seq (.reg [aM' 30 8 7,aM' 31 17 9,m' 32 8,m' 33 2,aC' 34 9 [.t 30,.t 31,.t 32,.t 33],m' 29 34,aE' 35 29 0,aE' 36 29 1,aE' 37 29 2,o' 11 (.zero zLM),aS' 17 11 35,m' 12 36,m' 13 37] [2,7,8,9,10,11,12,13]) c3x1
def c3x3:AC := .seq (.reg [aM' 25 8 7,aC' 26 8 [.t 25],m' 24 26,aE' 27 24 0,aE' 28 24 1,o' 9 (.zero zLM),aS' 17 9 27,m' 10 28] [2,7,8,9,10]) c3x2
def c3x4:AC := .seq (.reg [m' 22 2,aC' 23 7 [.t 22,i' 500],m' 2 23] [2,7,8]) c3x3
def c3x5:AC := .seq (.reg [aM' 19 8 7,m' 20 1,aC' 21 6 [.t 19,.t 20],m' 8 21] [2,7,8]) c3x4
def c3x6:AC := .seq (.reg [m' 17 0,aC' 18 5 [.t 17],o' 7 (.zero zLB),aS' 8 7 18] [1,2,7]) c3x5
def c3:AC := .seq (.reg [o' 6 (.mv kF')] [0,1,2]) c3x6
theorem k3:KQ Tryz.prog Tryz.f3 c3 [.t 6] := ⟨by kernel_rfl,by kernel_rfl⟩
theorem e3:enters Tryz.prog 3 = true := by kernel_rfl
theorem e4:enters Tryz.prog 4 = true := by kernel_rfl
def c11x0:AC := .seq (.reg [m' 10 3,aB' 11 .eql (.t 10) (i' 0),m' 12 11,gT' 13 12 (.fad 13 (.t 2)),gT' 14 12 (.ld none (.t 13)),gT' 15 12 (.len (.t 14)),gT' 16 12 (.fad 6 (.t 1)),gT' 17 12 (.ld none (.t 16)),gT' 18 12 (.len (.t 17)),gT' 19 12 (.bin .eql (.t 15) (.t 18)),o' 20 (.pick (.t 12) (.t 19) kF'),m' 21 20,gT' 22 21 (.ld (some 17) (.t 2)),gT' 23 21 (.ld (some 17) (.t 2)),gT' 24 21 (.call 12 [.t 22,.t 23]),o' 25 (.pick (.t 21) (.t 24) kF'),m' 0 25] [0]) .ret
def c11x1:AC := .seq (.reg [aM' 6 8 1,aC' 7 8 [.t 6],m' 5 7,aE' 8 5 0,aE' 9 5 1,o' 2 (.zero zLM),aS' 17 2 8,m' 3 9] [1,2,3]) c11x0
def c11x2:AC := .seq (.reg [aC' 4 5 [(.k (.slice none 0 0))],o' 1 (.zero zLB),aS' 8 1 4] [1]) c11x1
def c11:AC := .seq (.reg [o' 0 (.mv kF')] []) c11x2
theorem k11:KQ Tryz.prog Tryz.f11 c11 [.t 0] := ⟨by kernel_rfl,by kernel_rfl⟩
theorem e11:enters Tryz.prog 11 = true := by kernel_rfl
end Go.Proofs.YtonhglhdlgbcnacGreat.Code
