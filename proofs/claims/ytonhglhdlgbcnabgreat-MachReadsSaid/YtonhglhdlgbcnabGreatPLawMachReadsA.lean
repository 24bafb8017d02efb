/- What the law MachReads needs beside the texts of MachParts (CdMach, FnMachB, FnMachC, CdKMore, PureMem, FnLawReads). No condition beyond those in each lemma. -/
import Derived.Test.YtonhglhdlgbcnabGreatPLawMachPartsA
import Derived.Test.YtonhglhdlgbcnabGreatPLawMachPartsB
import Derived.Test.YtonhglhdlgbcnabGreatPLawMachPartsC
import Derived.Test.YtonhglhdlgbcnabGreatPLawMachPartsD
import Derived.Test.YtonhglhdlgbcnabGreatPLawMachPartsE
import Derived.Test.YtonhglhdlgbcnabGreatPLawMachPartsF
import Derived.Test.YtonhglhdlgbcnabGreatPLawMachPartsG
import Derived.Test.YtonhglhdlgbcnabGreatPLawMachPartsH
import Derived.Test.YtonhglhdlgbcnabGreatPLawMachPartsI
import Derived.Test.YtonhglhdlgbcnabGreatPLawMachPartsJ
import Derived.Test.YtonhglhdlgbcnabGreatPLawMachPartsK
import Derived.Test.YtonhglhdlgbcnabGreatPLawMachPartsL
import Derived.Test.YtonhglhdlgbcnabGreatPLawMachPartsM
import Derived.Test.YtonhglhdlgbcnabGreatPLawMachPartsN
import Derived.Test.YtonhglhdlgbcnabGreatPLawMachPartsO
import Derived.Test.YtonhglhdlgbcnabGreatPLawMachPartsP
import Derived.Test.YtonhglhdlgbcnabGreatPLawMachPartsQ
import Derived.Test.YtonhglhdlgbcnabGreatPLawMachPartsR
import Derived.Test.YtonhglhdlgbcnabGreatProg
import Derived.KernelRfl
namespace Go.Proofs.YtonhglhdlgbcnabGreat.Code
open Go Go.Proofs.YtonhglhdlgbcnabGreat.Calc
set_option maxRecDepth 100000
def c10x0:AC := .seq (.reg [aM' 65 17 5,aS' 17 8 65] [8]) .ret
def c10x1:AC := .dreg [aF' 48 13 5,aL' 49 48,m' 50 9,aF' 51 6 4,aL' 52 51,m' 53 9,aX' 54 5 52 53,aM' 55 5 54,aF' 56 13 5,aL' 57 56,m' 58 9,aX' 59 2 57 58,aM' 60 2 59,m' 61 10,m' 62 3,aC' 63 28 [.t 55,.t 60,.t 61,.t 62],aX' 64 2 49 50,aS' 2 64 63] (bf [[],[0,1],[],[],[3,4],[],[3,6],[3,7],[],[8,9],[],[8,11],[8,12],[],[],[3,15],[0,16],[0,17]]) [5,8]
def c10x3:AC := .seq (.reg [m' 22 11,m' 23 22,aG' 24 23 9,gT' 25 23 (.fad 13 (.t 5)),gT' 26 23 (.ld none (.t 25)),gT' 27 23 (.len (.t 26)),gT' 28 23 (.bin .lss (.t 24) (.t 27)),o' 29 (.pick (.t 23) (.t 28) kF'),m' 30 29,gT' 31 30 (.fad 6 (.t 4)),gT' 32 30 (.ld none (.t 31)),aG' 33 30 9,gT' 34 30 (.idx 5 none (.t 32) (.t 33)),gT' 35 30 (.fad 1 (.t 34)),gT' 36 30 (.ld none (.t 35)),gT' 37 30 (.bin .geq (.t 36) (i' 0)),o' 38 (.pick (.t 30) (.t 37) kF'),m' 39 38,gT' 40 39 (.fad 6 (.t 4)),gT' 41 39 (.ld none (.t 40)),aG' 42 39 9,gT' 43 39 (.idx 5 none (.t 41) (.t 42)),gT' 44 39 (.fad 1 (.t 43)),gT' 45 39 (.ld none (.t 44)),gT' 46 39 (.bin .leq (.t 45) (i' 2)),o' 47 (.pick (.t 39) (.t 46) kF')] [3,4,5,8,9,10,47]) (.cond (.t 47) c10x1 .skip)
def c10x5:AC := .seq (.dreg [aM' 15 8 4,m' 16 2,aC' 17 27 [.t 16,i' 16],aC' 18 26 [.t 15,.t 17],m' 14 18,aE' 19 14 0,aE' 20 14 1,aE' 21 14 2,m' 9 19,m' 10 20,m' 11 21] (bf [[],[],[1,2],[0,3],[0,4],[0,5],[0,5],[0,5],[0,6],[0,7,8,9],[0,10]]) [3,4,5,8,9,10,11]) (.seq c10x3 c10x0)
def c10x6:AC := .seq (.reg [aM' 12 17 5,aC' 13 24 [.t 12],aS' 17 5 13] [2,3,4,5,8]) c10x5
def c10:AC := .seq (.reg [o' 4 (.new 8 (.t 0)),o' 5 (.new 17 (.t 1)),o' 8 (.zero zLM)] [2,3,4,5,8]) c10x6
theorem k10:KQ Tryz.prog Tryz.f10 c10 [.cell (some 17) 8] := ⟨by kernel_rfl,by kernel_rfl⟩
def c12x1:AC := .seq (.dreg [aF' 48 6 3,aL' 49 48,m' 50 7,aX' 51 5 49 50,aM' 52 5 51,aF' 53 13 4,aL' 54 53,m' 55 7,aX' 56 2 54 55,aM' 57 2 56,m' 58 8,aC' 59 29 [.t 52,.t 57,.t 58],m' 47 59,aE' 60 47 0,aE' 61 47 1,o' 10 (.zero [(.slice none 0 0),(.slice none 0 0)]),aS' 2 10 60,m' 11 61] (bf [[],[0,1],[],[0,3],[0,4],[],[5,6],[],[5,8],[5,9],[],[0,11],[0,12],[0,13],[0,13],[],[0,14,15,16],[0,17]]) [11]) (.seq (.reg [m' 62 11,m' 6 62] [6]) .ret)
def c12x4:AC := .seq (.reg [m' 20 9,o' 21 (.not (.t 20)),m' 22 21,gF' 23 22 (.mv (.t 7)),gF' 24 22 (.fad 13 (.t 4)),gF' 25 22 (.ld none (.t 24)),gF' 26 22 (.len (.t 25)),gF' 27 22 (.bin .geq (.t 23) (.t 26)),o' 28 (.pick (.t 22) kT' (.t 27)),m' 29 28,gF' 30 29 (.fad 6 (.t 3)),gF' 31 29 (.ld none (.t 30)),gF' 32 29 (.mv (.t 7)),gF' 33 29 (.idx 5 none (.t 31) (.t 32)),gF' 34 29 (.fad 1 (.t 33)),gF' 35 29 (.ld none (.t 34)),gF' 36 29 (.bin .lss (.t 35) (i' 0)),o' 37 (.pick (.t 29) kT' (.t 36)),m' 38 37,gF' 39 38 (.fad 6 (.t 3)),gF' 40 38 (.ld none (.t 39)),gF' 41 38 (.mv (.t 7)),gF' 42 38 (.idx 5 none (.t 40) (.t 41)),gF' 43 38 (.fad 1 (.t 42)),gF' 44 38 (.ld none (.t 43)),gF' 45 38 (.bin .gtr (.t 44) (i' 2)),o' 46 (.pick (.t 38) kT' (.t 45))] [3,4,7,8,46]) (.cond (.t 46) (.seq (.reg [aV' 6 255] [6]) .ret) .skip)
def c12x6:AC := .seq (.dreg [aM' 13 8 3,m' 14 2,aC' 15 27 [.t 14,i' 16],aC' 16 26 [.t 13,.t 15],m' 12 16,aE' 17 12 0,aE' 18 12 1,aE' 19 12 2,m' 7 17,m' 8 18,m' 9 19] (bf [[],[],[1,2],[0,3],[0,4],[0,5],[0,5],[0,5],[0,6],[0,7,8,9],[0,10]]) [3,4,7,8,9]) (.seq c12x4 c12x1)
def c12:AC := .seq (.reg [o' 3 (.new 8 (.t 0)),o' 4 (.new 17 (.t 1)),aV' 6 0] [2,3,4]) c12x6
theorem k12:KQ Tryz.prog Tryz.f12 c12 [.t 6] := ⟨by kernel_rfl,by kernel_rfl⟩
theorem e12:enters Tryz.prog 12 = true := by kernel_rfl
end Go.Proofs.YtonhglhdlgbcnabGreat.Code
namespace Go.Proofs.YtonhglhdlgbcnabGreat.Calc
open Go Code
set_option linter.unusedSimpArgs false
set_option linter.unusedVariables false
set_option maxRecDepth 20000
set_option maxHeartbeats 4000000
attribute [local irreducible] WOpsT AW AK RK AKW UK UC
theorem peek_ok (B:Brd) (t:Int) (r:Nat→Int) (op a:Int) (b:Bool) (ds:List Dv) (x y z:Int) (ad:Int) (ha:0 ≤ ad∧ad < 65536) (hcs:∀ c ∈ B.chips,0 ≤ c.base∧c.base ≤ 65536∧1 ≤ c.size∧c.size ≤ 65536) (hn:B.chips.length ≤ 1000) (hl:ds.length = B.chips.length) (i:Nat) (hi:i < B.chips.length) (off:Int) (hF:findR B.chips ad = .tup [I i,I off,.c (.bool true)]) (hk:0 ≤ B.chips[i].kind∧B.chips[i].kind ≤ 2) (d':Dv) (v:Int) (hr:FnE Tryz.prog 29 [.agg (chV B.chips[i]),.agg (dvC ds[i]),I off] [] (.tup [.agg (dvC d'),I v]) []):FnE Tryz.prog 12 [.agg (boV B),.agg (maV t r op a b ds x y z),I ad] [] (I v) []:=by
 have hf := find_k B ad hcs hn ha
 rw [hF] at hf
 have hm := mget chV B.chips i hi
 have hm2 := mget dvC ds i (by omega)
 generalize B.chips[i] = c at *
 generalize ds[i] = d at *
 obtain ⟨xn,xk,xb,xs,xd⟩ := c
 obtain ⟨d1,d2⟩ := d
 obtain ⟨e1,e2⟩ := d'
 obtain ⟨bn,⟨nm,ins,r1,r2,r3⟩,cs,ws⟩ := B
 dsimp only at hn hl hi hk
 obtain ⟨k1,k2⟩ := hk
 unfold boV cpC at *
 dsimp only [List.cons_append,List.nil_append,maV,chV,dvC] at *
 refine N.fnC Tryz.func12 k12 fun Q hQ hQN => ?_
 repeat' (first | rw [List.length_map] | rw [Bool.not_true] | refine rI hm ?_ | refine rI hm2 ?_ | (show WC _ _ _ _ _ _ _ _ _; first | refine T.call0 e27 rfl (low_in _ 16 16 rfl (by decide) ha) ?_ | refine T.call0 e26 rfl hf ?_ | refine T.call0 e29 rfl hr ?_) | exact ⟨⟩ | intro (K:KT) hK | intro hcd | (refine go1 ?_ ?_ <;> try clear hK K) | fail)
 all_goals first | exact WS.c rfl rfl | (exfalso; omega) | trace_state
theorem poke_ok (B:Brd) (t:Int) (r:Nat→Int) (op a:Int) (b:Bool) (ds:List Dv) (x y z:Int) (ad v:Int) (ha:0 ≤ ad∧ad < 65536) (hcs:∀ c ∈ B.chips,0 ≤ c.base∧c.base ≤ 65536∧1 ≤ c.size∧c.size ≤ 65536) (hn:B.chips.length ≤ 12) (hl:ds.length = B.chips.length) (hs:∀ d ∈ ds,SmlD d) (i:Nat) (hi:i < B.chips.length) (off:Int) (hF:findR B.chips ad = .tup [I i,I off,.c (.bool true)]) (hk:0 ≤ B.chips[i].kind∧B.chips[i].kind ≤ 2) (d':Dv) (hr:FnE Tryz.prog 28 [.agg (chV B.chips[i]),.agg (dvC ds[i]),I off,I v] [] (.agg (dvC d')) []):FnE Tryz.prog 10 [.agg (boV B),.agg (maV t r op a b ds x y z),I ad,I v] [] (.agg (maV t r op a b (ds.set i d') x y z)) []:=by
 have hf := find_k B ad hcs (by omega) ha
 rw [hF] at hf
 have hcp := mcopies_ok t r op a b ds x y z hs (by omega) (by omega)
 have hm := mget chV B.chips i hi
 have hil:i < ds.length := by omega
 have hm2:(ds.map dvC)[(i:Int).toNat]? = some (dvC ds[i]) := by rw [Int.toNat_natCast,List.getElem?_map,List.getElem?_eq_getElem hil]; rfl
 have hset:(ds.map dvC).set (i:Int).toNat (dvC d') = (ds.set i d').map dvC := by rw [Int.toNat_natCast,List.map_set]
 generalize B.chips[i] = c at *
 generalize ds[i] = d at *
 obtain ⟨xn,xk,xb,xs,xd⟩ := c
 obtain ⟨d1,d2⟩ := d
 have hlen:(ds.set i d').length = ds.length := List.length_set
 generalize ds.set i d' = ds2 at *
 obtain ⟨e1,e2⟩ := d'
 obtain ⟨bn,⟨nm,ins,r1,r2,r3⟩,cs,ws⟩ := B
 dsimp only at hn hl hi hk
 obtain ⟨k1,k2⟩ := hk
 unfold boV cpC at *
 dsimp only [List.cons_append,List.nil_append,maV,maP,chV,dvC] at hm hm2 hf hcp hr ⊢
 have hset:(ds.map dvC).set (i:Int).toNat (spl [.sl 1 (cells d1),.sl 1 (bcells d2)] 0 [.sl 1 (cells e1),.sl 1 (bcells e2)]) = ds2.map dvC := hset
 have e1:spl [I t,I (r 0),I (r 1),I (r 2),I (r 3),I (r 4),I (r 5),I (r 6),I (r 7),I (r 8),I op,I a,.c (.bool b),.sl 2 (ds.map dvC),I x,I y,I z] 0 [I t,I (r 0),I (r 1),I (r 2),I (r 3),I (r 4),I (r 5),I (r 6),I (r 7),I (r 8),I op,I a,.c (.bool b),.psl 3 2 0 ds.length,I x,I y,I z] = [I t,I (r 0),I (r 1),I (r 2),I (r 3),I (r 4),I (r 5),I (r 6),I (r 7),I (r 8),I op,I a,.c (.bool b),.psl 3 2 0 ds.length,I x,I y,I z] := rfl
 have e2:List.take 17 [I t,I (r 0),I (r 1),I (r 2),I (r 3),I (r 4),I (r 5),I (r 6),I (r 7),I (r 8),I op,I a,.c (.bool b),.psl 3 2 0 ds.length,I x,I y,I z] = [I t,I (r 0),I (r 1),I (r 2),I (r 3),I (r 4),I (r 5),I (r 6),I (r 7),I (r 8),I op,I a,.c (.bool b),.psl 3 2 0 ds.length,I x,I y,I z] := rfl
 have e3:spl [I 0,I 0,I 0,I 0,I 0,I 0,I 0,I 0,I 0,I 0,I 0,I 0,.c (.bool false),.c (.slice none 0 0),I 0,I 0,I 0] 0 [I t,I (r 0),I (r 1),I (r 2),I (r 3),I (r 4),I (r 5),I (r 6),I (r 7),I (r 8),I op,I a,.c (.bool b),.psl 3 2 0 ds.length,I x,I y,I z] = [I t,I (r 0),I (r 1),I (r 2),I (r 3),I (r 4),I (r 5),I (r 6),I (r 7),I (r 8),I op,I a,.c (.bool b),.psl 3 2 0 ds.length,I x,I y,I z] := rfl
 refine N.fnC Tryz.func10 k10 fun Q hQ hQN => ?_
 repeat' (first | rw [e1] | rw [e2] | rw [e3] | rw [rows_ren] | rw [List.length_map] | refine rI hm ?_ | refine rL hm2 ?_ | refine rS hm2 ?_ | (show WC _ _ _ _ _ _ _ _ _; first | refine T.callN e24 rfl (hcp) (by simp) ?_ | refine T.call0 e27 rfl (low_in _ 16 16 rfl (by decide) ha) ?_ | refine T.call0 e26 rfl hf ?_ | refine T.call0 e28 rfl hr ?_) | exact ⟨⟩ | intro (K:KT) hK | intro hcd | (refine go1 ?_ ?_ <;> try clear hK K) | fail)
 exact WS.gc [] 1 rfl rfl (by
  show Sub (.agg [I t,I (r 0),I (r 1),I (r 2),I (r 3),I (r 4),I (r 5),I (r 6),I (r 7),I (r 8),I op,I a,.c (.bool b),out _ [] 1 (.psl 3 2 0 ds.length),I x,I y,I z]) _
  rw [out_rowsK (f := dvC) (l := ds2) rfl (by rw [← hset]; rfl) (by omega)]
  exact .rfl)
end Go.Proofs.YtonhglhdlgbcnabGreat.Calc
namespace Go.Proofs.YtonhglhdlgbcnabGreat.Code
open Go Go.Proofs.YtonhglhdlgbcnabGreat.Calc
set_option maxRecDepth 100000
def c3x0:AC := .seq (.dreg [aF' 75 14 12,aF' 76 0 75,aL' 77 76,aB' 78 .neq (.t 77) (i' 1),m' 79 78,gF' 80 79 (.fad 14 (.t 12)),gF' 81 79 (.fad 1 (.t 80)),gF' 82 79 (.ld none (.t 81)),gF' 83 79 (.bin .lss (.t 82) (i' 65280)),o' 84 (.pick (.t 79) kT' (.t 83)),m' 85 84,gF' 86 85 (.fad 14 (.t 12)),gF' 87 85 (.fad 2 (.t 86)),gF' 88 85 (.ld none (.t 87)),gF' 89 85 (.ld (some 8) (.t 9)),gF' 90 85 (.ld (some 17) (.t 12)),gF' 91 85 (.fad 14 (.t 12)),gF' 92 85 (.fad 1 (.t 91)),gF' 93 85 (.ld none (.t 92)),gF' 94 85 (.call 12 [.t 89,.t 90,.t 93]),gF' 95 85 (.bin .eql (.t 88) (.t 94)),o' 96 (.pick (.t 85) kT' (.t 95)),m' 8 96] (bf [[],[0,1],[0,2],[0,3],[0,4],[0,5],[0,6],[0,7],[0,8],[0,9],[0,10],[0,11],[0,12],[0,13],[0,11],[0,11],[0,11],[0,11,16,17],[0,11,16,18],[0,11,14,19],[0,20],[0,21],[0,22]]) [8]) .ret
def c3x3:AC := .seq (.dreg [aC' 43 11 [],o' 44 (.not (.t 43)),m' 45 44,gF' 46 45 (.mv (.t 11)),gF' 47 45 (.bin .neq (.t 46) (i' 0)),o' 48 (.pick (.t 45) kT' (.t 47)),m' 49 48,gF' 50 49 (.mv (.t 14)),gF' 51 49 (.bin .neq (.t 50) (i' 0)),o' 52 (.pick (.t 49) kT' (.t 51)),m' 53 52,gF' 54 53 (.ld (some 8) (.t 9)),gF' 55 53 (.ld (some 17) (.t 12)),gF' 56 53 (.mv (.t 3)),gF' 57 53 (.call 12 [.t 54,.t 55,.t 56]),gF' 58 53 (.ld (some 8) (.t 9)),gF' 59 53 (.ld (some 17) (.t 10)),gF' 60 53 (.mv (.t 3)),gF' 61 53 (.call 12 [.t 58,.t 59,.t 60]),gF' 62 53 (.bin .neq (.t 57) (.t 61)),o' 63 (.pick (.t 53) kT' (.t 62)),m' 64 63,gF' 65 64 (.ld (some 8) (.t 9)),gF' 66 64 (.ld (some 17) (.t 15)),gF' 67 64 (.mv (.t 3)),gF' 68 64 (.call 12 [.t 65,.t 66,.t 67]),gF' 69 64 (.ld (some 8) (.t 9)),gF' 70 64 (.ld (some 17) (.t 12)),gF' 71 64 (.mv (.t 3)),gF' 72 64 (.call 12 [.t 69,.t 70,.t 71]),gF' 73 64 (.bin .neq (.t 68) (.t 72)),o' 74 (.pick (.t 64) kT' (.t 73))] (bf [[],[0,1],[0,2],[0,3],[0,4],[0,5],[0,6],[0,7],[0,8],[0,9],[0,10],[0,11],[0,11],[0,11],[0,14],[0,11],[0,11],[0,11],[0,18],[0,19],[0,20],[0,21],[0,22],[0,22],[0,22],[0,25],[0,22],[0,22],[0,22],[0,29],[0,30],[0,31]]) [9,12,74]) (.cond (.t 74) (.seq (.reg [o' 8 (.mv kF')] [8]) .ret) .skip)
def c3x5:AC := .seq (.reg [aM' 39 8 9,aM' 40 17 12,m' 41 3,aC' 42 10 [.t 39,.t 40,.t 41,i' 1],o' 15 (.zero zLM),aS' 17 15 42] [3,9,10,11,12,14,15]) (.seq c3x3 c3x0)
def c3x6:AC := .seq (.reg [m' 36 3,aC' 37 6 [.t 36,i' 256],aB' 38 .add (i' 65280) (.t 37),m' 3 38] [3,9,10,11,12,14]) c3x5
def c3x7:AC := .seq (.dreg [aM' 26 8 9,aM' 27 17 10,aM' 28 8 9,m' 29 1,aC' 30 9 [.t 28,.t 29],m' 31 2,aC' 32 8 [.t 26,.t 27,.t 30,.t 31],m' 25 32,aE' 33 25 0,aE' 34 25 1,aE' 35 25 2,o' 12 (.zero zLM),aS' 17 12 33,m' 13 34,m' 14 35] (bf [[],[],[],[],[2,4],[],[0,6],[0,7],[0,8],[0,8],[0,8],[],[0,9,11,12],[0,10,11,13],[0,14]]) [3,9,10,11,12,14]) c3x6
def c3x8:AC := .seq (.reg [aM' 21 8 9,aC' 22 7 [.t 21],m' 20 22,aE' 23 20 0,aE' 24 20 1,o' 10 (.zero zLM),aS' 17 10 23,m' 11 24] [1,2,3,9,10,11]) c3x7
def c3x9:AC := .seq (.reg [m' 18 2,aC' 19 6 [.t 18,i' 300],m' 2 19] [1,2,3,9]) c3x8
def c3x10:AC := .seq (.reg [m' 16 0,aC' 17 5 [.t 16],o' 9 (.zero zLB),aS' 8 9 17] [1,2,3,9]) c3x9
def c3:AC := .seq (.reg [o' 8 (.mv kF')] [0,1,2,3]) c3x10
theorem k3:KQ Tryz.prog Tryz.f3 c3 [.t 8] := ⟨by kernel_rfl,by kernel_rfl⟩
end Go.Proofs.YtonhglhdlgbcnabGreat.Code
namespace Go.Proofs.YtonhglhdlgbcnabGreat.Calc
open Go Code
set_option linter.unusedSimpArgs false
set_option linter.unusedVariables false
def MemK (c:Chp):Prop := c.kind = 0∨c.kind = 1∨c.kind = 2
theorem skipV_mem {c:Chp} (h:MemK c) (t:Nat) (d:Dv):skipV c t d = d:=by
 unfold skipV
 rw [if_neg (by rcases h with h | h | h <;> rw [h] <;> decide),if_neg (by rcases h with h | h | h <;> rw [h] <;> decide),if_neg (by rcases h with h | h | h <;> rw [h] <;> decide),if_neg (by rcases h with h | h | h <;> rw [h] <;> decide),if_neg (by rcases h with h | h | h <;> rw [h] <;> decide)]
theorem inF_mem {c:Chp} (h:MemK c) (v:Int) (d:Dv):inF c d v = d:=by
 unfold inF
 rw [if_neg (by rcases h with h | h | h <;> rw [h] <;> decide),if_neg (by rcases h with h | h | h <;> rw [h] <;> decide),if_neg (by rcases h with h | h | h <;> rw [h] <;> decide)]
 exact skipV_mem h 0 d
theorem zw_same {f:Chp→Dv→Dv} {cs:List Chp} {ds:List Dv} (hl:ds.length = cs.length) {i:Nat} {c:Chp} (hc:cs[i]? = some c) (h:∀ d,f c d = d):(List.zipWith f cs ds)[i]? = ds[i]?:=by
 rw [List.getElem?_zipWith,hc]
 cases ds[i]? with
 | none => rfl
 | some d => simp only [h d]
theorem giv_len (cs:List Chp) (t:Int):∀ (ins:List Ev) (s:Bool×List Dv),s.2.length = cs.length→(givM cs t ins s).2.length = cs.length:=by
 intro ins
 induction ins with
 | nil => intro s h; exact h
 | cons x l ih =>
  intro s h
  refine ih _ ?_
  unfold giv1 giveD
  split
  ·split
   ·exact h
   ·rw [List.length_zipWith]; omega
  ·exact h
theorem giv_mem (cs:List Chp) (t:Int) {i:Nat} {c:Chp} (hc:cs[i]? = some c) (hm:MemK c):∀ (ins:List Ev) (s:Bool×List Dv),s.2.length = cs.length→(givM cs t ins s).2[i]? = s.2[i]?:=by
 intro ins
 induction ins with
 | nil => intro s h; rfl
 | cons x l ih =>
  intro s h
  have h1:(giv1 cs t s x).2.length = cs.length := giv_len cs t [x] s h
  show (givM cs t l (giv1 cs t s x)).2[i]? = _
  rw [ih _ h1]
  unfold giv1 giveD
  split
  ·split
   ·rfl
   ·refine zw_same h hc fun d => ?_
    unfold giveC; split
    ·exact inF_mem hm _ d
    ·rfl
  ·rfl
theorem tick_mem {cs:List Chp} {ds:List Dv} (hl:ds.length = cs.length) {i:Nat} {c:Chp} (hc:cs[i]? = some c) (hm:MemK c):(tickL cs ds)[i]? = ds[i]? := zw_same hl hc fun d => skipV_mem hm 1 d
theorem acc_mem {cs:List Chp} {ds:List Dv} (h:DvsOk cs ds) (d ad z:Int) {i:Nat} {c:Chp} (hc:cs[i]? = some c) (hm:MemK c) :
  (accM cs d ad z ds).1[i]? = ds[i]?∨(d = 2∧findC cs ad = some i∧∃ x,ds[i]? = some x∧(accM cs d ad z ds).1[i]? = some (wrF c (ad - c.base) z x)):=by
 have hl := h.1
 unfold accM
 cases hf:findC cs ad with
 | none => exact .inl rfl
 | some j =>
  obtain ⟨h1,h2⟩ := findC_at hf
  have h3:j < ds.length := by omega
  simp only [List.getElem?_eq_getElem h1,List.getElem?_eq_getElem h3]
  by_cases hij:i = j
  ·subst hij
   have hce:cs[i] = c := by rw [List.getElem?_eq_getElem h1] at hc; exact Option.some.inj hc
   rw [hce]
   by_cases hd1:d = 1
   ·rw [if_pos hd1]
    have := (rdF_ok _ _ (h.2 i h1 h3) _ h2).2.1 (by rw [hce]; rcases hm with h | h | h <;> rw [h] <;> decide)
    rw [hce] at this
    rw [this]
    exact .inl (by rw [List.set_getElem_self,List.getElem?_eq_getElem h3])
   ·rw [if_neg hd1]
    by_cases hd2:d = 2
    ·rw [if_pos hd2]
     exact .inr ⟨hd2,rfl,ds[i],List.getElem?_eq_getElem h3,by rw [List.getElem?_set_self h3]⟩
    ·rw [if_neg hd2]
     exact .inl (by rw [List.getElem?_eq_getElem h3])
  ·refine .inl ?_
   split
   ·rw [List.getElem?_set_ne (Ne.symm hij)]
   ·split
    ·rw [List.getElem?_set_ne (Ne.symm hij)]
    ·rfl
theorem step_mem (B:Brd) (ins:List Ev) (s:Mac) (h:MacSt B s) {i:Nat} {c:Chp} (hc:B.chips[i]? = some c) (hm:MemK c) :
  (stepM B ins s).ds[i]? = s.ds[i]?∨((stepM B ins s).bus.d = 2∧findC B.chips (stepM B ins s).bus.addr = some i∧∃ x z,s.ds[i]? = some x∧(stepM B ins s).ds[i]? = some (wrF c ((stepM B ins s).bus.addr - c.base) z x)):=by
 have h1:DvsOk B.chips (gvS B ins s).2 := givM_ok _ _ _ _ h.1
 have h2:DvsOk B.chips (accS B ins s).1 := accM_ok _ _ _ _ _ h1
 have e1:(stepM B ins s).ds[i]? = (accS B ins s).1[i]? := tick_mem h2.1 hc hm
 have e2:(gvS B ins s).2[i]? = s.ds[i]? := giv_mem _ _ hc hm _ _ h.1.1
 rw [e1]
 rcases acc_mem h1 (askS B ins s).2.d (askS B ins s).2.addr (askS B ins s).2.data hc hm with e3 | ⟨e3,e4,x,e5,e6⟩
 ·exact .inl (by rw [show (accS B ins s).1[i]? = _ from e3,e2])
 ·exact .inr ⟨e3,e4,x,_,by rw [← e2]; exact e5,e6⟩
theorem step_rom (B:Brd) (ins:List Ev) (s:Mac) (h:MacSt B s) (hp:∀ c ∈ B.chips,0 ≤ c.base) {i:Nat} {c:Chp} (hc:B.chips[i]? = some c) (hm:c.kind = 1):(stepM B ins s).ds[i]? = s.ds[i]?:=by
 rcases step_mem B ins s h hc (.inr (.inl hm)) with e | ⟨e1,e2,x,z,e3,e4⟩
 ·exact e
 ·rw [e4,e3]
  obtain ⟨h1,h2⟩ := findC_at e2
  have hce:B.chips[i] = c := by rw [List.getElem?_eq_getElem h1] at hc; exact Option.some.inj hc
  rw [hce] at h2
  have hd := h.1.2 i h1 (by rw [h.1.1]; exact h1)
  have hx:s.ds[i]'(by rw [h.1.1]; exact h1) = x := by rw [List.getElem?_eq_getElem (by rw [h.1.1]; exact h1)] at e3; exact Option.some.inj e3
  rw [hce,hx] at hd
  rw [(wrF_ok c x hd _ z h2).2.2.2.1 hm]
theorem run_rom (B:Brd) (ins:List Ev) (s:Mac) (h:MacSt B s) (hp:∀ c ∈ B.chips,0 ≤ c.base) {i:Nat} {c:Chp} (hc:B.chips[i]? = some c) (hm:c.kind = 1):∀ n,(runS B ins s n).ds[i]? = s.ds[i]?:=by
 intro n
 induction n with
 | zero => rfl
 | succ n ih => exact (step_rom B ins _ (runS_st B ins s h n) hp hc hm).trans ih
theorem step_read (B:Brd) (ins:List Ev) (s:Mac) (h:MacSt B s) {i:Nat} {c:Chp} {x:Dv} (hc:B.chips[i]? = some c) (hm:MemK c) (hx:s.ds[i]? = some x) (hd:(stepM B ins s).bus.d = 1) (hf:findC B.chips (stepM B ins s).bus.addr = some i):(stepM B ins s).bus.data = (rdF c ((stepM B ins s).bus.addr - c.base) x).2:=by
 have e2:(gvS B ins s).2[i]? = s.ds[i]? := giv_mem _ _ hc hm _ _ h.1.1
 rw [hx] at e2
 have hd:(askS B ins s).2.d = 1 := hd
 have hf:findC B.chips (askS B ins s).2.addr = some i := hf
 show (accM B.chips (askS B ins s).2.d (askS B ins s).2.addr (askS B ins s).2.data (gvS B ins s).2).2 = (rdF c ((askS B ins s).2.addr - c.base) x).2
 unfold accM
 simp only [hf,hc,e2,hd,if_true]
end Go.Proofs.YtonhglhdlgbcnabGreat.Calc
namespace Go.Proofs.YtonhglhdlgbcnabGreat.Calc
open Go Code
set_option linter.unusedSimpArgs false
set_option linter.unusedVariables false
set_option maxRecDepth 20000
set_option maxHeartbeats 8000000
attribute [local irreducible] WOpsT AW AK RK AKW UK UC
theorem find_only {B:Brd} (hb:VBoard B) {i:Nat} (hi:i < B.chips.length) {a:Int} (ha:B.chips[i].base ≤ a∧a < B.chips[i].base + B.chips[i].size):findC B.chips a = some i:=by
 refine List.findIdx?_eq_some_iff_getElem.2 ⟨hi,decide_eq_true ha,fun j hj => ?_⟩
 rw [Bool.not_eq_true]
 refine decide_eq_false fun h => ?_
 rcases (hb.apart j i hi hj).2 with h2 | h2 <;> omega
theorem findR_of {B:Brd} {i:Nat} (hi:i < B.chips.length) {a:Int} (h:findC B.chips a = some i):findR B.chips a = .tup [I i,I (a - B.chips[i].base),.c (.bool true)]:=by
 unfold findR; rw [h]; dsimp only; rw [List.getD_eq_getElem?_getD,List.getElem?_eq_getElem hi]; rfl
theorem mkBrd_romAt (l:List Int):∃ i,∃ h:i < (mkBrd l).chips.length,(mkBrd l).chips[i].kind = 1∧(mkBrd l).chips[i].base = 65280∧(mkBrd l).chips[i].size = 256:=by
 have e:(mkBrd l).chips = (bdOf l).1 ++ [romC (bdOf l).2.2] := rfl
 refine ⟨(bdOf l).1.length,by rw [e,List.length_append]; exact Nat.lt_succ_self _,?_⟩
 simp only [e,List.getElem_append_right (Nat.le_refl _),Nat.sub_self,List.getElem_cons_zero]
 exact ⟨rfl,rfl,rfl⟩
theorem peekS {B:Brd} (hB:MacOk B) (hb:VBoard B) {i:Nat} (hi:i < B.chips.length) (hk:0 ≤ B.chips[i].kind∧B.chips[i].kind ≤ 2) {s:Mac} (h:MacSt B s) {a:Int} (ha:0 ≤ a∧a < 65536) (hr:B.chips[i].base ≤ a∧a < B.chips[i].base + B.chips[i].size) {d:Dv} (hd:s.ds[i]? = some d):FnE Tryz.prog 12 [.agg (boV B),.agg (maS s),I a] [] (I (rdF B.chips[i] (a - B.chips[i].base) d).2) []:=by
 have hl := h.1.1
 have hi2:i < s.ds.length := by omega
 have hde:s.ds[i] = d := by rw [List.getElem?_eq_getElem hi2] at hd; exact Option.some.inj hd
 have hdv := h.1.2 i hi hi2
 rw [hde] at hdv
 refine peek_ok B _ _ _ _ _ _ _ _ _ a ha hB.place (by have := hB.n12; omega) hl i hi _ (findR_of hi (find_only hb hi hr)) hk (rdF B.chips[i] (a - B.chips[i].base) d).1 _ ?_
 rw [hde]
 exact (rdF_ok _ _ hdv _ (by omega)).2.2
theorem mreads_go (l inn:List Int) (n0 a0:Int) (n:Nat) (a v:Int) (hn:n0 % 300 = n) (ha:65280 + a0 % 256 = a) (B:Brd) (s0 s1:Mac) (ins o1:List Ev) (hm:FnE Tryz.prog 11 [] [] (.c (.bool true)) []) (hbd:FnE Tryz.prog 5 [.sl 1 (cells l)] [] (.agg (boV B)) []) (hin:FnE Tryz.prog 9 [.agg (boV B),.sl 1 (cells inn)] [] (.sl 3 (ins.map evV)) []) (hnew:FnE Tryz.prog 7 [.agg (boV B)] [] (.tup [.agg (maS s0),I 0]) [])
  (hr1:FnE Tryz.prog 8 [.agg (boV B),.agg (maS s0),.sl 3 (ins.map evV),I n] [] (.tup [.agg (maS s1),.sl 3 (o1.map evV),I 0]) [])
  (hpo:FnE Tryz.prog 10 [.agg (boV B),.agg (maS s1),I a,I 1] [] (.agg (maS s1)) [])
  (hp0:FnE Tryz.prog 12 [.agg (boV B),.agg (maS s0),I a] [] (I v) []) (hp1:FnE Tryz.prog 12 [.agg (boV B),.agg (maS s1),I a] [] (I v) [])
  (hp2:s1.bus.d = 1→65280 ≤ s1.bus.addr→FnE Tryz.prog 12 [.agg (boV B),.agg (maS s1),I s1.bus.addr] [] (I s1.bus.data) []):FnE Tryz.prog 3 [.sl 1 (cells l),.sl 1 (cells inn),I n0,I a0] [] (.c (.bool true)) []:=by
 have b1 := below_ok n0 300 (by decide) (by decide)
 have b2 := below_ok a0 256 (by decide) (by decide)
 rw [hn] at b1
 have hra:0 ≤ a0 % 256∧a0 % 256 < 256 := by omega
 by_cases hd:s1.bus.d = 1∧65280 ≤ s1.bus.addr
 ·have hp3 := hp2 hd.1 hd.2
  obtain ⟨hd1,hd2⟩ := hd
  clear hp2
  subst ha
  refine N.fnC Tryz.func3 k3 fun Q hQ hQN => ?_
  repeat' (first | rw [boV_zero] | rw [boV_t8] | rw [boV_ren] | rw [maS_zero] | rw [maS_ren] | rw [maS_t17] | (show WC _ _ _ _ _ _ _ _ _; first | refine T.call0 e5 rfl hbd ?_ | refine T.call0 e9 rfl hin ?_ | refine T.call0 e7 rfl hnew ?_ | refine T.call0 e6 rfl b1 ?_ | refine T.call0 e6 rfl b2 ?_ | refine T.call0 e8 rfl hr1 ?_ | refine T.call0 e10 rfl hpo ?_ | refine T.call0 e12 rfl hp0 ?_ | refine T.call0 e12 rfl hp1 ?_ | refine T.call0 e12 rfl hp3 ?_ | refine T.call0 e11 rfl hm ?_) | exact ⟨⟩ | intro (K:KT) hK | intro hcd | (refine go1 ?_ ?_ <;> try clear hK K) | fail)
  all_goals exact WS.c rfl rfl
 ·clear hp2
  subst ha
  refine N.fnC Tryz.func3 k3 fun Q hQ hQN => ?_
  repeat' (first | rw [boV_zero] | rw [boV_t8] | rw [boV_ren] | rw [maS_zero] | rw [maS_ren] | rw [maS_t17] | (show WC _ _ _ _ _ _ _ _ _; first | refine T.call0 e5 rfl hbd ?_ | refine T.call0 e9 rfl hin ?_ | refine T.call0 e7 rfl hnew ?_ | refine T.call0 e6 rfl b1 ?_ | refine T.call0 e6 rfl b2 ?_ | refine T.call0 e8 rfl hr1 ?_ | refine T.call0 e10 rfl hpo ?_ | refine T.call0 e12 rfl hp0 ?_ | refine T.call0 e12 rfl hp1 ?_ | refine T.call0 e11 rfl hm ?_) | exact ⟨⟩ | intro (K:KT) hK | intro hcd | (refine go1 ?_ ?_ <;> try clear hK K) | fail)
  all_goals exact WS.c rfl rfl
theorem mreads_ok (l inn:List Int) (n0 a0:Int):FnE Tryz.prog 3 [.sl 1 (cells l),.sl 1 (cells inn),I n0,I a0] [] (.c (.bool true)) []:=by
 obtain ⟨n,hn⟩:∃ n:Nat,n0 % 300 = n := ⟨(n0 % 300).toNat,by omega⟩
 obtain ⟨i,hi,hk,hbs,hsz⟩ := mkBrd_romAt l
 have hB := mkMac_ok l
 have hb := mkBrd_v l
 have h0 := mac0_st l
 have hio := inpM_ok (mkBrd l) inn
 have h1 := runS_st (mkBrd l) (inpM (mkBrd l) inn) (mac0 l) h0 n
 have hi0:i < (mac0 l).ds.length := by rw [h0.1.1]; exact hi
 have hi1:i < (runS (mkBrd l) (inpM (mkBrd l) inn) (mac0 l) n).ds.length := by rw [h1.1.1]; exact hi
 have hc:(mkBrd l).chips[i]? = some (mkBrd l).chips[i] := List.getElem?_eq_getElem hi
 have hrom := run_rom (mkBrd l) (inpM (mkBrd l) inn) (mac0 l) h0 (fun c hc => (hB.place c hc).1) hc hk
 have hd0:(mac0 l).ds[i]? = some (mac0 l).ds[i] := List.getElem?_eq_getElem hi0
 have hd1 := hrom n
 rw [hd0] at hd1
 have hra:0 ≤ a0 % 256∧a0 % 256 < 256 := by omega
 refine mreads_go l inn n0 a0 n (65280 + a0 % 256) _ hn rfl (mkBrd l) (mac0 l) _ _ _ machines_ok (mkBrd_ok l) (inputs_ok _ hB inn) (mac0_new l) (run_ok l _ _ n (by omega) h0 hio) ?_ (peekS hB hb hi (by omega) h0 (by omega) (by omega) hd0) (peekS hB hb hi (by omega) h1 (by omega) (by omega) hd1) fun e1 e2 => ?_
 ·generalize runS (mkBrd l) (inpM (mkBrd l) inn) (mac0 l) n = s at *
  have hl := h1.1.1
  have hde:s.ds[i] = (mac0 l).ds[i] := by rw [List.getElem?_eq_getElem hi1] at hd1; exact Option.some.inj hd1
  have hw := wrF_ok _ _ (h1.1.2 i hi hi1) (65280 + a0 % 256 - (mkBrd l).chips[i].base) 1 (by omega)
  have hwe := hw.2.2.2.1 hk
  have hp := poke_ok (mkBrd l) s.t s.k.r s.k.op s.k.a s.k.nmi s.ds s.bus.d s.bus.addr s.bus.data (65280 + a0 % 256) 1 (by omega) hB.place hB.n12 hl h1.1.sml i hi _ (findR_of hi (find_only hb hi (by omega))) (by omega) _ hw.2.1
  rw [hwe,List.set_getElem_self] at hp
  exact hp
 ·cases n with
  | zero => exact absurd e1 (by show ¬ ((0:Int) = 1); decide)
  | succ n =>
   have hm := runS_st (mkBrd l) (inpM (mkBrd l) inn) (mac0 l) h0 n
   have hdm := hrom n
   rw [hd0] at hdm
   have hmk:MemK (mkBrd l).chips[i] := .inr (.inl hk)
   have had:0 ≤ (runS (mkBrd l) (inpM (mkBrd l) inn) (mac0 l) (n + 1)).bus.addr∧(runS (mkBrd l) (inpM (mkBrd l) inn) (mac0 l) (n + 1)).bus.addr < 65536 := askM_addr _ _ _
   have hfo := find_only hb hi (a := (runS (mkBrd l) (inpM (mkBrd l) inn) (mac0 l) (n + 1)).bus.addr) (by omega)
   have hrd:(runS (mkBrd l) (inpM (mkBrd l) inn) (mac0 l) (n + 1)).bus.data = (rdF (mkBrd l).chips[i] ((runS (mkBrd l) (inpM (mkBrd l) inn) (mac0 l) (n + 1)).bus.addr - (mkBrd l).chips[i].base) (mac0 l).ds[i]).2 := step_read (mkBrd l) (inpM (mkBrd l) inn) _ hm hc hmk hdm e1 hfo
   have hpk := peekS hB hb hi (by omega) h1 had (by omega) hd1
   rw [← hrd] at hpk
   exact hpk
end Go.Proofs.YtonhglhdlgbcnabGreat.Calc
