/- What the law QuickParts needs beside the texts of QuickSame (CalcP, CdSlices, FnEvs, CdKMore, FnLawQuick). No condition beyond those in each lemma. -/
import Derived.Test.YtonhglhdlgbcnacGreatPLawQuickSameA
import Derived.Test.YtonhglhdlgbcnacGreatPLawQuickSameB
import Derived.Test.YtonhglhdlgbcnacGreatPLawQuickSameC
import Derived.Test.YtonhglhdlgbcnacGreatPLawQuickSameD
import Derived.Test.YtonhglhdlgbcnacGreatPLawQuickSameE
import Derived.Test.YtonhglhdlgbcnacGreatPLawQuickSameF
import Derived.Test.YtonhglhdlgbcnacGreatPLawQuickSameG
import Derived.Test.YtonhglhdlgbcnacGreatPLawQuickSameH
import Derived.Test.YtonhglhdlgbcnacGreatPLawQuickSameI
import Derived.Test.YtonhglhdlgbcnacGreatPLawQuickSameJ
import Derived.Test.YtonhglhdlgbcnacGreatPLawQuickSameK
import Derived.Test.YtonhglhdlgbcnacGreatPLawQuickSameL
import Derived.Test.YtonhglhdlgbcnacGreatPLawQuickSameM
import Derived.Test.YtonhglhdlgbcnacGreatPLawQuickSameN
import Derived.Test.YtonhglhdlgbcnacGreatPLawQuickSameO
import Derived.Test.YtonhglhdlgbcnacGreatPLawQuickSameP
import Derived.Test.YtonhglhdlgbcnacGreatPLawQuickSameQ
import Derived.Test.YtonhglhdlgbcnacGreatPLawQuickSameR
import Derived.Test.YtonhglhdlgbcnacGreatPLawQuickSameS
import Derived.Test.YtonhglhdlgbcnacGreatPLawQuickSameT
import Derived.Test.YtonhglhdlgbcnacGreatPLawQuickSameU
import Derived.Test.YtonhglhdlgbcnacGreatProg
import Derived.KernelRfl
namespace Go.Proofs.YtonhglhdlgbcnacGreat.Calc
open Go
set_option linter.unusedSimpArgs false
section
variable {P:Program} {rest:List AOper} {tr:Tr} {fr:Fr} {h:List Blk} {K:KT} {d:Option Nat}
theorem T.appE {e bytes:Nat} {s x:AO} (hs:s.ev (lk fr)=.c (.slice none 0 0)) (hx:srcOf (fun b=>h[b]?) e (x.ev (lk fr))=some (e,[])) (he:0 < e∧0 < bytes)
  (hK:WOpsT P rest (tr ++ [(vlook (x.ev (lk fr)),[])]) (put fr d (.c (.slice none 0 0))) h K):WOpsT P (⟨d,.app e bytes s x,none⟩ :: rest) tr fr h K :=
 T.pure nofun nofun (by simp only [stepA,hs,hx]; rw [if_pos ⟨trivial,he.1,he.2⟩]; rfl) hK
theorem T.appP {e bytes:Nat} {s x:AO} {b ver off len:Nat} {B:Blk} {new:List (List V)} (hs:s.ev (lk fr)=.psl b ver off len) (hb:h[b]?=some B) (hx:srcOf (fun b=>h[b]?) e (x.ev (lk fr))=some (e,new)) (he:0 < e∧0 < bytes)
  (hB:B.ver=ver∧B.esz=e∧off+len≤B.rows.length∧bytes * (len+new.length+(len+new.length) / 4+1024)≤2 ^ 48)
  (hK:WOpsT P rest (tr ++ [(b :: vlook (x.ev (lk fr)),[b])]) (put fr d (.psl b (ver+1) 0 (len+new.length))) (h.set b ⟨ver+1,e,(B.rows.drop off).take len ++ new⟩) K):WOpsT P (⟨d,.app e bytes s x,none⟩ :: rest) tr fr h K :=
 T.turn nofun nofun (by simp only [stepA,hs,hb,hx]; rw [if_pos ⟨trivial,he.1,he.2⟩,if_pos hB]) hK
end
end Go.Proofs.YtonhglhdlgbcnacGreat.Calc
namespace Go.Proofs.YtonhglhdlgbcnacGreat.Code
open Go Go.Proofs.YtonhglhdlgbcnacGreat.Calc
set_option maxRecDepth 100000
def c14x1:AC:=.reg [aB' 34 .add (.t 27) (i' 1),m' 27 34] [6,25,26,27]
def c14x2:AC:=.reg [m' 31 6,m' 32 8,o' 33 (.app 3 32 (.t 31) (.t 32)),m' 6 33] [6,25,26,27]
def c14x3:AC:=.seq (.reg [aX' 29 1 25 27,aL' 30 29,m' 8 30] [6,8,25,26,27]) c14x2
def c14x8:AC:=.seq (.reg [aB' 28 .lss (.t 27) (.t 26)] [6,25,26,27,28]) (.seq (.cond (.t 28) .skip (.exit 2)) (.seq (.block 3 c14x3) c14x1))
def c14x11:AC:=.seq (.reg [m' 25 0,aT' 26 25,aV' 27 0] [6,25,26,27]) (.block 2 (.loop c14x8))
def c14x13:AC:=.seq (.reg [m' 23 3,aC' 24 34 [(.k (.slice none 0 0)),(.t 23)],m' 6 24] [0,6]) (.seq c14x11 (.seq (.reg [m' 35 6,m' 2 35] [2]) .ret))
def c14x14:AC:=.reg [aB' 22 .add (.t 11) (i' 1),m' 11 22] [0,3,9,10,11]
def c14x15:AC:=.reg [o' 21 (.mki 9 (.k (.string ⟨#[108,101,110,32,111,117,116,32,111,102,32,114,97,110,103,101]⟩))),n' (.bad)] [0,3,9,10,11]
def c14x17:AC:=.seq (.reg [m' 19 3,aB' 20 .lss (.t 19) (i' 0)] [0,3,9,10,11,20]) (.cond (.t 20) c14x15 .skip)
def c14x18:AC:=.seq (.reg [m' 15 3,m' 16 5,aT' 17 16,aB' 18 .add (.t 15) (.t 17),m' 3 18] [0,3,9,10,11]) c14x17
def c14x19:AC:=.seq (.reg [aX' 13 1 9 11,aL' 14 13,m' 5 14] [0,3,5,9,10,11]) c14x18
def c14x24:AC:=.seq (.reg [aB' 12 .lss (.t 11) (.t 10)] [0,3,9,10,11,12]) (.seq (.cond (.t 12) .skip (.exit 0)) (.seq (.block 1 c14x19) c14x14))
def c14x27:AC:=.seq (.reg [m' 9 0,aT' 10 9,aV' 11 0] [0,3,9,10,11]) (.block 0 (.loop c14x24))
def c14:AC:=.seq (.reg [o' 2 (.mv (.k (.slice none 0 0)))] [0]) (.seq (.reg [aV' 3 0] [0,3]) (.seq c14x27 c14x13))
theorem k14:KQ Tryz.prog Tryz.f14 c14 [.t 2]:=⟨by kernel_rfl,by kernel_rfl⟩
theorem e14:enters Tryz.prog 14=true:=by kernel_rfl
def c34x1:AC:=.reg [m' 17 0,m' 18 0,o' 19 (.capx (.t 18)),o' 20 (.slc 3 (.t 17) none (some (.t 19))),m' 21 1,o' 22 (.appz [(.int .i64 0),(.string ⟨#[]⟩),(.int .i64 0)] 32 (.t 20) (.t 21)),m' 23 0,aT' 24 23,o' 25 (.slc 3 (.t 22) none (some (.t 24))),m' 0 25] [0]
def c34x3:AC:=.seq (.reg [m' 15 1,aB' 16 .gtr (.t 15) (i' 0)] [0,1,16]) (.cond (.t 16) c34x1 .skip)
def c34x4:AC:=.seq (.reg [m' 8 1,m' 9 0,o' 10 (.capx (.t 9)),m' 11 0,aT' 12 11,aB' 13 .sub (.t 10) (.t 12),aB' 14 .sub (.t 8) (.t 13),m' 1 14] [0,1]) c34x3
def c34x6:AC:=.reg [o' 7 (.mki 9 (.k (.string ⟨#[99,97,110,110,111,116,32,98,101,32,110,101,103,97,116,105,118,101]⟩))),n' (.bad)] [0,1]
def c34x8:AC:=.seq (.reg [m' 5 1,aB' 6 .lss (.t 5) (i' 0)] [0,1,6]) (.cond (.t 6) c34x6 .skip)
def c34:AC:=.seq (.reg [o' 4 (.mv (.k (.slice none 0 0)))] [0,1]) (.seq c34x8 (.seq c34x4 (.seq (.reg [m' 26 0,m' 4 26] [4]) .ret)))
theorem k34:KQ Tryz.prog Tryz.f34 c34 [.t 4]:=⟨by kernel_rfl,by kernel_rfl⟩
theorem e34:enters Tryz.prog 34=true:=by kernel_rfl
end Go.Proofs.YtonhglhdlgbcnacGreat.Code
namespace Go.Proofs.YtonhglhdlgbcnacGreat.Calc
open Go Code
set_option linter.unusedSimpArgs false
set_option linter.unusedVariables false
set_option maxRecDepth 20000
set_option maxHeartbeats 8000000
attribute [local irreducible] WOpsT AW AK RK AKW UK UC
theorem growE_ok (n:Nat) (hn:1≤n∧n≤100000):FnE Tryz.prog 34 [.c (.slice none 0 0),I n] [] (.psl 0 1 0 0) [⟨1,3,List.replicate n zE⟩]:=by
 refine N.fnC Tryz.func34 k34 fun Q hQ hQN=>?_
 repeat' (first|refine T.appz rfl rfl ⟨by decide,by decide,by omega,by omega⟩ ?_|exact ⟨⟩|intro (K:KT) hK|intro hcd|(refine go1 ?_ ?_ <;> try clear hK K)|fail)
 exact WS.gc [0] 1 rfl (by
  show [_]=[outB _ [0] 1 ⟨1,3,List.replicate ((n:Int) - (0 - 0)).toNat zE⟩]
  rw [show ((n:Int) - (0 - 0)).toNat=n by omega]
  unfold outB
  rw [List.map_replicate]; rfl) .rfl
theorem zE_ren (n:Nat) (ks:List Nat):(List.replicate n zE).map (fun x=>x.map (ren ks))=List.replicate n zE:=by rw [List.map_replicate]; rfl
theorem grow0_ok:FnE Tryz.prog 34 [.c (.slice none 0 0),I 0] [] (.c (.slice none 0 0)) []:=by
 refine N.fnC Tryz.func34 k34 fun Q hQ hQN=>?_
 repeat' (first|exact ⟨⟩|intro (K:KT) hK|intro hcd|(refine go1 ?_ ?_ <;> try clear hK K)|fail)
 exact WS.c rfl rfl
theorem concatE_ok (a c:List Ev) (ha:a.length≤50000) (hc:c.length≤50000):FnE Tryz.prog 14 [.psl 0 1 0 2] [⟨1,1,[[.sl 3 (a.map evV)],[.sl 3 (c.map evV)]]⟩] (.sl 3 ((a ++ c).map evV)) [⟨1,1,[[.sl 3 (a.map evV)],[.sl 3 (c.map evV)]]⟩]:=by
 by_cases h0:a.length+c.length=0
 ·obtain rfl:a=[]:=List.eq_nil_of_length_eq_zero (by omega)
  obtain rfl:c=[]:=List.eq_nil_of_length_eq_zero (by omega)
  have hg:=grow0_ok
  refine N.fnC Tryz.func14 k14 fun Q hQ hQN=>?_
  repeat' (first|(show AK _ _ (.loop _) _ _ _ _; refine N.unroll 3 ?_)|(show WOpsT _ (⟨_,.app _ _ _ _,none⟩ :: _) _ _ _ _; refine T.appE rfl rfl ⟨by decide,by decide⟩ ?_)|refine T.call0 e34 rfl hg ?_|exact ⟨⟩|intro (K:KT) hK|intro hcd|(refine go1 ?_ ?_ <;> try clear hK K)|fail)
  exact WS.gc [0] 1 rfl (by exact oO) .nil
 ·have hg:FnE Tryz.prog 34 [.c (.slice none 0 0),I (0+(a.length:Int)+c.length)] [] (.psl 0 1 0 0) [⟨1,3,List.replicate (a.length+c.length) zE⟩]:=by
   rw [show 0+(a.length:Int)+c.length=((a.length+c.length:Nat):Int) by omega]
   exact growE_ok (a.length+c.length) (by omega)
  refine N.fnC Tryz.func14 k14 fun Q hQ hQN=>?_
  repeat' (first|(show AK _ _ (.loop _) _ _ _ _; refine N.unroll 3 ?_)|rw [List.length_map]|rw [zE_ren]|(show WOpsT _ (⟨_,.app _ _ _ _,none⟩ :: _) _ _ _ _; refine T.appP rfl rfl rfl ⟨by decide,by decide⟩ ⟨rfl,rfl,by first|exact Nat.zero_le _|(simp; done)|(simp; omega),by simp; omega⟩ ?_)|refine T.callN e34 rfl (hg) (by simp) ?_|exact ⟨⟩|intro (K:KT) hK|intro hcd|(refine go1 ?_ ?_ <;> try clear hK K)|fail)
  rw [show List.take a.length (a.map evV) ++ c.map evV=(a ++ c).map evV by rw [List.take_of_length_le (by rw [List.length_map]; exact Nat.le_refl _),List.map_append]]
  exact WS.gc [0] 1 rfl (by exact oO) (by show Sub (out _ [0] 1 (.psl 1 3 0 _)) _; rw [out_rowsK (f:=evV) rfl rfl (by rw [List.length_append]; exact Nat.le_refl _)]; exact .rfl)
end Go.Proofs.YtonhglhdlgbcnacGreat.Calc
namespace Go.Proofs.YtonhglhdlgbcnacGreat.Code
open Go Go.Proofs.YtonhglhdlgbcnacGreat.Calc
set_option maxRecDepth 100000
def c4x0:AC:=.seq (.reg [aC' 65 11 [],m' 66 65,aG' 67 66 12,gT' 68 66 (.bin .eql (.t 67) (i' 0)),o' 69 (.pick (.t 66) (.t 68) kF'),m' 70 69,aG' 71 70 15,gT' 72 70 (.bin .eql (.t 71) (i' 0)),o' 73 (.pick (.t 70) (.t 72) kF'),m' 74 73,aG' 75 74 18,gT' 76 74 (.bin .eql (.t 75) (i' 0)),o' 77 (.pick (.t 74) (.t 76) kF'),m' 78 77,aG' 79 78 21,gT' 80 78 (.bin .eql (.t 79) (i' 0)),o' 81 (.pick (.t 78) (.t 80) kF'),m' 82 81,gT' 83 82 (.ld (some 17) (.t 16)),gT' 84 82 (.ld (some 17) (.t 19)),gT' 85 82 (.call 12 [.t 83,.t 84]),o' 86 (.pick (.t 82) (.t 85) kF'),m' 87 86,aG' 88 87 14,aG' 89 87 17,gT' 90 87 (.bsl [(.slice none 0 0)] 2 [(0,(.t 88)),(1,(.t 89))]),gT' 91 87 (.call 14 [.t 90]),aG' 92 87 20,gT' 93 87 (.call 13 [.t 91,.t 92]),o' 94 (.pick (.t 87) (.t 93) kF'),m' 95 94,gT' 96 95 (.fad 0 (.t 19)),gT' 97 95 (.ld none (.t 96)),aG' 98 95 2,aG' 99 95 3,gT' 100 95 (.bin .add (.t 98) (.t 99)),gT' 101 95 (.bin .eql (.t 97) (.t 100)),o' 102 (.pick (.t 95) (.t 101) kF'),m' 8 102] [8]) .ret
def c4x1:AC:=.seq (.reg [aM' 55 8 9,aM' 56 17 11,m' 57 10,m' 58 2,m' 59 3,aB' 60 .add (.t 58) (.t 59),aC' 61 10 [.t 55,.t 56,.t 57,.t 60],m' 54 61,aE' 62 54 0,aE' 63 54 1,aE' 64 54 2,o' 19 (.zero zLM),aS' 17 19 62,m' 20 63,m' 21 64] [2,3,12,14,15,16,17,18,19,20,21]) c4x0
def c4x2:AC:=.seq (.reg [aM' 46 8 9,aM' 47 17 13,m' 48 10,m' 49 3,aC' 50 10 [.t 46,.t 47,.t 48,.t 49],m' 45 50,aE' 51 45 0,aE' 52 45 1,aE' 53 45 2,o' 16 (.zero zLM),aS' 17 16 51,m' 17 52,m' 18 53] [2,3,9,10,11,12,14,15,16,17,18]) c4x1
def c4x3:AC:=.seq (.reg [aM' 37 8 9,aM' 38 17 11,m' 39 10,m' 40 2,aC' 41 10 [.t 37,.t 38,.t 39,.t 40],m' 36 41,aE' 42 36 0,aE' 43 36 1,aE' 44 36 2,o' 13 (.zero zLM),aS' 17 13 42,m' 14 43,m' 15 44] [2,3,9,10,11,12,13,14,15]) c4x2
def c4x4:AC:=.seq (.reg [aM' 32 8 9,aC' 33 8 [.t 32],m' 31 33,aE' 34 31 0,aE' 35 31 1,o' 11 (.zero zLM),aS' 17 11 34,m' 12 35] [2,3,9,10,11,12]) c4x3
def c4x5:AC:=.seq (.reg [m' 27 2,aC' 28 7 [.t 27,i' 400],m' 29 3,aC' 30 7 [.t 29,i' 400],m' 2 28,m' 3 30] [2,3,9,10]) c4x4
def c4x6:AC:=.seq (.reg [aM' 24 8 9,m' 25 1,aC' 26 6 [.t 24,.t 25],m' 10 26] [2,3,9,10]) c4x5
def c4x7:AC:=.seq (.reg [m' 22 0,aC' 23 5 [.t 22],o' 9 (.zero zLB),aS' 8 9 23] [1,2,3,9]) c4x6
def c4:AC:=.seq (.reg [o' 8 (.mv kF')] [0,1,2,3]) c4x7
theorem k4:KQ Tryz.prog Tryz.f4 c4 [.t 8]:=⟨by kernel_rfl,by kernel_rfl⟩
end Go.Proofs.YtonhglhdlgbcnacGreat.Code
namespace Go.Proofs.YtonhglhdlgbcnacGreat.Calc
open Go Code
set_option linter.unusedSimpArgs false
set_option linter.unusedVariables false
set_option maxRecDepth 20000
set_option maxHeartbeats 8000000
attribute [local irreducible] WOpsT AW AK RK AKW UK UC
theorem qparts_go (l inn:List Int) (a0 z0:Int) (a z:Nat) (ha:a0 % 400=a) (hz:z0 % 400=z) (B:Brd) (s0 s1 s2:Mac) (ins o1 o2:List Ev) (hm:FnE Tryz.prog 11 [] [] (.c (.bool true)) []) (hbd:FnE Tryz.prog 5 [.sl 1 (cells l)] [] (.agg (boV B)) []) (hin:FnE Tryz.prog 6 [.agg (boV B),.sl 1 (cells inn)] [] (.sl 3 (ins.map evV)) []) (hnew:FnE Tryz.prog 8 [.agg (boV B)] [] (.tup [.agg (maS s0),I 0]) [])
  (hr1:FnE Tryz.prog 10 [.agg (boV B),.agg (maS s0),.sl 3 (ins.map evV),I a] [] (.tup [.agg (maS s1),.sl 3 (o1.map evV),I 0]) [])
  (hr2:FnE Tryz.prog 10 [.agg (boV B),.agg (maS s1),.sl 3 (ins.map evV),I z] [] (.tup [.agg (maS s2),.sl 3 (o2.map evV),I 0]) [])
  (hr3:FnE Tryz.prog 10 [.agg (boV B),.agg (maS s0),.sl 3 (ins.map evV),I (a+z)] [] (.tup [.agg (maS s2),.sl 3 ((o1 ++ o2).map evV),I 0]) [])
  (hsm:FnE Tryz.prog 12 [.agg (maS s2),.agg (maS s2)] [] (.c (.bool true)) []) (h1:o1.length≤3000) (h2:o2.length≤3000) (ht:s2.t=a+z):FnE Tryz.prog 4 [.sl 1 (cells l),.sl 1 (cells inn),I a0,I z0] [] (.c (.bool true)) []:=by
 have b1:=below_ok a0 400 (by decide) (by decide)
 have b2:=below_ok z0 400 (by decide) (by decide)
 rw [ha] at b1
 rw [hz] at b2
 have hcc:=concatE_ok o1 o2 (by omega) (by omega)
 have heq:=eqE_ok (o1 ++ o2) (by rw [List.length_append]; omega)
 have hra:(a:Int) < 400:=by omega
 have hrz:(z:Int) < 400:=by omega
 refine N.fnC Tryz.func4 k4 fun Q hQ hQN=>?_
 repeat' (first|rw [boV_zero]|rw [boV_t8]|rw [boV_ren]|rw [maS_zero]|rw [maS_ren]|rw [maS_t17]|(show WC _ _ _ _ _ _ _ _ _; first|refine T.call0 e5 rfl hbd ?_|refine T.call0 e6 rfl hin ?_|refine T.call0 e8 rfl hnew ?_|refine T.call0 e7 rfl b1 ?_|refine T.call0 e7 rfl b2 ?_|refine T.call0 e10 rfl hr1 ?_|refine T.call0 e10 rfl hr2 ?_|refine T.call0 e10 rfl hr3 ?_|refine T.call0 e11 rfl hm ?_|refine T.call0 e12 rfl hsm ?_|refine T.callQ [5] e14 rfl (hcc) (by exact pA) rfl rfl rfl (by exact rN) ?_|refine T.call0 e13 rfl heq ?_)|exact ⟨⟩|intro (K:KT) hK|intro hcd|(refine go1 ?_ ?_ <;> try clear hK K)|fail)
 rw [decide_eq_true ht]
 exact WS.c rfl rfl
theorem qparts_ok (l inn:List Int) (a0 z0:Int):FnE Tryz.prog 4 [.sl 1 (cells l),.sl 1 (cells inn),I a0,I z0] [] (.c (.bool true)) []:=by
 obtain ⟨a,ha⟩:∃ n:Nat,a0 % 400=n:=⟨(a0 % 400).toNat,by omega⟩
 obtain ⟨z,hz⟩:∃ n:Nat,z0 % 400=n:=⟨(z0 % 400).toNat,by omega⟩
 have h0:=mac0_st l
 have e1:(mac0 l).t=0:=rfl
 have hio:=inpM_ok (mkBrd l) inn
 have h1:=runS_st (mkBrd l) (inpM (mkBrd l) inn) (mac0 l) h0 a
 have h2:=runS_st (mkBrd l) (inpM (mkBrd l) inn) _ h1 z
 have t1:=mac0_rt l (inpM (mkBrd l) inn) a (by omega)
 have hr3:=quick_ok l (mac0 l) (inpM (mkBrd l) inn) (a+z) (by omega) h0 hio (by rw [e1]; omega)
 rw [runS_add,runO_add] at hr3
 refine qparts_go l inn a0 z0 a z ha hz (mkBrd l) (mac0 l) _ _ _ _ _ machines_ok (mkBrd_ok l) (inputs_ok _ (mkMac_ok l) inn) (mac0_new l) (quick_ok l _ _ a (by omega) h0 hio (by rw [e1]; omega)) (quick_ok l _ _ z (by omega) h1 hio (by rw [t1]; omega)) hr3 (msameS l _ h2) ?_ ?_ ?_
 ·have:=runO_le l (inpM (mkBrd l) inn) (mac0 l) a 400 (by omega); omega
 ·have:=runO_le l (inpM (mkBrd l) inn) (runS (mkBrd l) (inpM (mkBrd l) inn) (mac0 l) a) z 400 (by omega); omega
 ·rw [← runS_add,mac0_rt l _ _ (by omega)]
  omega
end Go.Proofs.YtonhglhdlgbcnacGreat.Calc
