/- Several texts in one (FnStdG, FnStdH, FnBytes, FnProg, FnProgB, FnDrive, FnDriveB, FnDriveD), for the proof of LawBoardClashes. No condition beyond those in each lemma. -/
import Derived.Test.YtdbbnlafkndcnaaPLawBoardClashesF
import Derived.Test.YtdbbnlafkndcnaaPLawBoardClashesE
import Derived.Test.YtdbbnlafkndcnaaPLawBoardClashesD
namespace Go.Proofs.Ytdbbnlafkndcnaa.Calc
open Go Code
set_option linter.unusedSimpArgs false
set_option linter.unusedVariables false
set_option maxRecDepth 20000
set_option maxHeartbeats 8000000
attribute [local irreducible] WOpsT AW AK RK AKW UK UC
theorem outB_in {h:List Blk} {ids:List Nat} {n v:Nat} {l:List Ins} {x:Ins} {row:List V} (hx:row.map (out h ids n)=inC x):outB h ids n ⟨v,4,l.map inC ++ [row]⟩=⟨v,4,l.map inC ++ [inC x]⟩:=by
 rw [outB_flatA,List.map_cons,List.map_nil,hx]
section
variable {P:Program} {q:Nat} {st:List KF} {Q:Exit→Fr→List Blk→Prop} {fr:Fr} {h:List Blk} {c:AC}
theorem wA (k:Nat) (fr1:Fr) (hA:AK P q c st Q fr1 [mA k,mB k]) (hids:gcOk q h.length [0,1]=true:=by rfl) (hs:selO h [0,1] 2 fr fr1:=by exact ⟨.rfl,.rfl,.rfl,trivial⟩) (h0:mA k=outB h [0,1] 2 (h.getD 0 default):=by rfl) (h1:mB k=h.getD 1 default:=by rfl):AKW P q c st Q fr h :=
 N.weak (Weaks.gc [0,1] 2 hids hs (by
  show [_,_]=[outB h [0,1] 2 (h.getD 0 default),outB h [0,1] 2 (h.getD 1 default)]
  rw [← h0,← h1,outB_mB])) (N.now hA)
theorem wB (k:Nat) (hA:AK P q c st Q [(0,.ptr 0 1 0 0)] [mA k,mB k]) (hids:gcOk q h.length [0,1]=true:=by rfl) (hs:selO h [0,1] 0 fr [(0,.ptr 0 1 0 0)]:=by exact ⟨.rfl,trivial⟩) (h0:h.getD 0 default=renB [0,1] (mA k):=by rfl) (h1:h.getD 1 default=renB [0,1] (mB k):=by rfl):AKW P q c st Q fr h :=
 N.weak (Weaks.gc [0,1] 0 hids hs (by
  show [_,_]=[outB h [0,1] 0 (h.getD 0 default),outB h [0,1] 0 (h.getD 1 default)]
  rw [h0,h1,renB_mB,outB_mB]; rfl)) (N.now hA)
end
theorem mB_succ {k:Nat} {s:ByteArray} {m:Int} {cy:List Cyc} (hc:stdL[k]?=some [(s,m,cy)]):mB (k+1)=⟨(number 0 (memR k)).length+1,4,(number 0 (memR k)).map inC ++ [inC (insN (number 0 (memR k)) s m cy)]⟩:=by
 rw [← mkB_snoc,show number 0 (memR k) ++ [insN (number 0 (memR k)) s m cy]=number 0 (memR (k+1)) from num_succ hc]; rfl
theorem mA_succ {k:Nat} {c:Row} (hc:stdL[k]?=some [c]):mA (k+1)=⟨1,1,[[.psl 1 ((number 0 (memR k)).length+1) 0 ((number 0 (memR k)).length+1)]]⟩:=by
 unfold mA mkA
 rw [number_len,number_len,memR_succ k _ hc,List.length_append]; rfl
theorem addS1 (k:Nat) (hk:k < 50∧1≤k) (s:ByteArray) (m b a r:Int) (ss:List Stp) (n:Nat) :
  FnE Try.prog 85 [.ptr 0 1 0 0,.c (.string s),I m,.psl 2 1 0 1] [mA k,mB k,⟨1,4,[[I b,I a,I r,.psl 3 1 0 n]]⟩,⟨1,4,ss.map stC⟩] (.tup [])
   [⟨1,1,[[.psl 1 ((number 0 (memR k)).length+1) 0 ((number 0 (memR k)).length+1)]]⟩,⟨(number 0 (memR k)).length+1,4,(number 0 (memR k)).map inC ++ [[I ((number 0 (memR k)).length+1),.c (.string s),I m,.psl 2 1 0 1]]⟩,⟨1,4,[[I b,I a,I r,.psl 3 1 0 n]]⟩,⟨1,4,ss.map stC⟩]:=by
 have hl:=num_len k hk
 unfold mA mB
 obtain ⟨l,hle⟩:∃ l,number 0 (memR k)=l:=⟨_,rfl⟩
 rw [hle] at hl ⊢
 refine N.fnC Try.func85 k85 fun Q hQ hQN=>?_
 repeat' (first|(show Wo (.app _ _ _ _); refine T.app rfl rfl rfl ⟨by decide,by decide⟩ ⟨rfl,rfl,by rw [Nat.zero_add]; exact (List.length_map _).symm,by simp; omega⟩ ?_)|(show Wo (.st _ _ _); refine T.st rfl rfl (vcells_psl rfl rfl) ⟨rfl,rfl⟩ rfl (Nat.le_of_ble_eq_true rfl) ?_)|exact ⟨⟩|intro (K:KT) hK|intro hcd|refine go1 ?_ ?_|fail)
 exact WS.gc [0,1,2,3] 0 rfl (by show [_,⟨_,_,_⟩,_,⟨1,4,ss.map stC⟩]=[_,outB _ _ _ ⟨l.length+1,4,l.map inC ++ [[I (l.length+1),.c (.string s),I m,.psl 2 1 0 1]]⟩,_,outB _ _ _ ⟨1,4,ss.map stC⟩]; rw [outB_flatA,outB_flat]; rfl) .rfl
theorem addS2 (k:Nat) (hk:k < 50∧1≤k) (s:ByteArray) (m b a r b' a' r':Int) (ss ss':List Stp) (n n':Nat) :
  FnE Try.prog 85 [.ptr 0 1 0 0,.c (.string s),I m,.psl 2 1 0 2] [mA k,mB k,⟨1,4,[[I b,I a,I r,.psl 3 1 0 n],[I b',I a',I r',.psl 4 1 0 n']]⟩,⟨1,4,ss.map stC⟩,⟨1,4,ss'.map stC⟩] (.tup [])
   [⟨1,1,[[.psl 1 ((number 0 (memR k)).length+1) 0 ((number 0 (memR k)).length+1)]]⟩,⟨(number 0 (memR k)).length+1,4,(number 0 (memR k)).map inC ++ [[I ((number 0 (memR k)).length+1),.c (.string s),I m,.psl 2 1 0 2]]⟩,⟨1,4,[[I b,I a,I r,.psl 3 1 0 n],[I b',I a',I r',.psl 4 1 0 n']]⟩,⟨1,4,ss.map stC⟩,⟨1,4,ss'.map stC⟩]:=by
 have hl:=num_len k hk
 unfold mA mB
 obtain ⟨l,hle⟩:∃ l,number 0 (memR k)=l:=⟨_,rfl⟩
 rw [hle] at hl ⊢
 refine N.fnC Try.func85 k85 fun Q hQ hQN=>?_
 repeat' (first|(show Wo (.app _ _ _ _); refine T.app rfl rfl rfl ⟨by decide,by decide⟩ ⟨rfl,rfl,by rw [Nat.zero_add]; exact (List.length_map _).symm,by simp; omega⟩ ?_)|(show Wo (.st _ _ _); refine T.st rfl rfl (vcells_psl rfl rfl) ⟨rfl,rfl⟩ rfl (Nat.le_of_ble_eq_true rfl) ?_)|exact ⟨⟩|intro (K:KT) hK|intro hcd|refine go1 ?_ ?_|fail)
 exact WS.gc [0,1,2,3,4] 0 rfl (by show [_,⟨_,_,_⟩,_,⟨1,4,ss.map stC⟩,⟨1,4,ss'.map stC⟩]=[_,outB _ _ _ ⟨l.length+1,4,l.map inC ++ [[I (l.length+1),.c (.string s),I m,.psl 2 1 0 2]]⟩,_,outB _ _ _ ⟨1,4,ss.map stC⟩,outB _ _ _ ⟨1,4,ss'.map stC⟩]; rw [outB_flatA,outB_flat,outB_flat]; rfl) .rfl
def row3 (p:ByteArray×Int×Int):List V:=[.c (.string p.1),I p.2.1,I p.2.2]
def tabA:List (ByteArray×Int×Int):=[(⟨#[116,97,120]⟩,1,0),(⟨#[116,97,121]⟩,2,0),(⟨#[116,120,97]⟩,0,1),(⟨#[116,121,97]⟩,0,2),(⟨#[116,115,120]⟩,1,3)]
def tabW:List (ByteArray×Int×Int):=[(⟨#[98,101,113]⟩,2,1),(⟨#[98,110,101]⟩,2,0),(⟨#[98,99,115]⟩,1,1),(⟨#[98,99,99]⟩,1,0),(⟨#[98,109,105]⟩,128,1),(⟨#[98,112,108]⟩,128,0)]
theorem alone_ok:FnE Try.prog 59 [.ptr 0 1 0 0] [mA 20,mB 20] (.tup []) [mA 39,mB 39]:=by
 refine N.fnC Try.func59 k59 fun Q hQ hQN=>?_
 repeat' (first|exact ⟨⟩|intro (K:KT) hK|intro hcd|refine goW ?_ ?_|fail)
 refine N.weak (fr1:=[(0,.ptr 0 1 0 0),(9,.psl 2 1 0 5),(10,I 5),(11,I 0)]) (h1:=[mA 20,mB 20,⟨1,3,tabA.map row3⟩]) (Weaks.sel (by exact sB) rfl) (N.now ?_)
 repeat' (first|exact ⟨⟩|intro (K:KT) hK|intro hcd|refine goW ?_ ?_|fail)
 refine N.loop (σ:=Nat) (fun i=>[(0,.ptr 0 1 0 0),(9,.psl 2 1 0 5),(10,I 5),(11,I i)]) (fun i=>[mA (20+i),mB (20+i),⟨1,3,tabA.map row3⟩]) (fun i=>i≤5) (fun i=>5 - i) 0 (by omega) (Weaks.sel (by exact sB) rfl) fun i hi R hC=>?_
 by_cases hil:i < 5
 ·have e3:0+(i:Int).toNat=i:=by omega
  obtain ⟨p,hp⟩:∃ p,tabA[i]?=some p:=⟨tabA[i]'hil,List.getElem?_eq_getElem hil⟩
  have hrow:(tabA.map row3)[i]?=some (row3 p):=by rw [List.getElem?_map,hp]; rfl
  have hst:stdL[20+i]?=some [(p.1,0,[noM [twoM 1 p.2.1 p.2.2,oneM 3 p.2.1]])]:=by
   have:∀ j,j < 5→∀ q,tabA[j]?=some q→stdL[20+j]?=some [(q.1,0,[noM [twoM 1 q.2.1 q.2.2,oneM 3 q.2.1]])]:=by
    intro j hj q hq
    match j,hj with
    | 0,_=>cases hq; rfl
    | 1,_=>cases hq; rfl
    | 2,_=>cases hq; rfl
    | 3,_=>cases hq; rfl
    | 4,_=>cases hq; rfl
   exact this i hil p hp
  have hj:=addS1 (20+i) (by omega) p.1 0 0 0 0 [twoM 1 p.2.1 p.2.2,oneM 3 p.2.1] 2
  repeat' (first|rw [e3]|(show Wo (.ld _ _); refine T.ldn rfl rfl rfl hrow (Nat.le_of_ble_eq_true rfl) ?_)|rw [rows_renA]|(show Wc; first|refine T.call0 e87 rfl ((two_ok 1 p.2.1 p.2.2)) ?_|refine T.call0 e88 rfl ((one_ok 3 p.2.1)) ?_|refine T.cP [4] e86 ((noP_ok [twoM 1 p.2.1 p.2.2,oneM 3 p.2.1] 2)) ?_|refine T.cP [0,1,5,4] e85 (hj) ?_)|exact ⟨⟩|intro (K:KT) hK|intro hcd|refine go1 ?_ ?_|fail)
  exact hC _ _ (i+1) (by omega) (by omega) (Weaks.gc [0,1,2] 2 rfl (by exact sE) (by rw [show 20+(i+1)=20+i+1 from rfl,mA_succ hst,mB_succ hst]; show [_,_,_]=[_,outB _ [0,1,2] 2 ⟨_,4,(number 0 (memR (20+i))).map inC ++ [_]⟩,_]; rw [outB_in (x:=insN (number 0 (memR (20+i))) p.1 0 ([noM [twoM 1 p.2.1 p.2.2,oneM 3 p.2.1]])) rfl]; rfl))
 ·obtain rfl:i=5:=by omega
  repeat' (first|(show AKW _ _ (.seq (.cond _ _ _) _) _ _ _ _; refine N.now ?_)|exact ⟨⟩|intro (K:KT) hK|intro hcd|refine goW ?_ ?_|fail)
  refine N.weak (fr1:=[(0,.ptr 0 1 0 0)]) (h1:=[mA 25,mB 25]) (Weaks.gc [0,1] 0 rfl ⟨.rfl,trivial⟩ (by show [mA 25,mB 25]=[outB _ [0,1] 0 (mA 25),outB _ _ _ (mB 25)]; rw [outB_mB]; rfl)) (N.now ?_)
  repeat' (first|(show AK _ _ (.seq (.reg (⟨some 31,_,_⟩ :: _) _) _) _ _ _ _; refine N.cut 5 fun K hK=>?_)|(show AKW _ _ (.seq (.reg (⟨some 36,_,_⟩ :: _) _) _) _ _ _ _; refine wA 25 [(0,.ptr 0 1 0 0),(31,.ptr 0 1 0 0),(35,.sl 4 (([noM [twoM 1 3 1]]).map cyC))] ?_)|(show AK _ _ (.seq (.reg (⟨some 37,_,_⟩ :: _) _) _) _ _ _ _; refine N.cut 5 fun K hK=>?_)|(show AKW _ _ (.seq (.reg (⟨some 42,_,_⟩ :: _) _) _) _ _ _ _; refine wA 26 [(0,.ptr 0 1 0 0),(37,.ptr 0 1 0 0),(41,.sl 4 (([noM [oneM 10 1]]).map cyC))] ?_)|(show AKW _ _ (.seq (.reg (⟨some 37,_,_⟩ :: _) _) _) _ _ _ _; refine wB 26 ?_)|(show AK _ _ (.seq (.reg (⟨some 43,_,_⟩ :: _) _) _) _ _ _ _; refine N.cut 5 fun K hK=>?_)|(show AKW _ _ (.seq (.reg (⟨some 48,_,_⟩ :: _) _) _) _ _ _ _; refine wA 27 [(0,.ptr 0 1 0 0),(43,.ptr 0 1 0 0),(47,.sl 4 (([noM [oneM 10 2]]).map cyC))] ?_)|(show AKW _ _ (.seq (.reg (⟨some 43,_,_⟩ :: _) _) _) _ _ _ _; refine wB 27 ?_)|(show AK _ _ (.seq (.reg (⟨some 49,_,_⟩ :: _) _) _) _ _ _ _; refine N.cut 5 fun K hK=>?_)|(show AKW _ _ (.seq (.reg (⟨some 54,_,_⟩ :: _) _) _) _ _ _ _; refine wA 28 [(0,.ptr 0 1 0 0),(49,.ptr 0 1 0 0),(53,.sl 4 (([noM [oneM 11 1]]).map cyC))] ?_)|(show AKW _ _ (.seq (.reg (⟨some 49,_,_⟩ :: _) _) _) _ _ _ _; refine wB 28 ?_)|(show AK _ _ (.seq (.reg (⟨some 55,_,_⟩ :: _) _) _) _ _ _ _; refine N.cut 5 fun K hK=>?_)|(show AKW _ _ (.seq (.reg (⟨some 60,_,_⟩ :: _) _) _) _ _ _ _; refine wA 29 [(0,.ptr 0 1 0 0),(55,.ptr 0 1 0 0),(59,.sl 4 (([noM [oneM 11 2]]).map cyC))] ?_)|(show AKW _ _ (.seq (.reg (⟨some 55,_,_⟩ :: _) _) _) _ _ _ _; refine wB 29 ?_)|(show AK _ _ (.seq (.reg (⟨some 61,_,_⟩ :: _) _) _) _ _ _ _; refine N.cut 5 fun K hK=>?_)|(show AKW _ _ (.seq (.reg (⟨some 66,_,_⟩ :: _) _) _) _ _ _ _; refine wA 30 [(0,.ptr 0 1 0 0),(61,.ptr 0 1 0 0),(65,.sl 4 (([noM [⟨17,0,0,1⟩]]).map cyC))] ?_)|(show AKW _ _ (.seq (.reg (⟨some 61,_,_⟩ :: _) _) _) _ _ _ _; refine wB 30 ?_)|(show AK _ _ (.seq (.reg (⟨some 67,_,_⟩ :: _) _) _) _ _ _ _; refine N.cut 5 fun K hK=>?_)|(show AKW _ _ (.seq (.reg (⟨some 72,_,_⟩ :: _) _) _) _ _ _ _; refine wA 31 [(0,.ptr 0 1 0 0),(67,.ptr 0 1 0 0),(71,.sl 4 (([noM [⟨16,0,0,1⟩]]).map cyC))] ?_)|(show AKW _ _ (.seq (.reg (⟨some 67,_,_⟩ :: _) _) _) _ _ _ _; refine wB 31 ?_)|(show AK _ _ (.seq (.reg (⟨some 73,_,_⟩ :: _) _) _) _ _ _ _; refine N.cut 5 fun K hK=>?_)|(show AKW _ _ (.seq (.reg (⟨some 78,_,_⟩ :: _) _) _) _ _ _ _; refine wA 32 [(0,.ptr 0 1 0 0),(73,.ptr 0 1 0 0),(77,.sl 4 (([noM [⟨17,0,0,4⟩]]).map cyC))] ?_)|(show AKW _ _ (.seq (.reg (⟨some 73,_,_⟩ :: _) _) _) _ _ _ _; refine wB 32 ?_)|(show AK _ _ (.seq (.reg (⟨some 79,_,_⟩ :: _) _) _) _ _ _ _; refine N.cut 5 fun K hK=>?_)|(show AKW _ _ (.seq (.reg (⟨some 84,_,_⟩ :: _) _) _) _ _ _ _; refine wA 33 [(0,.ptr 0 1 0 0),(79,.ptr 0 1 0 0),(83,.sl 4 (([noM [⟨16,0,0,4⟩]]).map cyC))] ?_)|(show AKW _ _ (.seq (.reg (⟨some 79,_,_⟩ :: _) _) _) _ _ _ _; refine wB 33 ?_)|(show AK _ _ (.seq (.reg (⟨some 85,_,_⟩ :: _) _) _) _ _ _ _; refine N.cut 3 fun K hK=>?_)|(show AKW _ _ (.seq (.reg (⟨some 88,_,_⟩ :: _) _) _) _ _ _ _; refine wA 34 [(0,.ptr 0 1 0 0),(85,.ptr 0 1 0 0),(87,.sl 4 (([noM []]).map cyC))] ?_)|(show AKW _ _ (.seq (.reg (⟨some 85,_,_⟩ :: _) _) _) _ _ _ _; refine wB 34 ?_)|(show AK _ _ (.seq (.reg (⟨some 89,_,_⟩ :: _) _) _) _ _ _ _; refine N.cut 3 fun K hK=>?_)|(show AKW _ _ (.seq (.reg (⟨some 92,_,_⟩ :: _) _) _) _ _ _ _; refine wA 35 [(0,.ptr 0 1 0 0),(89,.ptr 0 1 0 0),(91,.sl 4 (([wrM 4 0 []]).map cyC))] ?_)|(show AKW _ _ (.seq (.reg (⟨some 89,_,_⟩ :: _) _) _) _ _ _ _; refine wB 35 ?_)|(show AK _ _ (.seq (.reg (⟨some 93,_,_⟩ :: _) _) _) _ _ _ _; refine N.cut 5 fun K hK=>?_)|(show AKW _ _ (.seq (.reg (⟨some 98,_,_⟩ :: _) _) _) _ _ _ _; refine wA 36 [(0,.ptr 0 1 0 0),(93,.ptr 0 1 0 0),(97,.sl 4 (([rdM 5 0 [oneM 3 0]]).map cyC))] ?_)|(show AKW _ _ (.seq (.reg (⟨some 93,_,_⟩ :: _) _) _) _ _ _ _; refine wB 36 ?_)|(show AK _ _ (.seq (.reg (⟨some 99,_,_⟩ :: _) _) _) _ _ _ _; refine N.cut 3 fun K hK=>?_)|(show AKW _ _ (.seq (.reg (⟨some 102,_,_⟩ :: _) _) _) _ _ _ _; refine wA 37 [(0,.ptr 0 1 0 0),(99,.ptr 0 1 0 0),(101,.sl 4 (([wrM 4 4 []]).map cyC))] ?_)|(show AKW _ _ (.seq (.reg (⟨some 99,_,_⟩ :: _) _) _) _ _ _ _; refine wB 37 ?_)|(show AK _ _ (.reg (⟨some 103,_,_⟩ :: _) _) _ _ _ _; refine N.cutN 3 fun K hK=>?_)|(show AKW _ _ (.reg (⟨some 106,_,_⟩ :: _) _) _ _ _ _; refine wA 38 [(0,.ptr 0 1 0 0),(103,.ptr 0 1 0 0),(105,.sl 4 (([rdM 5 4 []]).map cyC))] ?_)|(show AKW _ _ (.reg (⟨some 103,_,_⟩ :: _) _) _ _ _ _; refine wB 38 ?_)|(show Wc; first|refine T.call0 e87 rfl ((two_ok 1 3 1)) ?_|refine T.cP [2] e86 ((noP_ok [twoM 1 3 1] 1)) ?_ rfl rfl|refine T.cP [0,1] e85 ((addK 25 (by decide) ⟨#[116,120,115]⟩ 0 [noM [twoM 1 3 1]] rfl)) ?_|refine T.call0 e88 rfl ((one_ok 10 1)) ?_|refine T.cP [2] e86 ((noP_ok [oneM 10 1] 1)) ?_ rfl rfl|refine T.cP [0,1] e85 ((addK 26 (by decide) ⟨#[105,110,120]⟩ 0 [noM [oneM 10 1]] rfl)) ?_|refine T.call0 e88 rfl ((one_ok 10 2)) ?_|refine T.cP [2] e86 ((noP_ok [oneM 10 2] 1)) ?_ rfl rfl|refine T.cP [0,1] e85 ((addK 27 (by decide) ⟨#[105,110,121]⟩ 0 [noM [oneM 10 2]] rfl)) ?_|refine T.call0 e88 rfl ((one_ok 11 1)) ?_|refine T.cP [2] e86 ((noP_ok [oneM 11 1] 1)) ?_ rfl rfl|refine T.cP [0,1] e85 ((addK 28 (by decide) ⟨#[100,101,120]⟩ 0 [noM [oneM 11 1]] rfl)) ?_|refine T.call0 e88 rfl ((one_ok 11 2)) ?_|refine T.cP [2] e86 ((noP_ok [oneM 11 2] 1)) ?_ rfl rfl|refine T.cP [0,1] e85 ((addK 29 (by decide) ⟨#[100,101,121]⟩ 0 [noM [oneM 11 2]] rfl)) ?_|refine T.cP [2] e86 ((noP_ok [⟨17,0,0,1⟩] 1)) ?_ rfl rfl|refine T.cP [0,1] e85 ((addK 30 (by decide) ⟨#[99,108,99]⟩ 0 [noM [⟨17,0,0,1⟩]] rfl)) ?_|refine T.cP [2] e86 ((noP_ok [⟨16,0,0,1⟩] 1)) ?_ rfl rfl|refine T.cP [0,1] e85 ((addK 31 (by decide) ⟨#[115,101,99]⟩ 0 [noM [⟨16,0,0,1⟩]] rfl)) ?_|refine T.cP [2] e86 ((noP_ok [⟨17,0,0,4⟩] 1)) ?_ rfl rfl|refine T.cP [0,1] e85 ((addK 32 (by decide) ⟨#[99,108,105]⟩ 0 [noM [⟨17,0,0,4⟩]] rfl)) ?_|refine T.cP [2] e86 ((noP_ok [⟨16,0,0,4⟩] 1)) ?_ rfl rfl|refine T.cP [0,1] e85 ((addK 33 (by decide) ⟨#[115,101,105]⟩ 0 [noM [⟨16,0,0,4⟩]] rfl)) ?_|refine T.call0 e86 rfl noN_ok ?_|refine T.cP [0,1] e85 ((addK 34 (by decide) ⟨#[110,111,112]⟩ 0 [noM []] rfl)) ?_|refine T.call0 e89 rfl ((wrN_ok 4 0)) ?_|refine T.cP [0,1] e85 ((addK 35 (by decide) ⟨#[112,104,97]⟩ 0 [wrM 4 0 []] rfl)) ?_|refine T.call0 e88 rfl ((one_ok 3 0)) ?_|refine T.cP [2] e61 ((rdP_ok 5 0 [oneM 3 0] 1)) ?_ rfl rfl|refine T.cP [0,1] e85 ((addK 36 (by decide) ⟨#[112,108,97]⟩ 0 [rdM 5 0 [oneM 3 0]] rfl)) ?_|refine T.call0 e89 rfl ((wrN_ok 4 4)) ?_|refine T.cP [0,1] e85 ((addK 37 (by decide) ⟨#[112,104,112]⟩ 0 [wrM 4 4 []] rfl)) ?_|refine T.call0 e61 rfl ((rdN_ok 5 4)) ?_|refine T.cP [0,1] e85 ((addK 38 (by decide) ⟨#[112,108,112]⟩ 0 [rdM 5 4 []] rfl)) ?_)|exact ⟨⟩|intro (K:KT) hK|intro hcd|refine go1 ?_ ?_|fail)
  exact WS.gc [0,1] 0 rfl (by show [mA 39,mB 39]=[outB _ [0,1] 0 (renB [0,1] (mA 39)),outB _ _ _ (renB _ (mB 39))]; rw [renB_mB,outB_mB]; rfl) .rfl
theorem ways_ok:FnE Try.prog 60 [.ptr 0 1 0 0] [mA 39,mB 39] (.tup []) [mA 49,mB 49]:=by
 refine N.fnC Try.func60 k60 fun Q hQ hQN=>?_
 repeat' (first|(show AK _ _ (.seq (.reg (⟨some 4,_,_⟩ :: _) _) _) _ _ _ _; refine N.cut 5 fun K hK=>?_)|(show AKW _ _ (.seq (.reg (⟨some 9,_,_⟩ :: _) _) _) _ _ _ _; refine wA 39 [(0,.ptr 0 1 0 0),(4,.ptr 0 1 0 0),(8,.sl 4 (([rdM 0 5 [],rdM 0 6 (jumpM 7)]).map cyC))] ?_)|(show AK _ _ (.seq (.reg (⟨some 10,_,_⟩ :: _) _) _) _ _ _ _; refine N.cut 15 fun K hK=>?_)|(show AKW _ _ (.seq (.reg (⟨some 25,_,_⟩ :: _) _) _) _ _ _ _; refine wA 40 [(0,.ptr 0 1 0 0),(10,.ptr 0 1 0 0),(24,.sl 4 (([rdM 0 5 [twoM 18 8 5],rdM 0 5 [twoM 19 8 5,twoM 21 5 7],wrM 4 5 [twoM 20 5 7],wrM 4 5 [twoM 1 7 8]]).map cyC))] ?_)|(show AKW _ _ (.seq (.reg (⟨some 10,_,_⟩ :: _) _) _) _ _ _ _; refine wB 40 ?_)|(show AK _ _ (.seq (.reg (⟨some 26,_,_⟩ :: _) _) _) _ _ _ _; refine N.cut 5 fun K hK=>?_)|(show AKW _ _ (.seq (.reg (⟨some 31,_,_⟩ :: _) _) _) _ _ _ _; refine wA 41 [(0,.ptr 0 1 0 0),(26,.ptr 0 1 0 0),(30,.sl 4 (([rdM 5 5 [],rdM 5 6 (jumpM 7)]).map cyC))] ?_)|(show AKW _ _ (.seq (.reg (⟨some 26,_,_⟩ :: _) _) _) _ _ _ _; refine wB 41 ?_)|(show AK _ _ (.seq (.reg (⟨some 32,_,_⟩ :: _) _) _) _ _ _ _; refine N.cut 6 fun K hK=>?_)|(show AKW _ _ (.seq (.reg (⟨some 38,_,_⟩ :: _) _) _) _ _ _ _; refine wA 42 [(0,.ptr 0 1 0 0),(32,.ptr 0 1 0 0),(37,.sl 4 (([rdM 5 4 [],rdM 5 5 [],rdM 5 6 (jumpM 7)]).map cyC))] ?_)|(show AKW _ _ (.seq (.reg (⟨some 32,_,_⟩ :: _) _) _) _ _ _ _; refine wB 42 ?_)|(show Wc; first|refine T.call0 e61 rfl ((rdN_ok 5 5)) ?_|refine T.call0 e61 rfl ((rdN_ok 0 5)) ?_|refine T.call0 e61 rfl ((rdN_ok 5 4)) ?_|refine T.callN e62 rfl ((jump_ok 7)) (by simp) ?_|refine T.cP [2] e61 ((rdP_ok 0 6 (jumpM 7) 2)) ?_ rfl rfl|refine T.cP [0,1] e85 ((addK 39 (by decide) ⟨#[106,109,112]⟩ 4 [rdM 0 5 [],rdM 0 6 (jumpM 7)] rfl)) ?_|refine T.call0 e87 rfl ((two_ok 18 8 5)) ?_|refine T.call0 e87 rfl ((two_ok 19 8 5)) ?_|refine T.call0 e87 rfl ((two_ok 21 5 7)) ?_|refine T.call0 e87 rfl ((two_ok 20 5 7)) ?_|refine T.call0 e87 rfl ((two_ok 1 7 8)) ?_|refine T.cP [2] e61 ((rdP_ok 0 5 [twoM 18 8 5] 1)) ?_ rfl rfl|refine T.cP [3] e61 ((rdP_ok 0 5 [twoM 19 8 5,twoM 21 5 7] 2)) ?_ rfl rfl|refine T.cP [4] e89 ((wrP_ok 4 5 [twoM 20 5 7] 1)) ?_ rfl rfl|refine T.cP [5] e89 ((wrP_ok 4 5 [twoM 1 7 8] 1)) ?_ rfl rfl|refine T.cP [0,1] e85 ((addK 40 (by decide) ⟨#[106,115,114]⟩ 4 [rdM 0 5 [twoM 18 8 5],rdM 0 5 [twoM 19 8 5,twoM 21 5 7],wrM 4 5 [twoM 20 5 7],wrM 4 5 [twoM 1 7 8]] rfl)) ?_|refine T.cP [2] e61 ((rdP_ok 5 6 (jumpM 7) 2)) ?_ rfl rfl|refine T.cP [0,1] e85 ((addK 41 (by decide) ⟨#[114,116,115]⟩ 0 [rdM 5 5 [],rdM 5 6 (jumpM 7)] rfl)) ?_|refine T.cP [0,1] e85 ((addK 42 (by decide) ⟨#[114,116,105]⟩ 0 [rdM 5 4 [],rdM 5 5 [],rdM 5 6 (jumpM 7)] rfl)) ?_)|exact ⟨⟩|intro (K:KT) hK|intro hcd|refine goW ?_ ?_|fail)
 refine wB 43 ?_
 repeat' (first|exact ⟨⟩|intro (K:KT) hK|intro hcd|refine goW ?_ ?_|fail)
 refine N.weak (fr1:=[(0,.ptr 0 1 0 0),(45,.psl 2 1 0 6),(46,I 6),(47,I 0)]) (h1:=[mA 43,mB 43,⟨1,3,tabW.map row3⟩]) (Weaks.sel (by exact sB) rfl) (N.now ?_)
 repeat' (first|exact ⟨⟩|intro (K:KT) hK|intro hcd|refine goW ?_ ?_|fail)
 refine N.loop (σ:=Nat) (fun i=>[(0,.ptr 0 1 0 0),(45,.psl 2 1 0 6),(46,I 6),(47,I i)]) (fun i=>[mA (43+i),mB (43+i),⟨1,3,tabW.map row3⟩]) (fun i=>i≤6) (fun i=>6 - i) 0 (by omega) (Weaks.sel (by exact sB) rfl) fun i hi R hC=>?_
 by_cases hil:i < 6
 ·have e3:0+(i:Int).toNat=i:=by omega
  obtain ⟨p,hp⟩:∃ p,tabW[i]?=some p:=⟨tabW[i]'hil,List.getElem?_eq_getElem hil⟩
  have hrow:(tabW.map row3)[i]?=some (row3 p):=by rw [List.getElem?_map,hp]; rfl
  have hst:stdL[43+i]?=some [(p.1,7,[rdM 0 5 [⟨24,0,p.2.2,p.2.1⟩],noM [twoM 23 7 5]])]:=by
   have:∀ j,j < 6→∀ q,tabW[j]?=some q→stdL[43+j]?=some [(q.1,7,[rdM 0 5 [⟨24,0,q.2.2,q.2.1⟩],noM [twoM 23 7 5]])]:=by
    intro j hj q hq
    match j,hj with
    | 0,_=>cases hq; rfl
    | 1,_=>cases hq; rfl
    | 2,_=>cases hq; rfl
    | 3,_=>cases hq; rfl
    | 4,_=>cases hq; rfl
    | 5,_=>cases hq; rfl
   exact this i hil p hp
  have hj:=addS2 (43+i) (by omega) p.1 7 1 0 5 0 0 0 [⟨24,0,p.2.2,p.2.1⟩] [twoM 23 7 5] 1 1
  repeat' (first|rw [e3]|(show Wo (.ld _ _); refine T.ldn rfl rfl rfl hrow (Nat.le_of_ble_eq_true rfl) ?_)|rw [rows_renA]|(show Wc; first|refine T.cP [4] e61 ((rdP_ok 0 5 [⟨24,0,p.2.2,p.2.1⟩] 1)) ?_|refine T.call0 e87 rfl ((two_ok 23 7 5)) ?_|refine T.cP [5] e86 ((noP_ok [twoM 23 7 5] 1)) ?_|refine T.cP [0,1,6,4,5] e85 (hj) ?_)|exact ⟨⟩|intro (K:KT) hK|intro hcd|refine go1 ?_ ?_|fail)
  exact hC _ _ (i+1) (by omega) (by omega) (Weaks.gc [0,1,2] 2 rfl (by exact sE) (by rw [show 43+(i+1)=43+i+1 from rfl,mA_succ hst,mB_succ hst]; show [_,_,_]=[_,outB _ [0,1,2] 2 ⟨_,4,(number 0 (memR (43+i))).map inC ++ [_]⟩,_]; rw [outB_in (x:=insN (number 0 (memR (43+i))) p.1 7 ([rdM 0 5 [⟨24,0,p.2.2,p.2.1⟩],noM [twoM 23 7 5]])) rfl]; rfl))
 ·obtain rfl:i=6:=by omega
  repeat' (first|exact ⟨⟩|intro (K:KT) hK|intro hcd|refine go1 ?_ ?_|fail)
  exact WS.gc [0,1] 0 rfl (by show [mA 49,mB 49]=[outB _ [0,1] 0 (mA 49),outB _ _ _ (mB 49)]; rw [outB_mB]; rfl) .rfl
theorem answers_ok (lo hi:Int):FnE Try.prog 63 [I lo,I hi] [] (.sl 4 ((answersM lo hi).map cyC)) []:=by
 refine N.fnC Try.func63 k63 fun Q hQ hQN=>?_
 repeat' (first|(show Wc; first|refine T.call0 e87 rfl ((two_ok 21 5 7)) ?_|refine T.call0 e87 rfl ((two_ok 20 5 7)) ?_|refine T.cP [0] e86 ((noP_ok [twoM 21 5 7] 1)) ?_|refine T.cP [1] e89 ((wrP_ok 4 5 [twoM 20 5 7] 1)) ?_|refine T.call0 e89 rfl ((wrN_ok 4 5)) ?_|refine T.cP [2] e89 ((wrP_ok 4 4 [⟨16,0,0,4⟩] 1)) ?_|refine T.call0 e61 rfl ((rdN_ok lo 5)) ?_|refine T.callN e62 rfl ((jump_ok 7)) (by simp) ?_|refine T.cP [3] e61 ((rdP_ok hi 6 (jumpM 7) 2)) ?_)|exact ⟨⟩|intro (K:KT) hK|intro hcd|refine go1 ?_ ?_|fail)
 exact WS.drop (n:=2) rfl rfl
def resM:List Cyc:=[rdM 10 5 [],rdM 11 6 [twoM 18 7 5,twoM 19 7 6,⟨2,3,0,255⟩]]
theorem stdCpu_ok:FnE Try.prog 37 [] [] (.agg (cpC stdM)) []:=by
 refine N.fnC Try.func37 k37 fun Q hQ hQN=>?_
 repeat' (first|(show AKW _ _ (.seq (.reg (⟨some 3,_,_⟩ :: _) _) _) _ _ _ _; refine N.now ?_)|(show AKW _ _ (.seq (.reg (⟨some 5,_,_⟩ :: _) _) _) _ _ _ _; refine N.now ?_)|simp only [renB_mB]|refine T.cP [1] e58 (memory_ok) ?_|exact ⟨⟩|intro (K:KT) hK|intro hcd|refine goW ?_ ?_|fail)
 refine N.weak (fr1:=[(0,.ptr 0 1 0 0),(1,.ptr 1 1 0 0)]) (h1:=[_,mkA 2 (number 0 (memR 20)),mB 20]) (Weaks.sel ⟨.rfl,.rfl,trivial⟩ (by show [_,_,_]=[_,renB [1,2] (mA 20),renB [1,2] (mB 20)]; rw [renB_mB]; rfl)) (N.now ?_)
 repeat' (first|simp only [renB_mB]|refine T.cP [1,2] e59 (alone_ok) ?_|exact ⟨⟩|intro (K:KT) hK|intro hcd|refine goW ?_ ?_|fail)
 refine N.weak (fr1:=[(0,.ptr 0 1 0 0),(1,.ptr 1 1 0 0)]) (h1:=[_,mkA 2 (number 0 (memR 39)),mB 39]) (Weaks.sel ⟨.rfl,.rfl,trivial⟩ (by show [_,_,_]=[_,renB [1,2] (mA 39),renB [1,2] (mB 39)]; rw [renB_mB]; rfl)) (N.now ?_)
 repeat' (first|simp only [renB_mB]|refine T.cP [1,2] e60 (ways_ok) ?_|exact ⟨⟩|intro (K:KT) hK|intro hcd|refine goW ?_ ?_|fail)
 refine N.weak (fr1:=[(0,.ptr 0 1 0 0),(1,.ptr 1 1 0 0)]) (h1:=[_,mkA 2 (number 0 (memR 49)),mB 49]) (Weaks.sel ⟨.rfl,.rfl,trivial⟩ (by show [_,_,_]=[_,renB [1,2] (mA 49),renB [1,2] (mB 49)]; rw [renB_mB]; rfl)) (N.now ?_)
 repeat' (first|(show Wo (.app _ _ _ _); refine T.app rfl rfl rfl ⟨by decide,by decide⟩ ⟨rfl,rfl,rfl,by decide⟩ ?_)|(show Wc; first|refine T.call0 e61 rfl ((rdN_ok 10 5)) ?_|refine T.callN e62 rfl ((jump_ok 7)) (by simp) ?_|refine T.cP [3] e61 ((rdQ_ok 11 6 [twoM 18 7 5,twoM 19 7 6,⟨2,3,0,255⟩] 3)) ?_)|exact ⟨⟩|intro (K:KT) hK|intro hcd|refine goW ?_ ?_|fail)
 refine N.weak (fr1:=[(0,.ptr 0 1 0 0),(1,.ptr 1 1 0 0),(2,.sl 4 (resM.map cyC))]) (h1:=[⟨1,5,[[.c (.string ⟨#[]⟩),.c (.slice none 0 0),.c (.slice none 0 0),.c (.slice none 0 0),.c (.slice none 0 0)]]⟩,⟨1,1,[[.sl 4 ((number 0 (memR 49)).map inC)]]⟩]) (Weaks.gc [0,1] 2 rfl ⟨.rfl,.rfl,.rfl,trivial⟩ ?_) (N.now ?_)
 ·show [_,_]=[_,(⟨1,1,[[out _ [0,1] 2 (.psl 2 (number 0 (memR 49)).length 0 (number 0 (memR 49)).length)]]⟩:Blk)]
  rw [out_rowsK (f:=inC) (l:=number 0 (memR 49)) rfl rfl (Nat.le_refl _)]; rfl
 repeat' (first|(show Wc; first|refine T.call0 e63 rfl ((answers_ok 6 7)) ?_|refine T.call0 e63 rfl ((answers_ok 8 9)) ?_)|exact ⟨⟩|intro (K:KT) hK|intro hcd|refine go1 ?_ ?_|fail)
 exact WS.drop (n:=0) rfl rfl
def Bytes (m:List Int):Prop:=∀ i,0≤m.getD i 0∧m.getD i 0 < 256
abbrev memB (m:List Int):Blk:=⟨1,1,bcells m⟩
theorem wrap_u8 (n:Int) (h:0≤n∧n < 256):IntKind.wrap .u8 n=n:=by
 simp only [IntKind.wrap,IntKind.signed,IntKind.bits]
 simp
 try omega
def bytesN (l:List Int) (n i:Nat):List Int:=(List.range n).map fun j=>if j < i then l.getD j 0 % 256 else 0
def bytesOf (l:List Int) (n:Nat):List Int:=(List.range n).map fun j=>l.getD j 0 % 256
theorem bytesN_all (l:List Int) (n:Nat):bytesN l n n=bytesOf l n:=by
 unfold bytesN bytesOf
 apply List.map_congr_left
 intro j hj
 rw [if_pos (by simpa using hj)]
theorem bytesN_zero (l:List Int) (n:Nat):bytesN l n 0=List.replicate n 0:=by
 apply List.ext_getElem?
 intro j
 simp only [bytesN,List.getElem?_map,List.getElem?_replicate,Nat.not_lt_zero,if_false]
 by_cases hj:j < n
 ·rw [if_pos hj,List.getElem?_range hj]; rfl
 ·rw [if_neg hj,List.getElem?_eq_none (by simp; omega)]; rfl
theorem bytesN_len (l:List Int) (n i:Nat):(bytesN l n i).length=n:=by simp [bytesN]
theorem bytesOf_len (l:List Int) (n:Nat):(bytesOf l n).length=n:=by simp [bytesOf]
theorem bytesN_set (l:List Int) (n i:Nat) (hi:i < n):(bytesN l n i).set i (l.getD i 0 % 256)=bytesN l n (i+1):=by
 apply List.ext_getElem?
 intro j
 simp only [bytesN]
 by_cases hij:i=j
 ·subst hij
  rw [List.getElem?_set_self (by simpa using hi),List.getElem?_map,List.getElem?_range hi]
  simp
 ·rw [List.getElem?_set_ne hij,List.getElem?_map,List.getElem?_map]
  by_cases hj:j < n
  ·rw [List.getElem?_range hj]
   simp only [Option.map_some]
   by_cases h2:j < i
   ·rw [if_pos h2,if_pos (by omega)]
   ·rw [if_neg h2,if_neg (by omega)]
  ·rw [List.getElem?_eq_none (by simp; omega)]; rfl
theorem bytesOf_bytes (l:List Int) (n:Nat):Bytes (bytesOf l n):=by
 intro i
 simp only [bytesOf,List.getD_eq_getElem?_getD,List.getElem?_map]
 by_cases hi:i < n
 ·rw [List.getElem?_range hi]
  simp only [Option.map_some,Option.getD_some]
  omega
 ·rw [List.getElem?_eq_none (by simp; omega)]
  simp
theorem sval_drop (l:List Int) (i:Nat) (n:Int) (hn:0 < n):sval (l.drop i) n=l.getD i 0 % n:=by
 unfold sval
 rw [if_neg (by omega),List.getD_eq_getElem?_getD]
 by_cases hi:i < l.length
 ·rw [List.drop_eq_getElem_cons hi,List.getElem?_eq_getElem hi]; rfl
 ·rw [List.drop_eq_nil_of_le (by omega),List.getElem?_eq_none (by omega)]; simp
theorem srest_drop (l:List Int) (i:Nat) (n:Int) (hn:0 < n):srest (l.drop i) n=l.drop (i+1):=by
 unfold srest
 rw [if_neg (by omega),List.tail_drop]
theorem repl_bcells (n:Nat):List.replicate n [V.c (.int .u8 0)]=bcells (List.replicate n 0):=by simp [bcells]
theorem bytes_ok (l:List Int) (n:Nat) (hn:n≤1099511627776):FnE Try.prog 38 [.sl 1 (cells l),I n] [] (.psl 0 1 0 n) [memB (bytesOf l n)]:=by
 refine N.fnC Try.func38 k38 fun Q hQ hQN=>?_
 have e0:(max (0:Int) n).toNat=n:=by omega
 repeat' (first|(show Wo (.mksl _ _ _ _); refine T.mksl rfl rfl ⟨by decide,by decide,by omega,by omega,by omega⟩ ?_)|rw [e0]|exact ⟨⟩|intro (K:KT) hK|intro hcd|refine go1 ?_ ?_|fail)
 rw [repl_bcells]
 refine N.loop (σ:=Nat) (fun i=>[(5,.ptr 0 1 0 0),(6,.psl 1 1 0 n),(15,I n),(16,I i)]) (fun i=>[strB (l.drop i),memB (bytesN l n i)]) (fun i=>i≤n) (fun i=>n - i) 0 (Nat.zero_le _) (Weaks.sel (by exact sB) (by rw [bytesN_zero]; rfl)) fun i hi C hC=>?_
 have hx:=next_ok (l.drop i) 256 (by decide)
 rw [sval_drop l i 256 (by decide),srest_drop l i 256 (by decide)] at hx
 have hw:IntKind.wrap .u8 (l.getD i 0 % 256)=l.getD i 0 % 256:=wrap_u8 _ (by omega)
 by_cases hin:i < n
 ·have hg:(bcells (bytesN l n i))[0+((i:Int)).toNat]?=some [.c (.int .u8 ((bytesN l n i).getD i 0))]:=by
   rw [Nat.zero_add,Int.toNat_natCast]; exact bget (by rw [bytesN_len]; exact hin)
  have hset:(bcells (bytesN l n i)).set ((i:Int)).toNat (spl [.c (.int .u8 ((bytesN l n i).getD i 0))] 0 [.c (.int .u8 (l.getD i 0 % 256))])=bcells (bytesN l n (i+1)):=by
   rw [Int.toNat_natCast,← bytesN_set l n i hin]; exact bcells_set _ _ _
  repeat' (first|rw [hw]|(show Wo (.st _ _ _); refine T.st rfl rfl rfl ⟨rfl,rfl⟩ hg (Nat.le_of_ble_eq_true rfl) ?_)|rw [hset]|refine T.call1 0 e28 rfl rfl (hx) ?_|exact ⟨⟩|intro (K:KT) hK|intro hcd|refine go1 ?_ ?_|fail)
  exact hC _ _ (i+1) (by omega) (by omega) (Weaks.sel (by exact sB) rfl)
 ·obtain rfl:i=n:=by omega
  rw [bytesN_all]
  repeat' (first|exact ⟨⟩|intro (K:KT) hK|intro hcd|refine go1 ?_ ?_|fail)
  exact WS.gc [1] 1 rfl (by simp [outH,outB,bcells_out]) .rfl
theorem gotM_at (p:Ins→Bool) (l:List Ins) (i:Nat) (hi:i < l.length) (h:∀ j,j < i→∀ hj:j < l.length,p l[j]=false) (hp:p l[i]=true):gotM p l=(l[i],true):=by
 unfold gotM
 rw [show l.findIdx? p=some i from List.findIdx?_eq_some_iff_getElem.2 ⟨hi,hp,fun j hj=>by rw [h j hj (by omega)]; decide⟩]
 simp [hi]
theorem gotM_none (p:Ins→Bool) (l:List Ins) (h:∀ j,∀ hj:j < l.length,p l[j]=false):gotM p l=(insZ,false):=by
 unfold gotM
 rw [show l.findIdx? p=none from List.findIdx?_eq_none_iff.2 fun x hx=>by obtain ⟨j,hj,rfl⟩:=List.getElem_of_mem hx; exact h j hj]
theorem stdM_ops:stdM.ins.length=92∧(∀ x ∈ stdM.ins,0≤x.op∧x.op < 256)∧∀ x ∈ stdM.ins,0≤x.mode∧x.mode < 9:=by
 have h:(stdM.ins.length == 92 && stdM.ins.all (fun x=>decide (0≤x.op∧x.op < 256)) && stdM.ins.all (fun x=>decide (0≤x.mode∧x.mode < 9)))=true:=by decide +kernel
 rw [Bool.and_eq_true,Bool.and_eq_true] at h
 refine ⟨by simpa using h.1.1,fun x hx=>?_,fun x hx=>?_⟩
 ·simpa using List.all_eq_true.1 h.1.2 x hx
 ·simpa using List.all_eq_true.1 h.2 x hx
def opV (s:ByteArray) (m:Int):Int:=(gotM (fun x=>decide (x.name=s∧x.mode=m)) stdM.ins).1.op
theorem opV_range (s:ByteArray) (m:Int):0≤opV s m∧opV s m < 256:=by
 obtain ⟨h1,h2,_⟩:=stdM_ops
 unfold opV gotM
 split
 ·rename_i i hi
  have hl:=(List.findIdx?_eq_some_iff_getElem.1 hi).1
  dsimp only
  rw [show stdM.ins.getD i insZ=stdM.ins[i] by simp [hl]]
  exact h2 _ (List.getElem_mem hl)
 ·exact ⟨by decide,by decide⟩
theorem op_ok (s:ByteArray) (m:Int):FnE Try.prog 66 [.c (.string s),I m] [] (.c (.int .u8 (opV s m))) []:=by
 have hcpu:=stdCpu_ok
 obtain ⟨hl,hop,_⟩:=stdM_ops
 have hr:=opV_range s m
 unfold opV at hr ⊢
 generalize hg:gotM (fun x=>decide (x.name=s∧x.mode=m)) stdM.ins=g at *
 generalize stdM=c at *
 obtain ⟨nm,ins,r1,r2,r3⟩:=c
 dsimp only at hl hop hg
 refine N.fnC Try.func66 k66 fun Q hQ hQN=>?_
 repeat' (first|rw [List.length_map]|refine T.call0 e37 rfl hcpu ?_|exact ⟨⟩|intro (K:KT) hK|intro hcd|refine go1 ?_ ?_|fail)
 refine N.loop (σ:=Nat) (fun i=>[(0,.c (.string s)),(1,I m),(8,.sl 4 (ins.map inC)),(9,I ins.length),(10,I i)]) (fun i=>[]) (fun i=>i≤ins.length∧∀ j,j < i→∀ hj:j < ins.length,decide (ins[j].name=s∧ins[j].mode=m)=false) (fun i=>ins.length - i) 0 ⟨by omega,fun j hj=>absurd hj (by omega)⟩ (Weaks.sel (by exact sB) rfl) fun i hi R hC=>?_
 obtain ⟨hi,hn⟩:=hi
 by_cases hil:i < ins.length
 ·have hm:=mget inC ins i hil
  have hop:=hop _ (List.getElem_mem hil)
  have hgt:decide (ins[i].name=s∧ins[i].mode=m)=true→g=(ins[i],true):=fun h=>by rw [← hg]; exact gotM_at _ ins i hil hn h
  have hgf:decide (ins[i].name=s∧ins[i].mode=m)=false→∀ j,j < i+1→∀ hj:j < ins.length,decide (ins[j].name=s∧ins[j].mode=m)=false:=fun h j hj hjl=>by
   by_cases hji:j=i
   ·subst hji; exact h
   ·exact hn j (by omega) hjl
  generalize ins[i]=w at *
  obtain ⟨o,t,q,cy⟩:=w
  dsimp only at hm hop hgt hgf
  have hw:=wrap_u8 o hop
  repeat' (first|refine rI hm ?_|rw [hw]|exact ⟨⟩|intro (K:KT) hK|intro hcd|refine go1 ?_ ?_|fail)
  all_goals first|(exfalso; omega)|(rw [hgt (decide_eq_true ⟨by assumption,by assumption⟩)]; exact WS.c rfl rfl)|exact hC _ _ (i+1) ⟨by omega,hgf (decide_eq_false (by simp [*]))⟩ (by omega) (by exact .G [] 1)
 ·obtain rfl:i=ins.length:=by omega
  rw [gotM_none _ ins fun j hj=>hn j hj hj] at hg
  subst hg
  repeat' (first|exact ⟨⟩|intro (K:KT) hK|intro hcd|refine go1 ?_ ?_|fail)
  exact WS.c rfl rfl
def namV (s:ByteArray):Int:=max (opV s 0) (opV s 4)
theorem namV_range (s:ByteArray):0≤namV s∧namV s < 256:=by
 have h1:=opV_range s 0
 have h2:=opV_range s 4
 unfold namV; omega
theorem named_m (s:ByteArray):FnE Try.prog 65 [.c (.string s)] [] (.c (.int .u8 (namV s))) []:=by
 have h1:=op_ok s 0
 have h2:=op_ok s 4
 unfold namV
 refine N.fnC Try.func65 k65 fun Q hQ hQN=>?_
 repeat' (first|(show Wc; first|refine T.call0 e66 rfl h1 ?_|refine T.call0 e66 rfl h2 ?_)|exact ⟨⟩|intro (K:KT) hK|intro hcd|refine go1 ?_ ?_|fail)
 exact WS.c rfl rfl
theorem wrapB (n:Int):0≤IntKind.wrap .u8 n∧IntKind.wrap .u8 n < 256:=by
 simp only [IntKind.wrap,IntKind.signed,IntKind.bits]
 simp
 try omega
theorem Bytes.nil:Bytes []:=fun i=>⟨Int.le_refl 0,by show (0:Int) < 256; decide⟩
theorem Bytes.cons {m:List Int} {v:Int} (h:Bytes m) (hv:0≤v∧v < 256):Bytes (v :: m):=by
 intro i
 cases i with
 | zero=>exact hv
 | succ i=>exact h i
theorem Bytes.append {m n:List Int} (h:Bytes m) (k:Bytes n):Bytes (m ++ n):=by
 intro i
 rw [List.getD_eq_getElem?_getD]
 by_cases hi:i < m.length
 ·rw [List.getElem?_append_left hi,← List.getD_eq_getElem?_getD]; exact h i
 ·rw [List.getElem?_append_right (by omega),← List.getD_eq_getElem?_getD]; exact k _
theorem srest_le (l:List Int) (n:Int):(srest l n).length≤l.length:=by
 unfold srest; split
 ·exact Nat.le_refl _
 ·rw [List.length_tail]; omega
theorem WS.byte1 {k:Nat} {h:List Blk} {h':List Blk} {x y:Blk} (v:Int) (h0:h=[x,y,⟨1,1,[[.c (.int .u8 v)]]⟩]) (he:h'=[outB h [0] 1 x]) (hk:k=1):WeakS k (.psl 2 1 0 1) h (.sl 1 (bcells [v])) h':=by
 subst h0; subst he; subst hk
 exact WS.gc [0] 1 rfl rfl (by rw [out_bytesK (m:=[v]) (len:=1) rfl rfl (Nat.le_refl _)]; exact .rfl)
theorem WS.byte2 {k:Nat} {h:List Blk} {h':List Blk} {x y:Blk} (v w:Int) (h0:h=[x,y,⟨1,1,[[.c (.int .u8 v)],[.c (.int .u8 w)]]⟩]) (he:h'=[outB h [0] 1 x]) (hk:k=1):WeakS k (.psl 2 1 0 2) h (.sl 1 (bcells [v,w])) h':=by
 subst h0; subst he; subst hk
 exact WS.gc [0] 1 rfl rfl (by rw [out_bytesK (m:=[v,w]) (len:=2) rfl rfl (Nat.le_refl _)]; exact .rfl)
theorem operand_ex (x:Ins) (hm:0≤x.mode∧x.mode < 9) (l:List Int):∃ p:List Int×List Int,p.1.length≤2∧Bytes p.1∧p.2.length≤l.length∧FnE Try.prog 90 [.ptr 0 1 0 0,.agg (inC x)] [strB l] (.sl 1 (bcells p.1)) [strB p.2]:=by
 obtain ⟨o,s,m,cy⟩:=x
 dsimp only at hm
 have b1:∀ v,Bytes [IntKind.wrap .u8 v]:=fun v=>Bytes.nil.cons (wrapB v)
 have b2:∀ v w,Bytes [IntKind.wrap .u8 v,IntKind.wrap .u8 w]:=fun v w=>(b1 w).cons (wrapB v)
 have n1:=next_ok l 256 (by decide)
 have n2:=next_ok l 16 (by decide)
 have n3:=next_ok l 8 (by decide)
 have n4:=next_ok l 48 (by decide)
 have r4:=sval_range l 48 (by decide)
 have r3:=sval_range l 8 (by decide)
 have len:∀ n:Int,(srest l n).length≤l.length:=fun n=>srest_le l n
 have len2:∀ n q:Int,(srest (srest l n) q).length≤l.length:=fun n q=>Nat.le_trans (srest_le _ q) (srest_le l n)
 have len3:∀ n q t:Int,(srest (srest (srest l n) q) t).length≤l.length:=fun n q t=>Nat.le_trans (srest_le _ t) (len2 n q)
 obtain rfl|rfl|h|rfl|h:m=0∨m=1∨(m=2∨m=3∨m=8)∨m=7∨(m=4∨m=5∨m=6):=by omega
 ·refine ⟨([],l),lb,Bytes.nil,Nat.le_refl _,?_⟩
  refine N.fnC Try.func90 k90 fun Q hQ hQN=>?_
  repeat' (first|exact ⟨⟩|intro (K:KT) hK|intro hcd|refine go1 ?_ ?_|fail)
  exact WS.gc [0] 1 rfl rfl .nil
 ·refine ⟨([IntKind.wrap .u8 (sval l 256)],srest l 256),lb,b1 _,len 256,?_⟩
  refine N.fnC Try.func90 k90 fun Q hQ hQN=>?_
  repeat' (first|refine T.call1 0 e28 rfl rfl (n1) ?_|exact ⟨⟩|intro (K:KT) hK|intro hcd|refine go1 ?_ ?_|fail)
  exact WS.byte1 _ rfl rfl rfl
 ·refine ⟨([IntKind.wrap .u8 (sval l 16)],srest l 16),lb,b1 _,len 16,?_⟩
  rcases h with rfl|rfl|rfl
  all_goals
   refine N.fnC Try.func90 k90 fun Q hQ hQN=>?_
   repeat' (first|refine T.call1 0 e28 rfl rfl (n2) ?_|exact ⟨⟩|intro (K:KT) hK|intro hcd|refine go1 ?_ ?_|fail)
   exact WS.byte1 _ rfl rfl rfl
 ·refine ⟨([IntKind.wrap .u8 (sval l 8 - 3)],srest l 8),lb,b1 _,len 8,?_⟩
  refine N.fnC Try.func90 k90 fun Q hQ hQN=>?_
  repeat' (first|refine T.call1 0 e28 rfl rfl (n3) ?_|exact ⟨⟩|intro (K:KT) hK|intro hcd|refine go1 ?_ ?_|fail)
  exact WS.byte1 _ rfl rfl rfl
 ·have n5:=next_ok (srest l 48) 64 (by decide)
  have r5:=sval_range (srest l 48) 64 (by decide)
  have n6:=next_ok (srest l 48) 3 (by decide)
  have n7:=next_ok (srest (srest l 48) 3) 64 (by decide)
  have r7:=sval_range (srest (srest l 48) 3) 64 (by decide)
  by_cases hj:s=⟨#[106,109,112]⟩∨s=⟨#[106,115,114]⟩
  ·refine ⟨([IntKind.wrap .u8 (65280+sval (srest l 48) 64),IntKind.wrap .u8 ((65280+sval (srest l 48) 64) / 256)],srest (srest l 48) 64),lb,b2 _ _,len2 48 64,?_⟩
   have e:∀ v:Int,v / 2 ^ min (Int.toNat 8) IntKind.i64.bits=v / 256:=fun _=>rfl
   rcases h with rfl|rfl|rfl <;> rcases hj with rfl|rfl
   all_goals
    refine N.fnC Try.func90 k90 fun Q hQ hQN=>?_
    repeat' (first|rw [e]|(show Wc; first|refine T.call1 0 e28 rfl rfl (n4) ?_|refine T.call1 0 e28 rfl rfl (n5) ?_)|exact ⟨⟩|intro (K:KT) hK|intro hcd|refine go1 ?_ ?_|fail)
    exact WS.byte2 _ _ rfl rfl rfl
  ·have e:∀ v:Int,v / 2 ^ min (Int.toNat 8) IntKind.i64.bits=v / 256:=fun _=>rfl
   have h1:decide (s=⟨#[106,109,112]⟩)=false:=decide_eq_false fun h=>hj (.inl h)
   have h2:decide (s=⟨#[106,115,114]⟩)=false:=decide_eq_false fun h=>hj (.inr h)
   by_cases hz:sval (srest l 48) 3=0
   ·refine ⟨([IntKind.wrap .u8 (512+sval (srest (srest l 48) 3) 64),IntKind.wrap .u8 ((512+sval (srest (srest l 48) 3) 64) / 256)],srest (srest (srest l 48) 3) 64),lb,b2 _ _,len3 48 3 64,?_⟩
    rcases h with rfl|rfl|rfl
    all_goals
     refine N.fnC Try.func90 k90 fun Q hQ hQN=>?_
     repeat' (first|rw [e]|rw [h1]|rw [h2]|(show Wc; first|refine T.call1 0 e28 rfl rfl (n4) ?_|refine T.call1 0 e28 rfl rfl (n6) ?_|refine T.call1 0 e28 rfl rfl (n7) ?_)|exact ⟨⟩|intro (K:KT) hK|intro hcd|refine go1 ?_ ?_|fail)
     exact WS.byte2 _ _ rfl rfl rfl
   ·refine ⟨([IntKind.wrap .u8 (57344+sval l 48),IntKind.wrap .u8 ((57344+sval l 48) / 256)],srest (srest l 48) 3),lb,b2 _ _,len2 48 3,?_⟩
    rcases h with rfl|rfl|rfl
    all_goals
     refine N.fnC Try.func90 k90 fun Q hQ hQN=>?_
     repeat' (first|rw [e]|rw [h1]|rw [h2]|(show Wc; first|refine T.call1 0 e28 rfl rfl (n4) ?_|refine T.call1 0 e28 rfl rfl (n6) ?_)|exact ⟨⟩|intro (K:KT) hK|intro hcd|refine go1 ?_ ?_|fail)
     exact WS.byte2 _ _ rfl rfl rfl
section
variable {P:Program} {rest:List AOper} {tr:Tr} {fr:Fr} {h:List Blk} {K:KT} {d:Option Nat}
theorem T.appBs {bytes:Nat} {s x:AO} {b ver len:Nat} {xs ys:List Int} (hs:s.ev (lk fr)=.psl b ver 0 len) (hb:h[b]?=some ⟨ver,1,bcells xs⟩) (hx:srcOf (fun b=>h[b]?) 1 (x.ev (lk fr))=some (1,bcells ys)) (hl:len=xs.length)
  (hn:0 < bytes∧bytes * (len+ys.length+(len+ys.length) / 4+1024)≤2 ^ 48)
  (hK:WOpsT P rest (tr ++ [(b :: vlook (x.ev (lk fr)),[b])]) (put fr d (.psl b (ver+1) 0 (len+ys.length))) (h.set b ⟨ver+1,1,bcells (xs ++ ys)⟩) K):WOpsT P (⟨d,.app 1 bytes s x,none⟩ :: rest) tr fr h K :=
 T.app hs hb hx ⟨by decide,hn.1⟩ ⟨rfl,rfl,by simp [bcells_len,hl],by rw [bcells_len]; exact hn.2⟩ (by
  have e:(bcells xs).drop 0 ++ bcells ys=bcells (xs ++ ys):=by simp [bcells]
  dsimp only
  rw [e,bcells_len]; exact hK)
theorem src_b {bl:Nat→Option Blk} {b ver len:Nat} {ys:List Int} (hb:bl b=some ⟨ver,1,bcells ys⟩) (hl:ys.length≤len):srcOf bl 1 (.psl b ver 0 len)=some (1,bcells ys):=by
 unfold srcOf rowsOf
 simp only [hb]
 rw [if_pos trivial,List.drop_zero,List.take_of_length_le (by rw [bcells_len]; exact hl)]
end
noncomputable def oprB (x:Ins) (l:List Int):List Int×List Int:=if h:0≤x.mode∧x.mode < 9 then (operand_ex x h l).choose else ([],l)
theorem oprB_ok (x:Ins) (h:0≤x.mode∧x.mode < 9) (l:List Int):(oprB x l).1.length≤2∧Bytes (oprB x l).1∧(oprB x l).2.length≤l.length∧FnE Try.prog 90 [.ptr 0 1 0 0,.agg (inC x)] [strB l] (.sl 1 (bcells (oprB x l).1)) [strB (oprB x l).2]:=by
 unfold oprB; rw [dif_pos h]; exact (operand_ex x h l).choose_spec
noncomputable def goProg (ins:List Ins) (size:Nat):Nat→List Int→List Int→List Int×List Int
 | 0,acc,l=>(acc,l)
 | f+1,acc,l=>if l.length=0 then (acc,l) else
   if acc.length+(1+(oprB (ins.getD (sval l ins.length).toNat insZ) (srest l ins.length)).1.length) > size then (acc,(oprB (ins.getD (sval l ins.length).toNat insZ) (srest l ins.length)).2)
   else goProg ins size f (acc ++ ([IntKind.wrap .u8 (ins.getD (sval l ins.length).toNat insZ).op] ++ (oprB (ins.getD (sval l ins.length).toNat insZ) (srest l ins.length)).1)) (oprB (ins.getD (sval l ins.length).toNat insZ) (srest l ins.length)).2
theorem goProg_spec (ins:List Ins) (size:Nat) (hm:∀ x ∈ ins,0≤x.mode∧x.mode < 9) (h0:0 < ins.length):∀ (f:Nat) (acc l:List Int),acc.length≤size→Bytes acc→(goProg ins size f acc l).1.length≤size∧Bytes (goProg ins size f acc l).1∧(goProg ins size f acc l).2.length≤l.length:=by
 intro f
 induction f with
 | zero=>intro acc l h1 h2; exact ⟨h1,h2,Nat.le_refl _⟩
 | succ f ih =>
  intro acc l h1 h2
  have hr:=sval_range l ins.length (by omega)
  have hx:0≤(ins.getD (sval l ins.length).toNat insZ).mode∧(ins.getD (sval l ins.length).toNat insZ).mode < 9:=by
   have:(sval l ins.length).toNat < ins.length:=by omega
   rw [show ins.getD (sval l ins.length).toNat insZ=ins[(sval l ins.length).toNat] by simp [this]]
   exact hm _ (List.getElem_mem this)
  obtain ⟨g1,g2,g3,_⟩:=oprB_ok _ hx (srest l ins.length)
  have g4:=srest_le l ins.length
  unfold goProg
  split
  ·exact ⟨h1,h2,Nat.le_refl _⟩
  ·split
   ·exact ⟨h1,h2,by dsimp only; omega⟩
   ·obtain ⟨i1,i2,i3⟩:=ih (acc ++ ([IntKind.wrap .u8 (ins.getD (sval l ins.length).toNat insZ).op] ++ (oprB (ins.getD (sval l ins.length).toNat insZ) (srest l ins.length)).1)) (oprB (ins.getD (sval l ins.length).toNat insZ) (srest l ins.length)).2 (by simp only [List.length_append,List.length_cons,List.length_nil]; omega) (h2.append ((Bytes.nil.cons (wrapB _)).append g2))
    exact ⟨i1,i2,by omega⟩
theorem program_ex (l0:List Int) (size:Nat) (hs:size≤1000):∃ p:List Int×List Int,p.1.length≤size∧Bytes p.1∧p.2.length≤l0.length∧FnE Try.prog 64 [.ptr 0 1 0 0,I size] [strB l0] (.sl 1 (bcells p.1)) [strB p.2]:=by
 have hcpu:=stdCpu_ok
 obtain ⟨hl,hop,hmo⟩:=stdM_ops
 have hsp:=goProg_spec stdM.ins size hmo (by omega) l0.length [] l0 (Nat.zero_le _) Bytes.nil
 refine ⟨goProg stdM.ins size l0.length [] l0,hsp.1,hsp.2.1,hsp.2.2,?_⟩
 generalize hg:goProg stdM.ins size l0.length [] l0=G at *
 generalize stdM=c at *
 obtain ⟨nm,ins,r1,r2,r3⟩:=c
 dsimp only at hl hop hmo hg
 have h0:0 < ins.length:=by omega
 have hl92:(ins.length:Int)=92:=by omega
 refine N.fnC Try.func64 k64 fun Q hQ hQN=>?_
 repeat' (first|rw [cp_t5]|rw [cp_z]|refine T.call0 e37 rfl hcpu ?_|exact ⟨⟩|intro (K:KT) hK|intro hcd|refine goB ?_ ?_|fail)
 refine N.blockC [(6,.sl 1 (bcells G.1))] [strB G.2] rfl (fun C hC=>?_) ?_
 ·refine N.loop (σ:=Nat×List Int×List Int×Nat) (fun s=>[(0,.ptr 0 1 0 0),(1,I size),(5,.ptr 1 1 0 0),(6,.psl 2 s.1 0 s.2.1.length)]) (fun s=>[strB s.2.2.1,⟨1,5,[cpC ⟨nm,ins,r1,r2,r3⟩]⟩,⟨s.1,1,bcells s.2.1⟩]) (fun s=>s.2.1.length≤size∧s.2.2.1.length≤s.2.2.2∧goProg ins size s.2.2.2 s.2.1 s.2.2.1=G) (fun s=>s.2.2.2) (1,[],l0,l0.length) ⟨Nat.zero_le _,Nat.le_refl _,hg⟩ (Weaks.nilAs 6 1 (by decide) rfl (Weaks.sel (by exact sB) rfl)) fun w hi K2 hC2=>?_
  obtain ⟨v,acc,l,f⟩:=w
  obtain ⟨hi1,hi2,hst⟩:=hi
  dsimp only at hi1 hi2 hst hC2 ⊢
  have fin:∀ (fr:Fr) (l2:List Int) (h:List Blk),(acc,l2)=G→lk fr 6=.psl 2 v 0 acc.length→h[2]?=some ⟨v,1,bcells acc⟩→outH h [0] 1=[strB l2]→gcOk 1 h.length [0]=true→C fr h:=fun fr l2 h hG h6 h2 h0 hk=>by
   subst hG
   exact hC _ _ (Weaks.gc [0] 1 hk ⟨by rw [h6,out_bytesK rfl h2 (Nat.le_refl _)]; exact .rfl,trivial⟩ h0.symm)
  by_cases hl0:l.length=0
  ·have hG:(acc,l)=G:=by
    rw [← hst]
    cases f with
    | zero=>rfl
    | succ f=>unfold goProg; rw [if_pos hl0]
   repeat' (first|rw [cells_len]|exact ⟨⟩|intro (K:KT) hK|intro hcd|refine go1 ?_ ?_|fail)
   all_goals first|(exfalso; omega)|exact fin _ l _ hG rfl rfl rfl rfl
  ·obtain ⟨f,rfl⟩:∃ g,f=g+1:=⟨f - 1,by omega⟩
   unfold goProg at hst
   rw [if_neg hl0] at hst
   have hn:=next_ok l ins.length (by omega)
   have hr:=sval_range l ins.length (by omega)
   have hrl:(srest l ins.length).length+1≤l.length:=by
    unfold srest; rw [if_neg (by omega),List.length_tail]; omega
   have hil:(sval l ins.length).toNat < ins.length:=by omega
   have hget:ins.getD (sval l ins.length).toNat insZ=ins[(sval l ins.length).toNat]:=by simp [hil]
   rw [hget] at hst
   have hmx:=hmo _ (List.getElem_mem hil)
   have hop:=hop _ (List.getElem_mem hil)
   have hm:(ins.map inC)[(sval l ins.length).toNat]?=some (inC ins[(sval l ins.length).toNat]):=by rw [List.getElem?_map,List.getElem?_eq_getElem hil]; rfl
   generalize ins[(sval l ins.length).toNat]=x at *
   obtain ⟨o1,o2,o3,ho⟩:=oprB_ok x hmx (srest l ins.length)
   generalize oprB x (srest l ins.length)=p at *
   obtain ⟨bs,l2⟩:=p
   obtain ⟨xo,xn,xm,xc⟩:=x
   dsimp only [inC] at hst o1 o2 o3 ho hop hmx hm
   generalize sval l ins.length=q at *
   generalize srest l ins.length=l1 at *
   repeat' (first|rw [cells_len]|rw [List.length_map]|refine rI hm ?_|refine T.appBs (xs:=[_]) (ys:=bs) rfl rfl rfl rfl ⟨by decide,by omega⟩ ?_|refine T.appBs (ys:=IntKind.wrap .u8 xo :: bs) rfl rfl (src_b rfl (by rw [List.length_cons]; omega)) rfl ⟨by decide,by rw [List.length_cons]; omega⟩ ?_|(show Wc; first|refine T.call1 0 e28 rfl rfl (hn) ?_|refine T.call1 0 e90 rfl rfl (ho) ?_)|exact ⟨⟩|intro (K:KT) hK|intro hcd|refine go1 ?_ ?_|fail)
   ·rw [if_pos (by omega)] at hst
    exact fin _ l2 _ hst rfl rfl rfl rfl
   ·rw [if_neg (by omega)] at hst
    refine hC2 _ _ (v+1,acc ++ ([IntKind.wrap .u8 xo] ++ bs),l2,f) ⟨by simp only [List.length_append,List.length_cons,List.length_nil]; omega,by dsimp only; omega,hst⟩ (by dsimp only; omega) (Weaks.gc [0,1,2] 1 rfl ⟨.rfl,.rfl,.rfl,?_,trivial⟩ ?_)
    ·dsimp only; rw [List.length_append]; exact .rfl
    ·show [_,_,_]=[_,_,outB _ _ _ ⟨v+1,1,bcells (acc ++ (IntKind.wrap .u8 xo :: bs))⟩]
     rw [outB_bytes]; rfl
 ·skip
  repeat' (first|exact ⟨⟩|intro (K:KT) hK|intro hcd|refine go1 ?_ ?_|fail)
  exact WS.gc [0] 1 rfl rfl .rfl
structure Dr where
 k:Int
 t:Int
 c:Int
 s:Int
 i:Int
 l:Int
 d:Int
 r:Int
 o:Int
 x:Int
abbrev dr10 (a:Dr):List Int:=[a.k,a.t,a.c,a.s,a.i,a.l,a.d,a.r,a.o,a.x]
abbrev drB (a:Dr):Blk:=⟨1,1,cells (dr10 a)⟩
structure Dr.Ok (a:Dr) (m:List Int) (nd:Nat):Prop where
 k:0≤a.k∧a.k≤nd
 t:0≤a.t∧a.t < 4
 c:0≤a.c∧a.c≤4
 s:0≤a.s∧a.s < 4
 i:0≤a.i∧a.i < 16
 l:0≤a.l∧a.l < 64
 d:0≤a.d∧a.d < 256
 r:0≤a.r∧a.r < 2
 o:0≤a.o∧a.o < 2
 x:0≤a.x∧a.x < 2
 len:m.length=256 * nd
 nd:nd≤255
 mem:Bytes m
def Dr.begin (a:Dr) (k:Int):Dr:=if 0 < a.c∨k % 16 < 1∨4 < k % 16∨(3≤k % 16∧a.k=0) then a else { a with c:=k % 16,s:=k / 16 % 4,i:=0,l:=30,r:=if k % 16=4 then 1 else 0 }
def Dr.place (a:Dr):Int:=(a.k - 1) * 256+(a.t * 4+a.s) * 16+a.i
def Dr.change (a:Dr) (nd:Nat) (k:Int):Dr:=if a.c=0 then (if 0 < k∧k≤nd then { a with k:=k } else { a with k:=0 }) else a
def Dr.next (a:Dr):Dr:=if a.i+1=16 then { a with r:=if a.c=4 then 0 else a.r,c:=0,i:=0,l:=0 } else { a with l:=20,i:=a.i+1 }
def Dr.done (a:Dr) (m:List Int):Dr :=
 if a.c=1∨a.c=2 then { a with t:=max 0 (min (a.t+3 - 2 * a.c) 3),c:=0 }
 else Dr.next { a with o:=max a.o a.r,d:=if a.c=3 then m.getD a.place.toNat 0 else a.d,r:=1 }
def Dr.doneM (a:Dr) (m:List Int):List Int:=if a.c=4 then m.set a.place.toNat a.d else m
def Dr.skip:Nat→Int→Dr→List Int→Dr×List Int
 | 0,_,a,m=>(a,m)
 | f+1,k,a,m=>if k≤0∨a.c≤0 then (a,m) else if 3≤a.c∧a.k=0 then ({ a with c:=0 },m) else if k < a.l then ({ a with l:=a.l - k },m)
   else Dr.skip f (k - max 1 a.l) (Dr.done { a with l:=0 } m) (Dr.doneM { a with l:=0 } m)
theorem getD_set (m:List Int) (i j:Nat) (d:Int):(m.set i d).getD j 0=if i=j∧i < m.length then d else m.getD j 0:=by
 rw [List.getD_eq_getElem?_getD,List.getD_eq_getElem?_getD,List.getElem?_set]
 by_cases h:i=j
 ·subst h
  by_cases h2:i < m.length
  ·rw [if_pos rfl,if_pos h2,if_pos ⟨rfl,h2⟩]; rfl
  ·rw [if_pos rfl,if_neg h2,if_neg (fun h=>h2 h.2),List.getElem?_eq_none (by omega)]
 ·rw [if_neg h,if_neg (fun h'=>h h'.1)]
theorem Bytes.set {m:List Int} (h:Bytes m) (i:Nat) (d:Int) (hd:0≤d∧d < 256):Bytes (m.set i d):=by
 intro j
 rw [getD_set]
 split
 ·exact hd
 ·exact h j
end Go.Proofs.Ytdbbnlafkndcnaa.Calc
