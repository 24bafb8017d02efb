/- Several texts in one (FnClash, PureRange, FnLawParts, FnRange), for the proof of LawBoardClashes. No condition beyond those in each lemma. -/
import Derived.Test.YtdbbnlafkndcnaaPLawBoardClashesO
import Derived.Test.YtdbbnlafkndcnaaPLawBoardClashesM
import Derived.Test.YtdbbnlafkndcnaaPLawBoardClashesK
import Derived.Test.YtdbbnlafkndcnaaPLawBoardClashesD
namespace Go.Proofs.Ytdbbnlafkndcnaa.Calc
open Go Code
set_option linter.unusedSimpArgs false
set_option linter.unusedVariables false
set_option maxRecDepth 20000
set_option maxHeartbeats 8000000
attribute [local irreducible] WOpsT AW AK RK AKW UK UC
def conf (d c:Chp):Int:=if d.name=c.name then 5 else if c.base < d.base+d.size∧d.base < c.base+c.size then 16 else 0
theorem bcheck_err (b:Brd) (e:Int) (hn:VName b.name) (hcpu:VCpu b.cpu) (hnum:b.chips.length≤12) (hki:∀ c ∈ b.chips,VKind c) (hpl:∀ c ∈ b.chips,VPlace c)
  (hc:∀ j (hj:j < b.chips.length) k (hk:k < j),conf b.chips[k] b.chips[j]=0∨conf b.chips[k] b.chips[j]=e) (hex:∃ j,∃ hj:j < b.chips.length,∃ k,∃ hk:k < j,conf b.chips[k] b.chips[j]≠0):FnE Try.prog 21 [.agg (boV b)] [] (I e) []:=by
 obtain ⟨bn,⟨nm,ins,r1,r2,r3⟩,cs,ws⟩:=b
 dsimp only at hn hcpu hnum hki hpl hc hex
 have hname:=name_ok bn hn
 have htc:=tcheck_ok _ hcpu
 have hks:∀ c ∈ cs,1≤c.size∧c.size≤4096:=fun c hc=>by
  rcases hki c hc with ⟨z,hk,hs,h1,hd,hb⟩|⟨nb,hk,hs,h1,hd,hb⟩|⟨hk,hs,hd⟩|⟨nd,hk,hs,hn,hd,hb⟩
  ·omega
  ·omega
  ·rw [hs]
   rcases hk with h|h|h|h|h <;> rw [h] <;> decide
  ·omega
 unfold boV cpC
 dsimp only [List.cons_append,List.nil_append]
 dsimp only [cpC] at htc
 refine N.fnC Try.func21 k21 fun Q hQ hQN=>?_
 repeat' (first|rw [List.length_map]|rw [Bool.not_true]|(show Wc; first|refine T.call0 e30 rfl hname ?_|refine T.call0 e15 rfl htc ?_)|exact ⟨⟩|intro (K:KT) hK|intro hcd|refine go1 ?_ ?_|fail)
 all_goals first|(exfalso; omega)|skip
 refine N.loop (σ:=Nat) (fun i=>[(1,.ptr 0 1 0 0),(27,.sl 5 (cs.map chV)),(28,I cs.length),(29,I i)]) (fun i=>[⟨1,8,[[.c (.string bn),.c (.string nm),.sl 4 (ins.map inC),.sl 4 (r1.map cyC),.sl 4 (r2.map cyC),.sl 4 (r3.map cyC),.sl 5 (cs.map chV),.sl 2 (ws.map wiV)]]⟩]) (fun i=>i≤cs.length∧∀ j (hj:j < cs.length) k (hk:k < j),j < i→conf cs[k] cs[j]=0) (fun i=>cs.length - i) 0 ⟨Nat.zero_le _,fun j hj k hk h=>absurd h (by omega)⟩ (Weaks.sel (by exact sB) rfl) fun i hi R hC=>?_
 obtain ⟨hi,hbef⟩:=hi
 by_cases hil:i < cs.length
 ·have hm:=mget chV cs i hil
  have hck:=check_v _ (hki _ (List.getElem_mem hil)) (hpl _ (List.getElem_mem hil))
  have hsz:=hks _ (List.getElem_mem hil)
  have hp:=hpl _ (List.getElem_mem hil)
  have hci:=hc i hil
  have hnx:(∀ k (hk:k < i),conf cs[k] cs[i]=0)→∀ j (hj:j < cs.length) k (hk:k < j),j < i+1→conf cs[k] cs[j]=0:=fun h j hj k hk hji=>by
   by_cases hjj:j=i
   ·subst hjj; exact h k hk
   ·exact hbef j hj k hk (by omega)
  have e2:(List.drop (Int.toNat 0) (cs.map chV)).take ((i:Int).toNat - Int.toNat 0)=(cs.take i).map chV:=by
   rw [show Int.toNat 0=0 from rfl,List.drop_zero,Int.toNat_natCast,Nat.sub_zero,List.map_take]
  have e3:(cs.map chV).take i=(cs.take i).map chV:=List.map_take.symm
  have e4:(cs.take i).length=i:=by rw [List.length_take]; omega
  generalize hx:cs[i]=x at *
  obtain ⟨xn,xk,xb,xs,xd⟩:=x
  obtain ⟨_,_,p1,p2⟩:=hp
  dsimp only [chV] at hm hck p1 p2 hsz
  repeat' (first|refine rI hm ?_|rw [e2]|rw [e3]|rw [List.length_map]|rw [e4]|(show Wo (.slc _ _ _ _); refine T.slcS rfl rfl rfl rfl (by rw [List.length_map]; omega) ?_)|refine T.call0 e41 rfl hck ?_|exact ⟨⟩|intro (K:KT) hK|intro hcd|refine go1 ?_ ?_|fail)
  refine N.loop (σ:=Nat) (fun k=>[(1,.ptr 0 1 0 0),(5,.ptr 1 1 0 0),(27,.sl 5 (cs.map chV)),(28,I cs.length),(29,I i),(42,.sl 5 ((cs.take i).map chV)),(43,I i),(44,I k)]) (fun k=>[⟨1,8,[[.c (.string bn),.c (.string nm),.sl 4 (ins.map inC),.sl 4 (r1.map cyC),.sl 4 (r2.map cyC),.sl 4 (r3.map cyC),.sl 5 (cs.map chV),.sl 2 (ws.map wiV)]]⟩,⟨1,5,[[.c (.string xn),I xk,I xb,I xs,.sl 1 (bcells xd)]]⟩]) (fun k=>k≤i∧∀ k' (hk:k' < k) (hk2:k' < i),conf cs[k'] ⟨xn,xk,xb,xs,xd⟩=0) (fun k=>i - k) 0 ⟨Nat.zero_le _,fun k' h=>absurd h (by omega)⟩ (Weaks.sel (by exact sB) rfl) fun k hk R2 hC2=>?_
  obtain ⟨hk,hbk⟩:=hk
  by_cases hkl:k < i
  ·have hm2:((cs.take i).map chV)[((k:Nat):Int).toNat]?=some (chV cs[k]):=by
    rw [Int.toNat_natCast,List.getElem?_map,List.getElem?_take_of_lt hkl,List.getElem?_eq_getElem (by omega)]; rfl
   have ha:=hci k hkl
   have hsz2:=hks _ (List.getElem_mem (show k < cs.length by omega))
   have hp2:=hpl _ (List.getElem_mem (show k < cs.length by omega))
   have hnk:conf cs[k] ⟨xn,xk,xb,xs,xd⟩=0→∀ k' (hk:k' < k+1) (hk2:k' < i),conf cs[k'] ⟨xn,xk,xb,xs,xd⟩=0:=fun h k' hk1 hk2=>by
    by_cases hkk:k'=k
    ·subst hkk; exact h
    ·exact hbk k' (by omega) hk2
   clear hC hnx hex hbk hbef hci
   generalize cs[k]=y at *
   obtain ⟨yn,yk,yb,ys,yd⟩:=y
   obtain ⟨_,_,p3,p4⟩:=hp2
   unfold conf at ha hnk
   dsimp only [chV] at hm2 p3 p4 hsz2 ha hnk
   by_cases a1:yn=xn
   ·rw [if_pos a1] at ha
    have he5:e=5:=by omega
    subst he5
    have hne:decide (yn=xn)=true:=decide_eq_true a1
    repeat' (first|refine rI hm2 ?_|rw [hne]|exact ⟨⟩|intro (K:KT) hK|intro hcd|refine go1 ?_ ?_|fail)
    all_goals first|exact WS.c rfl rfl|(exfalso; omega)
   ·rw [if_neg a1] at ha hnk
    have hne:decide (yn=xn)=false:=decide_eq_false a1
    by_cases a2:xb < yb+ys∧yb < xb+xs
    ·rw [if_pos a2] at ha
     have he5:e=16:=by omega
     subst he5
     repeat' (first|refine rI hm2 ?_|rw [hne]|exact ⟨⟩|intro (K:KT) hK|intro hcd|refine go1 ?_ ?_|fail)
     all_goals first|exact WS.c rfl rfl|(exfalso; omega)
    ·rw [if_neg a2] at ha hnk
     have hnk:=hnk rfl
     repeat' (first|refine rI hm2 ?_|rw [hne]|exact ⟨⟩|intro (K:KT) hK|intro hcd|refine go1 ?_ ?_|fail)
     all_goals first|exact hC2 _ _ (k+1) ⟨by omega,hnk⟩ (by omega) (by exact .G [0,1] 1)|(exfalso; omega)
  ·obtain rfl:k=i:=by omega
   have hnx:=hnx fun k' hk'=>hbk k' hk' hk'
   repeat' (first|exact ⟨⟩|intro (K:KT) hK|intro hcd|refine go1 ?_ ?_|fail)
   exact hC _ _ (k+1) ⟨by omega,hnx⟩ (by omega) (by exact .G [0] 1)
 ·obtain rfl:i=cs.length:=by omega
  exfalso
  obtain ⟨j,hj,k,hk,h⟩:=hex
  exact h (hbef j hj k hk hj)
theorem eqW_ok (l:List Wir) (hl:l.length≤1000):FnE Try.prog 49 [.sl 2 (l.map wiV),.sl 2 (l.map wiV)] [] (.c (.bool true)) []:=by
 refine N.fnC Try.func49 k49 fun Q hQ hQN=>?_
 repeat' (first|rw [List.length_map]|exact ⟨⟩|intro (K:KT) hK|intro hcd|refine go1 ?_ ?_|fail)
 all_goals first|(exfalso; omega)|skip
 refine N.loop (σ:=Nat) (fun i=>[(0,.sl 2 (l.map wiV)),(1,.sl 2 (l.map wiV)),(12,I l.length),(13,I i)]) (fun i=>[]) (fun i=>i≤l.length) (fun i=>l.length - i) 0 (Nat.zero_le _) (by exact .G [] 1) fun i hi R hC=>?_
 by_cases hil:i < l.length
 ·have hm:=mget wiV l i hil
  generalize l[i]=x at *
  obtain ⟨x1,x2⟩:=x
  dsimp only [wiV] at hm
  repeat' (first|refine rI hm ?_|(show Wo (.eqs _ _ _ _); refine T.eqs (us:=[.string x1,.string x2]) (vs:=[.string x1,.string x2]) (b:=true) rfl rfl (by simp [eqLv,eqC]) ?_)|exact ⟨⟩|intro (K:KT) hK|intro hcd|refine go1 ?_ ?_|fail)
  all_goals first|exact hC _ _ (i+1) (by omega) (by omega) (by exact .G [] 1)|(exfalso; omega)|(exfalso; simp at *; done)
 ·obtain rfl:i=l.length:=by omega
  repeat' (first|exact ⟨⟩|intro (K:KT) hK|intro hcd|refine go1 ?_ ?_|fail)
  exact WS.c rfl rfl
theorem bsame1_eq (c:Chp) (hc:c.data.length≤100000):FnE Try.prog 51 [.agg (chV c),.agg (chV c)] [] (.c (.bool true)) []:=by
 have h:=eqB_ok c.data hc
 obtain ⟨x1,x2,x3,x4,x5⟩:=c
 dsimp only [chV] at h ⊢
 have hn:decide (x1=x1)=true:=decide_eq_true rfl
 refine N.fnC Try.func51 k51 fun Q hQ hQN=>?_
 repeat' (first|rw [hn]|refine T.call0 e52 rfl h ?_|exact ⟨⟩|intro (K:KT) hK|intro hcd|refine go1 ?_ ?_|fail)
 all_goals first|exact WS.c rfl rfl|(exfalso; omega)|(exfalso; simp at *; done)
theorem bsame1_ne (c:Chp) (b:Int) (hb:b≠c.base):FnE Try.prog 51 [.agg (chV { c with base:=b }),.agg (chV c)] [] (.c (.bool false)) []:=by
 obtain ⟨x1,x2,x3,x4,x5⟩:=c
 dsimp only [chV] at hb ⊢
 have hn:decide (x1=x1)=true:=decide_eq_true rfl
 refine N.fnC Try.func51 k51 fun Q hQ hQN=>?_
 repeat' (first|rw [hn]|exact ⟨⟩|intro (K:KT) hK|intro hcd|refine go1 ?_ ?_|fail)
 all_goals first|exact WS.c rfl rfl|(exfalso; omega)|(exfalso; simp at *; done)
theorem eqCh_ok (l m:List Chp) (hl:l.length≤100) (hlm:m.length=l.length) (q:Nat→Bool) (h:∀ i (h1:i < l.length) (h2:i < m.length),FnE Try.prog 51 [.agg (chV l[i]),.agg (chV m[i])] [] (.c (.bool (q i))) []) (r:Bool) (hr1:r=true→∀ i,i < l.length→q i=true) (hr2:r=false→∃ i,i < l.length∧q i=false):FnE Try.prog 50 [.sl 5 (l.map chV),.sl 5 (m.map chV),.fn 51 []] [] (.c (.bool r)) []:=by
 refine N.fnC Try.func50 k50 fun Q hQ hQN=>?_
 repeat' (first|rw [List.length_map]|rw [hlm]|exact ⟨⟩|intro (K:KT) hK|intro hcd|refine go1 ?_ ?_|fail)
 all_goals first|(exfalso; omega)|skip
 refine N.loop (σ:=Nat) (fun i=>[(1,.sl 5 (m.map chV)),(2,.fn 51 []),(15,.sl 5 (l.map chV)),(16,I l.length),(17,I i)]) (fun i=>[]) (fun i=>i≤l.length∧∀ j,j < i→q j=true) (fun i=>l.length - i) 0 ⟨Nat.zero_le _,fun j h=>absurd h (by omega)⟩ (by exact .G [] 1) fun i hi R hC=>?_
 obtain ⟨hi,hb⟩:=hi
 by_cases hil:i < l.length
 ·have hm:=mget chV l i hil
  have hm2:=mget chV m i (by omega)
  have hx:=h i hil (by omega)
  have hf:q i=false→r=false:=fun h=>by
   cases r with
   | false=>rfl
   | true=>exact absurd (hr1 rfl i hil) (by rw [h]; decide)
  have hnx:q i=true→∀ j,j < i+1→q j=true:=fun h j hj=>by
   by_cases hji:j=i
   ·subst hji; exact h
   ·exact hb j (by omega)
  clear h hr1 hr2 hb
  generalize q i=b at *
  generalize l[i]=x at *
  generalize m[i]=y at *
  obtain ⟨x1,x2,x3,x4,x5⟩:=x
  obtain ⟨y1,y2,y3,y4,y5⟩:=y
  dsimp only [chV] at hm hm2 hx
  cases b
  ·have hf:=hf rfl
   subst hf
   repeat' (first|refine rI hm ?_|refine rI hm2 ?_|refine T.ofFn rfl (C.zero e51 rfl hx ?_)|rw [Bool.not_false]|exact ⟨⟩|intro (K:KT) hK|intro hcd|refine go1 ?_ ?_|fail)
   all_goals first|exact WS.c rfl rfl|(exfalso; omega)|(exfalso; simp at *; done)
  ·have hnx:=hnx rfl
   repeat' (first|refine rI hm ?_|refine rI hm2 ?_|refine T.ofFn rfl (C.zero e51 rfl hx ?_)|rw [Bool.not_true]|exact ⟨⟩|intro (K:KT) hK|intro hcd|refine go1 ?_ ?_|fail)
   all_goals first|exact hC _ _ (i+1) ⟨by omega,hnx⟩ (by omega) (by exact .G [] 1)|(exfalso; omega)|(exfalso; simp at *; done)
 ·obtain rfl:i=l.length:=by omega
  have:r=true:=by
   cases r with
   | true=>rfl
   | false =>
    obtain ⟨j,hj,hq⟩:=hr2 rfl
    rw [hb j hj] at hq; cases hq
  subst this
  repeat' (first|exact ⟨⟩|intro (K:KT) hK|intro hcd|refine go1 ?_ ?_|fail)
  exact WS.c rfl rfl
theorem bsame_go (B C:Brd) (hcpu:SmlP B.cpu) (he:C.cpu=B.cpu∧C.name=B.name∧C.wires=B.wires) (hw:B.wires.length≤1000) (r:Bool) (h:FnE Try.prog 50 [.sl 5 (C.chips.map chV),.sl 5 (B.chips.map chV),.fn 51 []] [] (.c (.bool r)) []):FnE Try.prog 23 [.agg (boV C),.agg (boV B)] [] (.c (.bool r)) []:=by
 obtain ⟨bn,cpu,cs,ws⟩:=B
 obtain ⟨bn2,cpu2,cs2,ws2⟩:=C
 obtain ⟨rfl,rfl,rfl⟩:=he
 dsimp only at hcpu hw h
 have ht:=tsame_ok cpu2 hcpu
 have hW:=eqW_ok ws2 hw
 obtain ⟨nm,ins,r1,r2,r3⟩:=cpu2
 unfold boV
 unfold cpC at ht ⊢
 dsimp only [List.cons_append,List.nil_append] at ht ⊢
 have hn:decide (bn2=bn2)=true:=decide_eq_true rfl
 refine N.fnC Try.func23 k23 fun Q hQ hQN=>?_
 repeat' (first|rw [hn]|(show Wc; first|refine T.call0 e48 rfl ht ?_|refine T.call0 e49 rfl hW ?_|refine T.call0 e50 rfl h ?_)|exact ⟨⟩|intro (K:KT) hK|intro hcd|refine go1 ?_ ?_|fail)
 all_goals first|exact WS.c rfl rfl|(exfalso; omega)|(exfalso; simp at *; done)
theorem bsame_eq (B:Brd) (hcpu:SmlP B.cpu) (hw:B.wires.length≤1000) (hl:B.chips.length≤100) (hd:∀ c ∈ B.chips,c.data.length≤100000):FnE Try.prog 23 [.agg (boV B),.agg (boV B)] [] (.c (.bool true)) [] :=
 bsame_go B B hcpu ⟨rfl,rfl,rfl⟩ hw true (eqCh_ok B.chips B.chips hl rfl (fun _=>true) (fun i h1 _=>bsame1_eq _ (hd _ (List.getElem_mem h1))) true (fun _ _ _=>rfl) (fun h=>by cases h))
theorem bsame_ne (B:Brd) (hcpu:SmlP B.cpu) (hw:B.wires.length≤1000) (hl:B.chips.length≤100) (hd:∀ c ∈ B.chips,c.data.length≤100000) (i:Nat) (hi:i < B.chips.length) (b:Int) (hb:b≠B.chips[i].base):FnE Try.prog 23 [.agg (boV { B with chips:=B.chips.set i { B.chips[i] with base:=b } }),.agg (boV B)] [] (.c (.bool false)) []:=by
 refine bsame_go B { B with chips:=B.chips.set i { B.chips[i] with base:=b } } hcpu ⟨rfl,rfl,rfl⟩ hw false (eqCh_ok (B.chips.set i { B.chips[i] with base:=b }) B.chips (by rw [List.length_set]; exact hl) (by rw [List.length_set]) (fun j=>decide (j≠i)) (fun j h1 h2=>?_) false (fun h=>by cases h) (fun _=>⟨i,by rw [List.length_set]; exact hi,by simp⟩))
 dsimp only
 by_cases hj:j=i
 ·subst hj
  rw [List.getElem_set_self,decide_eq_false (by simp)]
  exact bsame1_ne _ b hb
 ·rw [List.getElem_set_ne (Ne.symm hj),decide_eq_true hj]
  exact bsame1_eq _ (hd _ (List.getElem_mem h2))
end Go.Proofs.Ytdbbnlafkndcnaa.Calc
namespace Go.Proofs.Ytdbbnlafkndcnaa.Calc
open Go
set_option linter.unusedVariables false
set_option linter.unusedSimpArgs false
def vnmB (s:ByteArray):Bool:=decide (1≤s.size) && decide (s.size≤20) && (match s[0]? with
 | some b=>decide (97≤b.toNat) && decide (b.toNat≤122)
 | none=>false) && (nmB s).all fun b=>decide ((97≤b∧b≤122)∨(48≤b∧b≤57)∨b=45)
theorem vnm_of (s:ByteArray) (h:vnmB s=true):VName s:=by
 unfold vnmB at h
 rw [Bool.and_eq_true,Bool.and_eq_true,Bool.and_eq_true] at h
 obtain ⟨⟨⟨h1,h2⟩,h3⟩,h4⟩:=h
 refine ⟨⟨of_decide_eq_true h1,of_decide_eq_true h2⟩,?_,fun x hx=>by have h5:=List.all_eq_true.1 h4 x hx; unfold okCh; exact of_decide_eq_true h5⟩
 cases hs:s[0]? with
 | none=>rw [hs] at h3; cases h3
 | some b =>
  rw [hs] at h3
  dsimp only at h3
  rw [Bool.and_eq_true] at h3
  have a:=of_decide_eq_true h3.1
  have b':=of_decide_eq_true h3.2
  exact ⟨b,rfl,by omega,by omega⟩
theorem chipN_v:∀ j:Nat,j < 5→vnmB (chipN j)=true∧chipN j≠⟨#[99,112,117]⟩∧chipN j≠⟨#[114,97,109]⟩∧chipN j≠⟨#[114,111,109]⟩:=by decide +kernel
theorem chipN_inj:∀ j:Nat,j < 5→∀ k:Nat,k < j→chipN k≠chipN j:=by decide +kernel
structure BdInv (i:Nat) (a:Int) (cs:List Chp):Prop where
 len:cs.length=i+1
 lo:∀ c ∈ cs,0≤c.base∧0≤c.size∧c.base+c.size≤a
 order:∀ j k (h:k < cs.length) (hjk:j < k),cs[j].base+cs[j].size≤cs[k].base
 names:∀ j (h:j < cs.length),cs[j].name=if j=0 then ⟨#[114,97,109]⟩ else chipN (j - 1)
theorem goBd_place:∀ (n i:Nat) (a:Int) (cs:List Chp) (ws:List Wir) (l:List Int),i+n≤4→57344≤a∧a≤57344+48 * i→BdInv i a cs→∃ a':Int,a'≤57344+48 * (i+n:Nat)∧BdInv (i+n) a' (goBd n i a cs ws l).1:=by
 intro n
 induction n with
 | zero=>intro i a cs ws l _ ha h; exact ⟨a,by rw [Nat.add_zero]; exact ha.2,h⟩
 | succ n ih =>
  intro i a cs ws l hn ha h
  have hz:=szN_r (kdN (sval l 8).toNat)
  unfold goBd
  generalize kdN (sval l 8).toNat=k at *
  have hc:(stepBd k i a (srest l 8)).1.name=chipN i∧(stepBd k i a (srest l 8)).1.base=a∧(stepBd k i a (srest l 8)).1.size=szN k:=⟨rfl,rfl,rfl⟩
  generalize (stepBd k i a (srest l 8)).1=c at *
  obtain ⟨c1,c2,c3⟩:=hc
  have hlast:∀ (h:cs.length < (cs ++ [c]).length),(cs ++ [c])[cs.length]=c:=fun h=>by simp
  obtain ⟨a',h1,h2⟩:=ih (i+1) (a+((szN k:Int)+15) / 16 * 16) (cs ++ [c]) (ws ++ (stepBd k i a (srest l 8)).2.1) (stepBd k i a (srest l 8)).2.2 (by omega) (by omega) (by
   refine ⟨by rw [List.length_append,h.len]; rfl,?_,?_,?_⟩
   ·intro x hx
    rcases List.mem_append.1 hx with hx|hx
    ·have:=h.lo x hx; omega
    ·simp only [List.mem_singleton] at hx; subst hx; omega
   ·intro j q hq hjq
    by_cases hq2:q < cs.length
    ·rw [List.getElem_append_left hq2,List.getElem_append_left (by omega)]; exact h.order j q hq2 hjq
    ·have:q=cs.length:=by rw [List.length_append] at hq; simp at hq; omega
     subst this
     rw [hlast hq,List.getElem_append_left hjq,c2]
     have:=h.lo cs[j] (List.getElem_mem _)
     omega
   ·intro j hj
    by_cases hj2:j < cs.length
    ·rw [List.getElem_append_left hj2]; exact h.names j hj2
    ·have:j=cs.length:=by rw [List.length_append] at hj; simp at hj; omega
     subst this
     rw [hlast hj,c1,h.len,if_neg (by omega)]
     rfl)
  exact ⟨a',by rw [show i+(n+1)=i+1+n by omega]; exact h1,by rw [show i+(n+1)=i+1+n by omega]; exact h2⟩
theorem mkBrd_places (l:List Int):(∀ c ∈ (mkBrd l).chips,VPlace c)∧∀ i j (h:j < (mkBrd l).chips.length) (hij:i < j),Apart (mkBrd l).chips[i] (mkBrd l).chips[j]∧(mkBrd l).chips[i].base+(mkBrd l).chips[i].size≤(mkBrd l).chips[j].base:=by
 have r:=sval_range l 5 (by decide)
 obtain ⟨a',h1,h2⟩:=goBd_place (sval l 5).toNat 0 57344 [ramC] [] (srest l 5) (by omega) (by decide) ⟨rfl,by
  intro c hc; simp only [List.mem_singleton] at hc; subst hc; decide,fun j k h hjk=>absurd h (by simp; omega),fun j h=>by
   have:j=0:=by simp at h; omega
   subst this; rfl⟩
 rw [Nat.zero_add] at h1 h2
 have hcs:(mkBrd l).chips=(goBd (sval l 5).toNat 0 57344 [ramC] [] (srest l 5)).1 ++ [romC (bdOf l).2.2]:=rfl
 refine (fun (key:∀ cs2,cs2=(goBd (sval l 5).toNat 0 57344 [ramC] [] (srest l 5)).1 ++ [romC (bdOf l).2.2]→(∀ c ∈ cs2,VPlace c)∧∀ i j (h:j < cs2.length) (hij:i < j),Apart cs2[i] cs2[j]∧cs2[i].base+cs2[i].size≤cs2[j].base)=>key _ hcs) ?_
 intro cs2 hcs2
 clear hcs
 subst hcs2
 generalize (goBd (sval l 5).toNat 0 57344 [ramC] [] (srest l 5)).1=cs at *
 generalize hrc:romC (bdOf l).2.2=rc
 have hr:rc.name=⟨#[114,111,109]⟩∧rc.base=65280∧rc.size=256:=by rw [← hrc]; exact ⟨rfl,rfl,rfl⟩
 obtain ⟨r1,r2,r3⟩:=hr
 have hnm:∀ j (hj:j < cs.length),vnmB cs[j].name=true∧cs[j].name≠⟨#[99,112,117]⟩∧cs[j].name≠⟨#[114,111,109]⟩:=fun j hj=>by
  have hl:=h2.len
  rw [h2.names j hj]
  by_cases h0:j=0
  ·rw [if_pos h0]; exact ⟨by decide +kernel,by decide,by decide⟩
  ·rw [if_neg h0]
   obtain ⟨q1,q2,q3,q4⟩:=chipN_v (j - 1) (by omega)
   exact ⟨q1,q2,q4⟩
 have hlast:∀ (h:cs.length < (cs ++ [rc]).length),(cs ++ [rc])[cs.length]=rc:=fun h=>by simp
 constructor
 ·intro c hc
  rcases List.mem_append.1 hc with hc|hc
  ·obtain ⟨j,hj,rfl⟩:=List.getElem_of_mem hc
   obtain ⟨q1,q2,q3⟩:=hnm j hj
   have:=h2.lo _ hc
   exact ⟨vnm_of _ q1,q2,this.1,by omega⟩
  ·simp only [List.mem_singleton] at hc; subst hc
   exact ⟨by rw [r1]; exact vnm_of _ (by decide +kernel),by rw [r1]; decide,by omega,by omega⟩
 ·intro i j hj hij
  by_cases hj2:j < cs.length
  ·rw [List.getElem_append_left hj2,List.getElem_append_left (by omega)]
   have ho:=h2.order i j hj2 hij
   refine ⟨⟨?_,.inl ho⟩,ho⟩
   rw [h2.names i (by omega),h2.names j hj2,if_neg (show ¬ j=0 by omega)]
   have hl:=h2.len
   by_cases h0:i=0
   ·rw [if_pos h0]
    exact fun h=>(chipN_v (j - 1) (by omega)).2.2.1 h.symm
   ·rw [if_neg h0]
    exact chipN_inj (j - 1) (by omega) (i - 1) (by omega)
  ·have:j=cs.length:=by rw [List.length_append] at hj; simp at hj; omega
   subst this
   rw [hlast hj,List.getElem_append_left hij]
   have hlo:=h2.lo cs[i] (List.getElem_mem _)
   have ho:cs[i].base+cs[i].size≤rc.base:=by omega
   refine ⟨⟨?_,.inl ho⟩,ho⟩
   rw [r1]; exact (hnm i hij).2.2
structure Rg where
 fr:Int
 to:Int
 ch:Int
def rgV (r:Rg):List V:=[I r.fr,I r.to,I r.ch]
instance:Flat rgV:=⟨fun a x hx=>by simp [rgV] at hx; rcases hx with rfl|rfl|rfl <;> exact .inl ⟨_,rfl⟩⟩
def ixA (cs:List Chp) (a:Int):Int:=match findC cs a with
 | some i=>(i:Int)
 | none=>-1
def stepR (l:List Rg) (n:Nat) (x:Int):List Rg:=match l.getLast? with
 | some r=>if r.ch=x then l.dropLast ++ [⟨r.fr,(n:Int)+1,r.ch⟩] else l ++ [⟨n,(n:Int)+1,x⟩]
 | none=>l ++ [⟨n,(n:Int)+1,x⟩]
def mapR (cs:List Chp):Nat→List Rg
 | 0=>[]
 | n+1=>stepR (mapR cs n) n (ixA cs n)
def sumR (l:List Rg) (k:Int):Int:=(l.map fun r=>if r.ch=k then r.to - r.fr else 0).foldr (· + ·) 0
structure RInv (cs:List Chp) (n:Nat) (l:List Rg):Prop where
 rg:∀ r ∈ l,0≤r.fr∧r.fr < r.to∧r.to≤n∧(-1≤r.ch∧r.ch < cs.length)∧∀ a,r.fr≤a→a < r.to→ixA cs a=r.ch
 all:∀ a,0≤a→a < (n:Int)→∃ r ∈ l,r.fr≤a∧a < r.to
 last:∀ r,l.getLast?=some r→r.to=n
 len:l.length≤n
end Go.Proofs.Ytdbbnlafkndcnaa.Calc
namespace Go.Proofs.Ytdbbnlafkndcnaa.Calc
open Go Code
set_option linter.unusedSimpArgs false
set_option linter.unusedVariables false
set_option maxRecDepth 20000
set_option maxHeartbeats 8000000
attribute [local irreducible] WOpsT AW AK RK AKW UK UC
theorem datB_kind (k i:Nat) (a:Int) (l:List Int) (h:2≤k∧k≤8):VKind (mkChp k i a (datB k i l).1):=by
 unfold mkChp datB
 by_cases h8:k=8
 ·subst h8
  have r:=sval_range l 2 (by decide)
  rw [if_pos rfl]
  exact .drive (1+(sval l 2).toNat) rfl rfl (by omega) (drvD_len _ _ _) (drvD_bytes _ _ _)
 ·rw [if_neg h8]
  by_cases h2:k=2
  ·subst h2
   have r:=sval_range (srest (srest l 256) 256) 3 (by decide)
   rw [if_pos rfl]
   exact .bank (1+(sval (srest (srest l 256) 256) 3).toNat) rfl rfl (by omega) (by rw [show 8 * (1+(sval (srest (srest l 256) 256) 3).toNat)=8+8 * (sval (srest (srest l 256) 256) 3).toNat by omega]; exact bytesOf_len _ _) (bytesOf_bytes _ _)
  ·rw [if_neg h2]
   exact .dev (by dsimp only; omega) (by dsimp only; rw [Int.toNat_natCast]) rfl
theorem goBd_kind:∀ (n i:Nat) (a:Int) (cs:List Chp) (ws:List Wir) (l:List Int),(∀ c ∈ cs,VKind c)→(∀ c ∈ (goBd n i a cs ws l).1,VKind c)∧(goBd n i a cs ws l).1.length=cs.length+n:=by
 intro n
 induction n with
 | zero=>intro i a cs ws l h; exact ⟨h,rfl⟩
 | succ n ih =>
  intro i a cs ws l h
  have r:=sval_range l 8 (by decide)
  have hk:=kdN_r (sval l 8).toNat (by omega)
  unfold goBd
  obtain ⟨h1,h2⟩:=ih (i+1) (a+((szN (kdN (sval l 8).toNat):Int)+15) / 16 * 16) (cs ++ [(stepBd (kdN (sval l 8).toNat) i a (srest l 8)).1]) (ws ++ (stepBd (kdN (sval l 8).toNat) i a (srest l 8)).2.1) (stepBd (kdN (sval l 8).toNat) i a (srest l 8)).2.2 (by
   intro c hc
   rcases List.mem_append.1 hc with hc|hc
   ·exact h c hc
   ·simp only [List.mem_singleton] at hc; subst hc
    exact datB_kind _ _ _ _ hk)
  exact ⟨h1,by rw [h2,List.length_append,List.length_singleton]; omega⟩
theorem mkBrd_kinds (l:List Int):(∀ c ∈ (mkBrd l).chips,VKind c)∧2≤(mkBrd l).chips.length∧(mkBrd l).chips.length≤6:=by
 have r:=sval_range l 5 (by decide)
 obtain ⟨h1,h2⟩:=goBd_kind (sval l 5).toNat 0 57344 [ramC] [] (srest l 5) (by
  intro c hc; simp only [List.mem_singleton] at hc; subst hc
  exact .mem 768 (.inl rfl) rfl (by decide) (by decide) Bytes.nil)
 obtain ⟨g1,g2,_⟩:=romD_ok (bdOf l).2.2
 refine ⟨fun c hc=>?_,?_⟩
 ·rcases List.mem_append.1 hc with hc|hc
  ·exact h1 c hc
  ·simp only [List.mem_singleton] at hc; subst hc
   exact .mem 256 (.inr rfl) rfl (by decide) (by show (romD _).length≤256; omega) g2
 ·have:(mkBrd l).chips.length=(bdOf l).1.length+1:=by show ((bdOf l).1 ++ [_]).length=_; rw [List.length_append]; rfl
  rw [this]
  have h3:(bdOf l).1.length=1+(sval l 5).toNat:=h2
  omega
theorem DvOk.small {c:Chp} {d:Dv} (h:DvOk c d):d.1.length≤100000∧d.2.length≤100000:=by
 rcases h with ⟨z,hk,hs,h1,m,hm,hb⟩|⟨nb,hk,hs,h1,hd,n,hn,m,hm,hb⟩|⟨hk,hs,x,y,e,f,h⟩|⟨hk,hs,x,y,z,h⟩|⟨hk,hs,s1,l,g,f,o,e,n,z,h⟩|⟨hk,hs,p,q,m,h⟩|⟨hk,hs,x,y,hx,hy⟩|⟨nd,hk,hs,e,m,h⟩
 ·exact ⟨Nat.zero_le _,by dsimp only; omega⟩
 ·exact ⟨lb,by dsimp only; omega⟩
 ·exact ⟨lb,lb⟩
 ·exact ⟨lb,lb⟩
 ·exact ⟨lb,lb⟩
 ·exact ⟨lb,by have:=h.len; dsimp only; omega⟩
 ·exact ⟨lb,lb⟩
 ·exact ⟨lb,by have:=h.len; have:=h.nd; dsimp only; omega⟩
theorem VKind.size {c:Chp} (h:VKind c):1≤c.size∧c.size≤4096:=by
 rcases h with ⟨z,hk,hs,h1,hd,hb⟩|⟨nb,hk,hs,h1,hd,hb⟩|⟨hk,hs,hd⟩|⟨nd,hk,hs,hn,hd,hb⟩
 ·omega
 ·omega
 ·rw [hs]
  rcases hk with h|h|h|h|h <;> rw [h] <;> decide
 ·omega
end Go.Proofs.Ytdbbnlafkndcnaa.Calc
