/- Several texts in one (FnChipOps, FnChipEx, PureSkip, FnMakeB, FnMkBoard), for the proof of LawBoardClashes. No condition beyond those in each lemma. -/
import Derived.Test.YtdbbnlafkndcnaaPLawBoardClashesH
import Derived.Test.YtdbbnlafkndcnaaPLawBoardClashesI
import Derived.Test.YtdbbnlafkndcnaaPLawBoardClashesE
import Derived.Test.YtdbbnlafkndcnaaPLawBoardClashesF
import Derived.Test.YtdbbnlafkndcnaaPLawBoardClashesD
namespace Go.Proofs.Ytdbbnlafkndcnaa.Calc
open Go Code
set_option linter.unusedSimpArgs false
set_option linter.unusedVariables false
set_option maxRecDepth 20000
set_option maxHeartbeats 8000000
attribute [local irreducible] WOpsT AW AK RK AKW UK UC
section
variable (nm:ByteArray) (b s:Int) (dat:List Int)
end
end Go.Proofs.Ytdbbnlafkndcnaa.Calc
namespace Go.Proofs.Ytdbbnlafkndcnaa.Calc
open Go Code
set_option linter.unusedSimpArgs false
set_option linter.unusedVariables false
set_option maxRecDepth 20000
set_option maxHeartbeats 4000000
abbrev Dv:=List Int×List Int
def dvC (d:Dv):List V:=[.sl 1 (cells d.1),.sl 1 (bcells d.2)]
inductive VKind (c:Chp):Prop where
 | mem (z:Nat) (hk:c.kind=0∨c.kind=1) (hs:c.size=z) (h1:1≤z∧z≤4096) (hd:c.data.length≤z) (hb:Bytes c.data)
 | bank (nb:Nat) (hk:c.kind=2) (hs:c.size=9) (h1:1≤nb∧nb≤3) (hd:c.data.length=8 * nb) (hb:Bytes c.data)
 | dev (hk:c.kind=3∨c.kind=4∨c.kind=5∨c.kind=6∨c.kind=7) (hs:c.size=szN c.kind.toNat) (hd:c.data=[])
 | drive (nd:Nat) (hk:c.kind=8) (hs:c.size=4) (hn:nd≤16) (hd:c.data.length=256 * nd) (hb:Bytes c.data)
inductive DvOk (c:Chp):Dv→Prop where
 | mem (z:Nat) (hk:c.kind=0∨c.kind=1) (hs:c.size=z) (h1:1≤z∧z≤4096) (m:List Int) (hm:m.length=z) (hb:Bytes m):DvOk c ([],m)
 | bank (nb:Nat) (hk:c.kind=2) (hs:c.size=9) (h1:1≤nb∧nb≤3) (hd:c.data.length=8 * nb) (n:Int) (hn:0≤n∧n < nb) (m:List Int) (hm:m.length=8 * nb) (hb:Bytes m):DvOk c ([n],m)
 | timer (hk:c.kind=3) (hs:c.size=4) (x y a f:Int) (h:TimOk x y a f):DvOk c ([x,y,a,f],[])
 | port (hk:c.kind=4) (hs:c.size=2) (x y z:Int) (h:PortOk x y z):DvOk c ([x,y,z],[])
 | serial (hk:c.kind=5) (hs:c.size=3) (s l g f o a n z:Int) (h:SerOk s l g f o a n z):DvOk c ([s,l,g,f,o,a,n,z],[])
 | video (hk:c.kind=6) (hs:c.size=32) (p q:Int) (m:List Int) (h:VidOk p q m):DvOk c ([p,q],m)
 | sound (hk:c.kind=7) (hs:c.size=8) (x y:Vo) (hx:x.Ok) (hy:y.Ok):DvOk c (vo2 x y,[])
 | drive (nd:Nat) (hk:c.kind=8) (hs:c.size=4) (a:Dr) (m:List Int) (h:a.Ok m nd):DvOk c (dr10 a,m)
def skipV (c:Chp) (t:Nat) (d:Dv):Dv :=
 if c.kind=3 then match d.1 with
  | [x,y,a,f]=>(skip4 x y a f t,[])
  | _=>d
 else if c.kind=5 then match d.1 with
  | [s,l,g,f,o,a,n,z]=>(serSkip s l g f o a n z t,[])
  | _=>d
 else if c.kind=6 then match d.1 with
  | [p,q]=>([vpos p t,vhitN d.2 p q t],d.2)
  | _=>d
 else if c.kind=7 then match d.1 with
  | [p,v,r,e,f,w,p',v',r',e',f',w']=>(vo2 (Vo.ticks t ⟨p,v,r,e,f,w⟩) (Vo.ticks t ⟨p',v',r',e',f',w'⟩),[])
  | _=>d
 else if c.kind=8 then match d.1 with
  | [k,u,e,s,i,l,a,r,o,x]=>(dr10 (Dr.skip t t ⟨k,u,e,s,i,l,a,r,o,x⟩ d.2).1,(Dr.skip t t ⟨k,u,e,s,i,l,a,r,o,x⟩ d.2).2)
  | _=>d
 else d
end Go.Proofs.Ytdbbnlafkndcnaa.Calc
namespace Go.Proofs.Ytdbbnlafkndcnaa.Calc
open Go
set_option linter.unusedVariables false
set_option linter.unusedSimpArgs false
end Go.Proofs.Ytdbbnlafkndcnaa.Calc
namespace Go.Proofs.Ytdbbnlafkndcnaa.Calc
open Go Code
set_option linter.unusedSimpArgs false
set_option linter.unusedVariables false
set_option maxRecDepth 20000
set_option maxHeartbeats 8000000
attribute [local irreducible] WOpsT AW AK RK AKW UK UC
def stV (l:List Stp):V:=match l with
 | []=>.c (.slice none 0 0)
 | a :: l=>.sl 4 ((a :: l).map stC)
def cyQ (c:Cyc):List V:=[I c.bus,I c.at_,I c.reg,stV c.steps]
instance:Flat cyQ:=⟨fun a x hx=>by
 obtain ⟨b,t,r,ss⟩:=a
 cases ss with
 | nil=>simp [cyQ,stV] at hx; rcases hx with rfl|rfl|rfl|rfl <;> exact .inl ⟨_,rfl⟩
 | cons s ss=>simp [cyQ,stV] at hx; rcases hx with rfl|rfl|rfl|rfl <;> first|exact .inl ⟨_,rfl⟩|exact .inr ⟨_,_,rfl⟩⟩
theorem sub_rows {α:Type} (f g:α→List V) (e:Nat) (hg:∀ a,(g a).length=e) (hs:∀ a (j:Nat),(∀ y,(g a)[j]?=some y→∃ x,(f a)[j]?=some x∧Sub x y)) (l:List α):Sub (.sl e (l.map f)) (.sl e (l.map g)):=by
 refine .sl (by simp) (fun row hr=>?_) (fun i j b hb=>?_) (fun i j a b ha hb=>?_)
 ·obtain ⟨a,_,rfl⟩:=List.mem_map.1 hr; exact hg a
 ·unfold cellOf at *
  rw [List.getElem?_map] at *
  cases hl:l[i]? with
  | none=>rw [hl] at hb; cases hb
  | some a =>
   rw [hl] at hb
   obtain ⟨x,h1,_⟩:=hs a j b hb
   exact ⟨x,h1⟩
 ·unfold cellOf at *
  rw [List.getElem?_map] at *
  cases hl:l[i]? with
  | none=>rw [hl] at hb; cases hb
  | some q =>
   rw [hl] at ha hb
   obtain ⟨x,h1,h2⟩:=hs q j b hb
   have ha:(f q)[j]?=some a:=ha
   rw [h1] at ha; cases ha; exact h2
def goReads:Nat→List Cyc→List Int→List Cyc×List Int
 | 0,acc,l=>(acc,l)
 | n+1,acc,l=>goReads n (acc ++ [⟨1,0,sval l 7,[]⟩]) (srest l 7)
def moreC (l:List Int):Cyc×List Int:=if sval l 3=0 then (⟨0,0,0,[]⟩,srest l 3) else (⟨sval l 3,1+sval (srest l 3) 11,sval (srest (srest l 3) 11) 7,[]⟩,srest (srest (srest l 3) 11) 7)
def goMore:Nat→List Cyc→List Int→List Cyc×List Int
 | 0,acc,l=>(acc,l)
 | n+1,acc,l=>goMore n (acc ++ [(moreC l).1]) (moreC l).2
def goSteps:Nat→List Int→List Stp×List Int
 | 0,l=>([],l)
 | 1,l=>([(mkStep l).1],(mkStep l).2)
 | _+2,l=>([(mkStep l).1,(mkStep (mkStep l).2).1],(mkStep (mkStep l).2).2)
def goFill:List Cyc→List Cyc→List Int→List Cyc×List Int
 | [],acc,l=>(acc,l)
 | c :: todo,acc,l=>goFill todo (acc ++ [⟨c.bus,c.at_,c.reg,(goSteps (sval l 3).toNat (srest l 3)).1⟩]) (goSteps (sval l 3).toNat (srest l 3)).2
def mkReads (n:Nat) (l:List Int):List Cyc×List Int:=goReads n [] l
def mkMore (n:Nat) (l:List Int):List Cyc×List Int:=goMore (sval (mkReads n l).2 4).toNat (mkReads n l).1 (srest (mkReads n l).2 4)
def mkCycles (n:Nat) (l:List Int):List Cyc×List Int:=goFill (mkMore n l).1 [] (mkMore n l).2
def rwQ (done todo:List Cyc) (b a r:Int) (x:V):List (List V):=done.map cyQ ++ [I b,I a,I r,x] :: todo.map cyQ
def wirV (ws:List Wir):V:=match ws with
 | []=>.c (.slice none 0 0)
 | w :: ws=>.psl 4 (w :: ws).length 0 (w :: ws).length
def wirH (ws:List Wir):List Blk:=match ws with
 | []=>[]
 | w :: ws=>[⟨(w :: ws).length,2,(w :: ws).map wiV⟩]
def zB:List V:=[.c (.string ⟨#[]⟩),.c (.string ⟨#[]⟩),.c (.slice none 0 0),.c (.slice none 0 0),.c (.slice none 0 0),.c (.slice none 0 0),.c (.slice none 0 0),.c (.slice none 0 0)]
def bdH (nm:ByteArray) (i1 i2 i3 i4:V) (l:List Int) (cs:List Chp) (ws:List Wir):List Blk:=[⟨1,8,[zB]⟩,strB l,⟨1,8,[[.c (.string ⟨#[98,111,97,114,100]⟩),.c (.string nm),i1,i2,i3,i4,.psl 3 cs.length 0 cs.length,wirV ws]]⟩,⟨cs.length,5,cs.map chQ⟩] ++ wirH ws
theorem sub_chQ (l:List Chp):Sub (.sl 5 (l.map chQ)) (.sl 5 (l.map chV)):=sub_rows chQ chV 5 (fun _=>rfl) (fun c j y hy=>by
 match j with
 | 0=>exact ⟨_,rfl,by cases hy; exact .rfl⟩
 | 1=>exact ⟨_,rfl,by cases hy; exact .rfl⟩
 | 2=>exact ⟨_,rfl,by cases hy; exact .rfl⟩
 | 3=>exact ⟨_,rfl,by cases hy; exact .rfl⟩
 | 4=>exact ⟨_,rfl,by cases hy; exact sub_daV _⟩
 | j+5=>exact nomatch hy) l
theorem mkBrd_ok (l0:List Int):FnE Try.prog 19 [.sl 1 (cells l0)] [] (.agg (boV (mkBrd l0))) []:=by
 have hcpu:=stdCpu_ok
 have hn0:=next_ok l0 5 (by decide)
 have r0:=sval_range l0 5 (by decide)
 obtain ⟨N0,hN⟩:∃ N0:Nat,sval l0 5=(N0:Int):=⟨(sval l0 5).toNat,by omega⟩
 have hN4:N0 < 5:=by omega
 unfold mkBrd boV
 generalize hG:bdOf l0=G at *
 unfold bdOf at hG
 rw [hN,Int.toNat_natCast] at hG
 rw [hN] at hn0
 obtain ⟨G1,G2,G3⟩:=G
 obtain ⟨rl,rb,hrom⟩:=romD_ok G3
 dsimp only
 unfold romC
 generalize romD G3=rd at *
 generalize stdM=c at *
 obtain ⟨nm,ins,q1,q2,q3⟩:=c
 dsimp only [cpC] at hcpu ⊢
 generalize srest l0 5=l1 at *
 refine N.fnC Try.func19 k19 fun Q hQ hQN=>?_
 repeat' (first|(show Wo (.app _ _ _ _); refine T.appN rfl rfl ⟨by decide,by decide⟩ (by simp) (by simp) ?_)|(show Wo (.st _ _ _); refine T.st rfl rfl (vcells_psl rfl rfl) ⟨rfl,rfl⟩ rfl (Nat.le_of_ble_eq_true rfl) ?_)|(show Wc; first|refine T.call0 e37 rfl hcpu ?_|refine T.call1 1 e28 rfl rfl (hn0) ?_)|exact ⟨⟩|intro (K:KT) hK|intro hcd|refine go1 ?_ ?_|fail)
 refine N.loop (σ:=Nat×Int×List Chp×List Wir×List Int) (fun s=>[(2,.ptr 0 1 0 0),(3,.ptr 1 1 0 0),(4,.ptr 2 1 0 0),(5,I s.2.1),(22,I N0),(23,I s.1)]) (fun s=>bdH nm (.sl 4 (ins.map inC)) (.sl 4 (q1.map cyC)) (.sl 4 (q2.map cyC)) (.sl 4 (q3.map cyC)) s.2.2.2.2 s.2.2.1 s.2.2.2.1) (fun s=>s.1≤N0∧(57344≤s.2.1∧s.2.1≤57344+48 * s.1)∧s.2.2.1.length=s.1+1∧s.2.2.2.1.length≤s.1∧goBd (N0 - s.1) s.1 s.2.1 s.2.2.1 s.2.2.2.1 s.2.2.2.2=(G1,G2,G3)) (fun s=>N0 - s.1) (0,57344,[ramC],[],l1) ⟨Nat.zero_le _,⟨by show (57344:Int)≤57344; decide,by show (57344:Int)≤57344+48 * ((0:Nat):Int); decide⟩,rfl,Nat.le_refl _,hG⟩ (Weaks.gc [0,1,2,4] 1 rfl (by exact sE) rfl) fun w hi K2 hC=>?_
 obtain ⟨i,at_,cs,ws,l⟩:=w
 obtain ⟨hi,hat,hcl,hwl,hst⟩:=hi
 dsimp only at hi hat hcl hwl hst hC ⊢
 by_cases hil:i < N0
 ·have hx1:=next_ok l 8 (by decide)
  have r1:=sval_range l 8 (by decide)
  rw [show N0 - i=N0 - (i+1)+1 by omega] at hst
  unfold goBd at hst
  obtain ⟨m,hm⟩:∃ m:Nat,sval l 8=(m:Int):=⟨(sval l 8).toNat,by omega⟩
  have hm8:m < 8:=by omega
  rw [hm,Int.toNat_natCast] at hst
  rw [hm] at hx1
  have hkr:=kd_rows m hm8
  have hk:=kdN_r m hm8
  generalize kdN m=k at *
  have hsz:=sz_rows k (by omega)
  have hzr:=szN_r k
  generalize srest l 8=l2 at *
  have wi:IntKind.wrap .i32 (97+(i:Int))=97+i:=wrapi32 _ (by omega)
  have hcs:=chipN_size i (by omega)
  have hcat:binV .add (.string ⟨#[99,104,105,112,45]⟩) (.string (Utf8.encode (97+(i:Int))))=some (.string (chipN i)):=catV _ _ ⟨by decide,by rw [encSize i (by omega)]; decide⟩
  have hirq:binV .add (.string (chipN i)) (.string ⟨#[46,105,114,113]⟩)=some (.string (chipN i ++ sIrq)):=catV _ _ ⟨by omega,by decide⟩
  have e9:0+(m:Int).toNat=m:=by omega
  have e8:0+(k:Int).toNat=k:=by omega
  unfold stepBd mkChp at hst
  generalize szN k=z at *
  generalize chipN i=cn at *
  have hq:IntKind.wrap .i64 (((z:Int)+15).tdiv 16)=((z:Int)+15) / 16:=by
   rw [Int.tdiv_eq_ediv_of_nonneg (by omega)]; exact wrap64 (by omega) (by omega)
  have fin:∀ (c:Chp) (ws2:List Wir) (l9:List Int) (fr:Fr) (h:List Blk),ws2.length≤i+1→goBd (N0 - (i+1)) (i+1) (at_+((z:Int)+15) / 16 * 16) (cs ++ [c]) ws2 l9=(G1,G2,G3)→Weaks 0 fr h [(2,.ptr 0 1 0 0),(3,.ptr 1 1 0 0),(4,.ptr 2 1 0 0),(5,I (at_+((z:Int)+15) / 16 * 16)),(22,I N0),(23,I ((i:Int)+1))] ([⟨1,8,[zB]⟩,strB l9,⟨1,8,[[.c (.string ⟨#[98,111,97,114,100]⟩),.c (.string nm),.sl 4 (ins.map inC),.sl 4 (q1.map cyC),.sl 4 (q2.map cyC),.sl 4 (q3.map cyC),.psl 3 (cs.length+1) 0 (cs.length+1),wirV ws2]]⟩,⟨cs.length+1,5,cs.map chQ ++ [chQ c]⟩] ++ wirH ws2)→K2 fr h:=fun c ws2 l9 fr h hw2 hgo hW=>by
   refine hC _ _ (i+1,at_+((z:Int)+15) / 16 * 16,cs ++ [c],ws2,l9) ⟨by dsimp only; omega,by dsimp only; omega,by dsimp only; rw [List.length_append,hcl]; rfl,hw2,hgo⟩ (by dsimp only; omega) ?_
   unfold bdH
   dsimp only
   rw [List.length_append,List.map_append]
   exact hW
  clear hC
  have hwn:∀ w:Wir,ws=[]→wirV (ws ++ [w])=.psl 4 1 0 1∧wirH (ws ++ [w])=[⟨1,2,[wiV w]⟩]:=fun w h=>by subst h; exact ⟨rfl,rfl⟩
  have hwc:ws≠[]→(wirV ws=.psl 4 ws.length 0 ws.length∧wirH ws=[⟨ws.length,2,ws.map wiV⟩])∧∀ w:Wir,wirV (ws ++ [w])=.psl 4 (ws.length+1) 0 (ws.length+1)∧wirH (ws ++ [w])=[⟨ws.length+1,2,ws.map wiV ++ [wiV w]⟩]:=fun h=>by
   cases ws with
   | nil=>exact absurd rfl h
   | cons a ws=>exact ⟨⟨rfl,rfl⟩,fun w=>⟨by show V.psl 4 (a :: (ws ++ [w])).length 0 (a :: (ws ++ [w])).length=_; simp,by show [(⟨(a :: (ws ++ [w])).length,2,(a :: (ws ++ [w])).map wiV⟩:Blk)]=_; simp⟩⟩
  unfold bdH
  by_cases hk8:k=8
  ·skip
   subst hk8
   have hd:datB 8 i l2=(drvD i (256 * (1+(sval l2 2).toNat)) (256 * (1+(sval l2 2).toNat)),srest l2 2):=by unfold datB; rw [if_pos rfl]
   rw [hd] at hst
   dsimp only at hst
   unfold wirB at hst
   rw [if_pos (by omega)] at hst
   have hy1:=next_ok l2 2 (by decide)
   have ry1:=sval_range l2 2 (by decide)
   obtain ⟨q,hqn⟩:∃ q:Nat,sval l2 2=(q:Int):=⟨(sval l2 2).toNat,by omega⟩
   rw [hqn] at hy1 ry1 hst
   rw [Int.toNat_natCast] at hst
   generalize srest l2 2=l3 at *
   have hy2:=next_ok l3 3 (by decide)
   generalize sval l3 3=v3 at *
   generalize srest l3 3=l4 at *
   obtain ⟨dn,hdn⟩:∃ dn,256 * (1+q)=dn:=⟨_,rfl⟩
   rw [hdn] at hst
   have hdm:256 * (1+(q:Int))=(dn:Int):=by omega
   have hdt:((dn:Nat):Int).toNat=dn:=by omega
   obtain ⟨dat,hdat⟩:∃ dat,drvD i dn dn=dat:=⟨_,rfl⟩
   have hdl:dat.length=dn:=by rw [← hdat]; exact drvD_len i dn dn
   rw [hdat] at hst
   have hda:daV dat=.sl 1 (bcells dat):=by
    cases dat with
    | nil=>simp at hdl; omega
    | cons a b=>rfl
   by_cases hwe:ws=[]
   ·have hwn:=fun w=>hwn w hwe
    subst hwe
    rw [List.nil_append] at hst
    rw [show wirV []=.c (.slice none 0 0) from rfl,show wirH []=[] from rfl]
    repeat' (first|rw [e9]|rw [e8]|rw [wi]|rw [hq]|(show Wo (.bin .add (.k (.string _)) _); refine T.bin rfl rfl hcat ?_)|(show Wo (.bin .add _ (.k (.string _))); refine T.bin rfl rfl hirq ?_)|(show Wo (.ld _ _); refine T.ld rfl rfl rfl hkr rfl ?_)|(show Wo (.ld _ _); refine T.ld rfl rfl rfl hsz rfl ?_)|rw [hdm]|rw [hdt]|(show Wo (.mksl _ _ _ _); refine T.mksl rfl rfl ⟨by decide,by decide,by omega,by omega,by omega⟩ ?_)|(show Wo (.app _ _ _ _); refine T.appN rfl rfl ⟨by decide,by decide⟩ (by simp) (by simp) ?_)|(show Wo (.app _ _ _ _); refine T.app rfl rfl rfl ⟨by decide,by decide⟩ ⟨rfl,rfl,by rw [Nat.zero_add,List.length_map],by simp; omega⟩ ?_)|(show Wo (.st _ _ _); refine T.st rfl rfl (vcells_psl rfl rfl) ⟨rfl,rfl⟩ rfl (Nat.le_of_ble_eq_true rfl) ?_)|(show Wc; first|refine T.call1 1 e28 rfl rfl (hx1) ?_|refine T.call1 1 e28 rfl rfl (hy1) ?_)|exact ⟨⟩|intro (K:KT) hK|intro hcd|refine go1 ?_ ?_|fail)
    rw [zerosB,← drvD_zero i dn]
    refine N.loop (σ:=Nat) (fun j=>[(2,.ptr 0 1 0 0),(3,.ptr 1 1 0 0),(4,.ptr 2 1 0 0),(5,I at_),(6,I i),(7,I 8),(8,.ptr 4 1 0 0),(22,I N0),(23,I i),(53,I dn),(54,I j)]) (fun j=>[⟨1,8,[zB]⟩,strB l3,⟨1,8,[[.c (.string ⟨#[98,111,97,114,100]⟩),.c (.string nm),.sl 4 (ins.map inC),.sl 4 (q1.map cyC),.sl 4 (q2.map cyC),.sl 4 (q3.map cyC),.psl 3 cs.length 0 cs.length,.c (.slice none 0 0)]]⟩,⟨cs.length,5,cs.map chQ⟩,⟨1,5,[[.c (.string cn),I 8,I at_,I z,.psl 5 1 0 dn]]⟩,⟨1,1,bcells (drvD i dn j)⟩]) (fun j=>j≤dn) (fun j=>dn - j) 0 (Nat.zero_le _) (Weaks.gc [0,1,2,3,6,7] 1 rfl (by exact sE) (by show [_,_,_,_,_,_]=[_,_,_,outB _ _ _ ⟨cs.length,5,cs.map chQ⟩,_,outB _ _ _ ⟨1,1,bcells (drvD i dn 0)⟩]; rw [outB_flat]; rw [outB_bytes]; rfl)) fun j hj K3 hC3=>?_
    by_cases hjl:j < dn
    ·have e7:0+(j:Int).toNat=j:=by omega
     have hgj:(bcells (drvD i dn j))[j]?=some [.c (.int .u8 ((drvD i dn j).getD j 0))]:=bget (by rw [drvD_len]; exact hjl)
     have hsj:(bcells (drvD i dn j)).set j (spl [.c (.int .u8 ((drvD i dn j).getD j 0))] 0 [.c (.int .u8 (IntKind.wrap .u8 ((j:Int) * 7+i)))])=bcells (drvD i dn (j+1)):=by rw [← drvD_set i dn j hjl]; exact bcells_set _ _ _
     repeat' (first|rw [e7]|refine rS hgj ?_|rw [hsj]|exact ⟨⟩|intro (K:KT) hK|intro hcd|refine go1 ?_ ?_|fail)
     exact hC3 _ _ (j+1) (by omega) (by omega) (Weaks.gc [0,1,2,3,4,5] 1 rfl (by exact sE) (by show [_,_,_,_,_,_]=[_,_,_,outB _ _ _ ⟨cs.length,5,cs.map chQ⟩,_,outB _ _ _ ⟨1,1,bcells (drvD i dn (j+1))⟩]; rw [outB_flat]; rw [outB_bytes]; rfl))
    obtain rfl:j=dn:=by omega
    rw [hdat,← hdl]
    repeat' (first|rw [e9]|rw [e8]|rw [wi]|rw [hq]|(show Wo (.bin .add (.k (.string _)) _); refine T.bin rfl rfl hcat ?_)|(show Wo (.bin .add _ (.k (.string _))); refine T.bin rfl rfl hirq ?_)|(show Wo (.ld _ _); refine T.ld rfl rfl rfl hkr rfl ?_)|(show Wo (.ld _ _); refine T.ld rfl rfl rfl hsz rfl ?_)|(show Wo (.app _ _ _ _); refine T.appN rfl rfl ⟨by decide,by decide⟩ (by simp) (by simp) ?_)|(show Wo (.app _ _ _ _); refine T.app rfl rfl rfl ⟨by decide,by decide⟩ ⟨rfl,rfl,by rw [Nat.zero_add,List.length_map],by simp; omega⟩ ?_)|(show Wo (.st _ _ _); refine T.st rfl rfl (vcells_psl rfl rfl) ⟨rfl,rfl⟩ rfl (Nat.le_of_ble_eq_true rfl) ?_)|(show Wc; first|refine T.call1 1 e28 rfl rfl (hx1) ?_|refine T.call1 1 e28 rfl rfl (hy2) ?_)|exact ⟨⟩|intro (K:KT) hK|intro hcd|refine go1 ?_ ?_|fail)
    all_goals first|(exfalso; omega)|(rw [if_pos (by omega)] at hst; refine fin ⟨cn,8,at_,z,dat⟩ [⟨cn ++ sIrq,sCpuIrq⟩] l4 _ _ (by show 1≤i+1; omega) hst ?_; refine Weaks.gc [0,1,2,3,8] 1 rfl (by exact sE) ?_; show [_,_,_,_,_]=[_,_,_,outB _ _ _ ⟨cs.length+1,5,cs.map chQ ++ [[.c (.string cn),I 8,I at_,I z,.psl 5 1 0 dat.length]]⟩,outB _ _ _ ⟨1,2,[] ++ [wiV ⟨cn ++ sIrq,sCpuIrq⟩]⟩]; rw [outB_flatA]; show _=[_,_,_,(⟨cs.length+1,5,cs.map chQ ++ [[_,_,_,_,out _ [0,1,2,3,8] 1 (.psl 5 1 0 dat.length)]]⟩:Blk),_]; rw [out_bytesK (m:=dat) rfl rfl (Nat.le_refl _),← hda]; rfl)|(rw [if_neg (by omega)] at hst; refine fin ⟨cn,8,at_,z,dat⟩ [] l4 _ _ (Nat.zero_le _) hst ?_; refine Weaks.gc [0,1,2,3] 1 rfl (by exact sE) ?_; show [_,_,_,_]=[_,_,_,outB _ _ _ ⟨cs.length+1,5,cs.map chQ ++ [[.c (.string cn),I 8,I at_,I z,.psl 5 1 0 dat.length]]⟩]; rw [outB_flatA]; show _=[_,_,_,(⟨cs.length+1,5,cs.map chQ ++ [[_,_,_,_,out _ [0,1,2,3] 1 (.psl 5 1 0 dat.length)]]⟩:Blk)]; rw [out_bytesK (m:=dat) rfl rfl (Nat.le_refl _),← hda]; rfl)
   ·obtain ⟨⟨hV,hH⟩,hwc⟩:=hwc hwe
    rw [hV,hH]
    repeat' (first|rw [e9]|rw [e8]|rw [wi]|rw [hq]|(show Wo (.bin .add (.k (.string _)) _); refine T.bin rfl rfl hcat ?_)|(show Wo (.bin .add _ (.k (.string _))); refine T.bin rfl rfl hirq ?_)|(show Wo (.ld _ _); refine T.ld rfl rfl rfl hkr rfl ?_)|(show Wo (.ld _ _); refine T.ld rfl rfl rfl hsz rfl ?_)|rw [hdm]|rw [hdt]|(show Wo (.mksl _ _ _ _); refine T.mksl rfl rfl ⟨by decide,by decide,by omega,by omega,by omega⟩ ?_)|(show Wo (.app _ _ _ _); refine T.appN rfl rfl ⟨by decide,by decide⟩ (by simp) (by simp) ?_)|(show Wo (.app _ _ _ _); refine T.app rfl rfl rfl ⟨by decide,by decide⟩ ⟨rfl,rfl,by rw [Nat.zero_add,List.length_map],by simp; omega⟩ ?_)|(show Wo (.st _ _ _); refine T.st rfl rfl (vcells_psl rfl rfl) ⟨rfl,rfl⟩ rfl (Nat.le_of_ble_eq_true rfl) ?_)|(show Wc; first|refine T.call1 1 e28 rfl rfl (hx1) ?_|refine T.call1 1 e28 rfl rfl (hy1) ?_)|exact ⟨⟩|intro (K:KT) hK|intro hcd|refine go1 ?_ ?_|fail)
    rw [zerosB,← drvD_zero i dn]
    refine N.loop (σ:=Nat) (fun j=>[(2,.ptr 0 1 0 0),(3,.ptr 1 1 0 0),(4,.ptr 2 1 0 0),(5,I at_),(6,I i),(7,I 8),(8,.ptr 5 1 0 0),(22,I N0),(23,I i),(53,I dn),(54,I j)]) (fun j=>[⟨1,8,[zB]⟩,strB l3,⟨1,8,[[.c (.string ⟨#[98,111,97,114,100]⟩),.c (.string nm),.sl 4 (ins.map inC),.sl 4 (q1.map cyC),.sl 4 (q2.map cyC),.sl 4 (q3.map cyC),.psl 3 cs.length 0 cs.length,.psl 4 ws.length 0 ws.length]]⟩,⟨cs.length,5,cs.map chQ⟩,⟨ws.length,2,ws.map wiV⟩,⟨1,5,[[.c (.string cn),I 8,I at_,I z,.psl 6 1 0 dn]]⟩,⟨1,1,bcells (drvD i dn j)⟩]) (fun j=>j≤dn) (fun j=>dn - j) 0 (Nat.zero_le _) (Weaks.gc [0,1,2,3,4,7,8] 1 rfl (by exact sE) (by show [_,_,_,_,_,_,_]=[_,_,_,outB _ _ _ ⟨cs.length,5,cs.map chQ⟩,outB _ _ _ ⟨ws.length,2,ws.map wiV⟩,_,outB _ _ _ ⟨1,1,bcells (drvD i dn 0)⟩]; rw [outB_flat,outB_flat]; rw [outB_bytes]; rfl)) fun j hj K3 hC3=>?_
    by_cases hjl:j < dn
    ·have e7:0+(j:Int).toNat=j:=by omega
     have hgj:(bcells (drvD i dn j))[j]?=some [.c (.int .u8 ((drvD i dn j).getD j 0))]:=bget (by rw [drvD_len]; exact hjl)
     have hsj:(bcells (drvD i dn j)).set j (spl [.c (.int .u8 ((drvD i dn j).getD j 0))] 0 [.c (.int .u8 (IntKind.wrap .u8 ((j:Int) * 7+i)))])=bcells (drvD i dn (j+1)):=by rw [← drvD_set i dn j hjl]; exact bcells_set _ _ _
     repeat' (first|rw [e7]|refine rS hgj ?_|rw [hsj]|exact ⟨⟩|intro (K:KT) hK|intro hcd|refine go1 ?_ ?_|fail)
     exact hC3 _ _ (j+1) (by omega) (by omega) (Weaks.gc [0,1,2,3,4,5,6] 1 rfl (by exact sE) (by show [_,_,_,_,_,_,_]=[_,_,_,outB _ _ _ ⟨cs.length,5,cs.map chQ⟩,outB _ _ _ ⟨ws.length,2,ws.map wiV⟩,_,outB _ _ _ ⟨1,1,bcells (drvD i dn (j+1))⟩]; rw [outB_flat,outB_flat]; rw [outB_bytes]; rfl))
    obtain rfl:j=dn:=by omega
    rw [hdat,← hdl]
    repeat' (first|rw [e9]|rw [e8]|rw [wi]|rw [hq]|(show Wo (.bin .add (.k (.string _)) _); refine T.bin rfl rfl hcat ?_)|(show Wo (.bin .add _ (.k (.string _))); refine T.bin rfl rfl hirq ?_)|(show Wo (.ld _ _); refine T.ld rfl rfl rfl hkr rfl ?_)|(show Wo (.ld _ _); refine T.ld rfl rfl rfl hsz rfl ?_)|(show Wo (.app _ _ _ _); refine T.appN rfl rfl ⟨by decide,by decide⟩ (by simp) (by simp) ?_)|(show Wo (.app _ _ _ _); refine T.app rfl rfl rfl ⟨by decide,by decide⟩ ⟨rfl,rfl,by rw [Nat.zero_add,List.length_map],by simp; omega⟩ ?_)|(show Wo (.st _ _ _); refine T.st rfl rfl (vcells_psl rfl rfl) ⟨rfl,rfl⟩ rfl (Nat.le_of_ble_eq_true rfl) ?_)|(show Wc; first|refine T.call1 1 e28 rfl rfl (hx1) ?_|refine T.call1 1 e28 rfl rfl (hy2) ?_)|exact ⟨⟩|intro (K:KT) hK|intro hcd|refine go1 ?_ ?_|fail)
    all_goals first|(exfalso; omega)|(rw [if_pos (by omega)] at hst; refine fin ⟨cn,8,at_,z,dat⟩ (ws ++ [⟨cn ++ sIrq,sCpuIrq⟩]) l4 _ _ (by rw [List.length_append]; exact Nat.succ_le_succ hwl) hst ?_; rw [(hwc _).1,(hwc _).2]; refine Weaks.gc [0,1,2,3,4] 1 rfl (by exact sE) ?_; show [_,_,_,_,_]=[_,_,_,outB _ _ _ ⟨cs.length+1,5,cs.map chQ ++ [[.c (.string cn),I 8,I at_,I z,.psl 6 1 0 dat.length]]⟩,outB _ _ _ ⟨ws.length+1,2,ws.map wiV ++ [wiV ⟨cn ++ sIrq,sCpuIrq⟩]⟩]; rw [outB_flatA,outB_flatA]; show _=[_,_,_,(⟨cs.length+1,5,cs.map chQ ++ [[_,_,_,_,out _ [0,1,2,3,4] 1 (.psl 6 1 0 dat.length)]]⟩:Blk),_]; rw [out_bytesK (m:=dat) rfl rfl (Nat.le_refl _),← hda]; rfl)|(rw [if_neg (by omega),List.append_nil] at hst; refine fin ⟨cn,8,at_,z,dat⟩ ws l4 _ _ (by omega) hst ?_; rw [hV,hH]; refine Weaks.gc [0,1,2,3,4] 1 rfl (by exact sE) ?_; show [_,_,_,_,_]=[_,_,_,outB _ _ _ ⟨cs.length+1,5,cs.map chQ ++ [[.c (.string cn),I 8,I at_,I z,.psl 6 1 0 dat.length]]⟩,outB _ _ _ ⟨ws.length,2,ws.map wiV⟩]; rw [outB_flatA,outB_flat]; show _=[_,_,_,(⟨cs.length+1,5,cs.map chQ ++ [[_,_,_,_,out _ [0,1,2,3,4] 1 (.psl 6 1 0 dat.length)]]⟩:Blk),_]; rw [out_bytesK (m:=dat) rfl rfl (Nat.le_refl _),← hda]; rfl)
  ·by_cases hk2:k=2
   ·skip
    subst hk2
    have hd:datB 2 i l2=(bytesOf [sval l2 256,sval (srest l2 256) 256] (8+8 * (sval (srest (srest l2 256) 256) 3).toNat),srest (srest (srest l2 256) 256) 3):=by unfold datB; rw [if_neg (by decide),if_pos rfl]
    rw [hd] at hst
    dsimp only at hst
    unfold wirB at hst
    rw [if_neg (by omega),List.append_nil] at hst
    dsimp only at hst
    have hy1:=next_ok l2 256 (by decide)
    have hy2:=next_ok (srest l2 256) 256 (by decide)
    have hy3:=next_ok (srest (srest l2 256) 256) 3 (by decide)
    have ry3:=sval_range (srest (srest l2 256) 256) 3 (by decide)
    generalize srest (srest (srest l2 256) 256) 3=l5 at *
    obtain ⟨q,hqn⟩:∃ q:Nat,sval (srest (srest l2 256) 256) 3=(q:Int):=⟨(sval (srest (srest l2 256) 256) 3).toNat,by omega⟩
    rw [hqn] at hy3 ry3 hst
    rw [Int.toNat_natCast] at hst
    generalize srest (srest l2 256) 256=l4 at *
    generalize sval (srest l2 256) 256=v2 at *
    generalize srest l2 256=l3 at *
    generalize sval l2 256=v1 at *
    obtain ⟨dn,hdn0⟩:∃ dn,8+8 * q=dn:=⟨_,rfl⟩
    rw [hdn0] at hst
    have hdn:8+8 * (q:Int)=(dn:Int):=by omega
    have hby:=bytes_ok [v1,v2] dn (by omega)
    obtain ⟨dat,hdat⟩:∃ dat,bytesOf [v1,v2] dn=dat:=⟨_,rfl⟩
    have hdl:dat.length=dn:=by rw [← hdat]; exact bytesOf_len _ _
    rw [hdat] at hst hby
    rw [← hdl] at hby hdn
    have hda:daV dat=.sl 1 (bcells dat):=by
     cases dat with
     | nil=>simp at hdl; omega
     | cons a b=>rfl
    by_cases hwe:ws=[]
    ·have hwn:=fun w=>hwn w hwe
     subst hwe
     rw [show wirV []=.c (.slice none 0 0) from rfl,show wirH []=[] from rfl]
     repeat' (first|(show AK _ _ (.reg (⟨some 69,_,_⟩ :: _) _) _ _ _ _; refine N.cutN 9 fun K hK=>?_)|(show AKW _ _ (.reg (⟨some 78,_,_⟩ :: _) _) _ _ _ _; refine N.weak (fr1:=[(2,.ptr 0 1 0 0),(3,.ptr 1 1 0 0),(4,.ptr 2 1 0 0),(5,I at_),(7,I 2),(8,.ptr 4 1 0 0),(22,I N0),(23,I i),(73,.sl 1 (cells [v1,v2])),(77,I (dat.length:Nat))]) (h1:=[⟨1,8,[zB]⟩,strB l5,⟨1,8,[[.c (.string ⟨#[98,111,97,114,100]⟩),.c (.string nm),.sl 4 (ins.map inC),.sl 4 (q1.map cyC),.sl 4 (q2.map cyC),.sl 4 (q3.map cyC),.psl 3 cs.length 0 cs.length,.c (.slice none 0 0)]]⟩,⟨cs.length,5,cs.map chQ⟩,⟨1,5,[[.c (.string cn),I 2,I at_,I z,.c (.slice none 0 0)]]⟩]) (Weaks.gc [0,1,2,3,6] 1 rfl ⟨.rfl,.rfl,.rfl,.rfl,.rfl,.rfl,.rfl,.rfl,(by show Sub (out _ _ 1 (.psl 7 1 0 2)) _; rw [out_intsK (m:=[v1,v2]) rfl rfl (Nat.le_refl 2)]; exact .rfl),(by rw [hdn]; exact .rfl),trivial⟩ (by show [_,_,_,_,_]=[_,_,_,outB _ _ _ ⟨cs.length,5,cs.map chQ⟩,_]; rw [outB_flat]; rfl)) (N.now ?_))|rw [e9]|rw [e8]|rw [wi]|rw [hq]|(show Wo (.bin .add (.k (.string _)) _); refine T.bin rfl rfl hcat ?_)|(show Wo (.bin .add _ (.k (.string _))); refine T.bin rfl rfl hirq ?_)|(show Wo (.ld _ _); refine T.ld rfl rfl rfl hkr rfl ?_)|(show Wo (.ld _ _); refine T.ld rfl rfl rfl hsz rfl ?_)|(show Wo (.app _ _ _ _); refine T.appN rfl rfl ⟨by decide,by decide⟩ (by simp) (by simp) ?_)|(show Wo (.app _ _ _ _); refine T.app rfl rfl rfl ⟨by decide,by decide⟩ ⟨rfl,rfl,by rw [Nat.zero_add,List.length_map],by simp; omega⟩ ?_)|(show Wo (.st _ _ _); refine T.st rfl rfl (vcells_psl rfl rfl) ⟨rfl,rfl⟩ rfl (Nat.le_of_ble_eq_true rfl) ?_)|(show Wc; first|refine T.call1 1 e28 rfl rfl (hx1) ?_|refine T.call1 1 e28 rfl rfl (hy1) ?_|refine T.call1 1 e28 rfl rfl (hy2) ?_|refine T.call1 1 e28 rfl rfl (hy3) ?_|refine T.callN e38 rfl (hby) (by simp) ?_)|exact ⟨⟩|intro (K:KT) hK|intro hcd|refine go1 ?_ ?_|fail)
     all_goals first|(exfalso; omega)|(refine fin ⟨cn,2,at_,z,dat⟩ [] l5 _ _ (Nat.zero_le _) hst ?_; refine Weaks.gc [0,1,2,3] 1 rfl (by exact sE) ?_; show [_,_,_,_]=[_,_,_,outB _ _ _ ⟨cs.length+1,5,cs.map chQ ++ [[.c (.string cn),I 2,I at_,I z,.psl 5 1 0 dat.length]]⟩]; rw [outB_flatA]; show _=[_,_,_,(⟨cs.length+1,5,cs.map chQ ++ [[_,_,_,_,out _ [0,1,2,3] 1 (.psl 5 1 0 dat.length)]]⟩:Blk)]; rw [out_bytesK (m:=dat) rfl rfl (Nat.le_refl _),← hda]; rfl)
    ·obtain ⟨⟨hV,hH⟩,hwc⟩:=hwc hwe
     rw [hV,hH]
     repeat' (first|(show AK _ _ (.reg (⟨some 69,_,_⟩ :: _) _) _ _ _ _; refine N.cutN 9 fun K hK=>?_)|(show AKW _ _ (.reg (⟨some 78,_,_⟩ :: _) _) _ _ _ _; refine N.weak (fr1:=[(2,.ptr 0 1 0 0),(3,.ptr 1 1 0 0),(4,.ptr 2 1 0 0),(5,I at_),(7,I 2),(8,.ptr 5 1 0 0),(22,I N0),(23,I i),(73,.sl 1 (cells [v1,v2])),(77,I (dat.length:Nat))]) (h1:=[⟨1,8,[zB]⟩,strB l5,⟨1,8,[[.c (.string ⟨#[98,111,97,114,100]⟩),.c (.string nm),.sl 4 (ins.map inC),.sl 4 (q1.map cyC),.sl 4 (q2.map cyC),.sl 4 (q3.map cyC),.psl 3 cs.length 0 cs.length,.psl 4 ws.length 0 ws.length]]⟩,⟨cs.length,5,cs.map chQ⟩,⟨ws.length,2,ws.map wiV⟩,⟨1,5,[[.c (.string cn),I 2,I at_,I z,.c (.slice none 0 0)]]⟩]) (Weaks.gc [0,1,2,3,4,7] 1 rfl ⟨.rfl,.rfl,.rfl,.rfl,.rfl,.rfl,.rfl,.rfl,(by show Sub (out _ _ 1 (.psl 8 1 0 2)) _; rw [out_intsK (m:=[v1,v2]) rfl rfl (Nat.le_refl 2)]; exact .rfl),(by rw [hdn]; exact .rfl),trivial⟩ (by show [_,_,_,_,_,_]=[_,_,_,outB _ _ _ ⟨cs.length,5,cs.map chQ⟩,outB _ _ _ ⟨ws.length,2,ws.map wiV⟩,_]; rw [outB_flat,outB_flat]; rfl)) (N.now ?_))|rw [e9]|rw [e8]|rw [wi]|rw [hq]|(show Wo (.bin .add (.k (.string _)) _); refine T.bin rfl rfl hcat ?_)|(show Wo (.bin .add _ (.k (.string _))); refine T.bin rfl rfl hirq ?_)|(show Wo (.ld _ _); refine T.ld rfl rfl rfl hkr rfl ?_)|(show Wo (.ld _ _); refine T.ld rfl rfl rfl hsz rfl ?_)|(show Wo (.app _ _ _ _); refine T.appN rfl rfl ⟨by decide,by decide⟩ (by simp) (by simp) ?_)|(show Wo (.app _ _ _ _); refine T.app rfl rfl rfl ⟨by decide,by decide⟩ ⟨rfl,rfl,by rw [Nat.zero_add,List.length_map],by simp; omega⟩ ?_)|(show Wo (.st _ _ _); refine T.st rfl rfl (vcells_psl rfl rfl) ⟨rfl,rfl⟩ rfl (Nat.le_of_ble_eq_true rfl) ?_)|(show Wc; first|refine T.call1 1 e28 rfl rfl (hx1) ?_|refine T.call1 1 e28 rfl rfl (hy1) ?_|refine T.call1 1 e28 rfl rfl (hy2) ?_|refine T.call1 1 e28 rfl rfl (hy3) ?_|refine T.callN e38 rfl (hby) (by simp) ?_)|exact ⟨⟩|intro (K:KT) hK|intro hcd|refine go1 ?_ ?_|fail)
     all_goals first|(exfalso; omega)|(refine fin ⟨cn,2,at_,z,dat⟩ ws l5 _ _ (by omega) hst ?_; rw [hV,hH]; refine Weaks.gc [0,1,2,3,4] 1 rfl (by exact sE) ?_; show [_,_,_,_,_]=[_,_,_,outB _ _ _ ⟨cs.length+1,5,cs.map chQ ++ [[.c (.string cn),I 2,I at_,I z,.psl 6 1 0 dat.length]]⟩,outB _ _ _ ⟨ws.length,2,ws.map wiV⟩]; rw [outB_flatA,outB_flat]; show _=[_,_,_,(⟨cs.length+1,5,cs.map chQ ++ [[_,_,_,_,out _ [0,1,2,3,4] 1 (.psl 6 1 0 dat.length)]]⟩:Blk),_]; rw [out_bytesK (m:=dat) rfl rfl (Nat.le_refl _),← hda]; rfl)
   ·have hd:datB k i l2=([],l2):=by unfold datB; rw [if_neg hk8,if_neg hk2]
    rw [hd] at hst
    dsimp only at hst
    unfold wirB at hst
    have hx3:=next_ok l2 3 (by decide)
    by_cases hw:k=3∨k=5
    ·rw [if_pos (by omega)] at hst
     generalize sval l2 3=v3 at *
     generalize srest l2 3=l3 at *
     by_cases hwe:ws=[]
     ·have hwn:=fun w=>hwn w hwe
      subst hwe
      rw [List.nil_append] at hst
      rw [show wirV []=.c (.slice none 0 0) from rfl,show wirH []=[] from rfl]
      repeat' (first|rw [e9]|rw [e8]|rw [wi]|rw [hq]|(show Wo (.bin .add (.k (.string _)) _); refine T.bin rfl rfl hcat ?_)|(show Wo (.bin .add _ (.k (.string _))); refine T.bin rfl rfl hirq ?_)|(show Wo (.ld _ _); refine T.ld rfl rfl rfl hkr rfl ?_)|(show Wo (.ld _ _); refine T.ld rfl rfl rfl hsz rfl ?_)|(show Wo (.app _ _ _ _); refine T.appN rfl rfl ⟨by decide,by decide⟩ (by simp) (by simp) ?_)|(show Wo (.app _ _ _ _); refine T.app rfl rfl rfl ⟨by decide,by decide⟩ ⟨rfl,rfl,by rw [Nat.zero_add,List.length_map],by simp; omega⟩ ?_)|(show Wo (.st _ _ _); refine T.st rfl rfl (vcells_psl rfl rfl) ⟨rfl,rfl⟩ rfl (Nat.le_of_ble_eq_true rfl) ?_)|(show Wc; first|refine T.call1 1 e28 rfl rfl (hx1) ?_|refine T.call1 1 e28 rfl rfl (hx3) ?_)|exact ⟨⟩|intro (K:KT) hK|intro hcd|refine go1 ?_ ?_|fail)
      all_goals first|(exfalso; omega)|(rw [if_pos (by omega)] at hst; refine fin _ [⟨cn ++ sIrq,sCpuIrq⟩] l3 _ _ (by show 1≤i+1; omega) hst (Weaks.gc [0,1,2,3,9] 1 rfl (by exact sE) ?_); show [_,_,_,_,_]=[_,_,outB _ _ _ ⟨1,8,[[.c (.string ⟨#[98,111,97,114,100]⟩),.c (.string nm),.sl 4 (ins.map inC),.sl 4 (q1.map cyC),.sl 4 (q2.map cyC),.sl 4 (q3.map cyC),.psl 3 (cs.length+1) 0 (cs.length+1),.psl 9 1 0 1]]⟩,outB _ _ _ ⟨cs.length+1,5,cs.map chQ ++ [[.c (.string cn),I k,I at_,I z,.c (.slice none 0 0)]]⟩,outB _ _ _ ⟨1,2,[] ++ [wiV ⟨cn ++ sIrq,sCpuIrq⟩]⟩]; rw [outB_flatA]; rfl)|(rw [if_neg (by omega)] at hst; refine fin _ [] l3 _ _ (Nat.zero_le _) hst (Weaks.gc [0,1,2,3] 1 rfl (by exact sE) ?_); show [_,_,_,_]=[_,_,_,outB _ _ _ ⟨cs.length+1,5,cs.map chQ ++ [[.c (.string cn),I k,I at_,I z,.c (.slice none 0 0)]]⟩]; rw [outB_flatA]; rfl)
     ·obtain ⟨⟨hV,hH⟩,hwc⟩:=hwc hwe
      rw [hV,hH]
      repeat' (first|rw [e9]|rw [e8]|rw [wi]|rw [hq]|(show Wo (.bin .add (.k (.string _)) _); refine T.bin rfl rfl hcat ?_)|(show Wo (.bin .add _ (.k (.string _))); refine T.bin rfl rfl hirq ?_)|(show Wo (.ld _ _); refine T.ld rfl rfl rfl hkr rfl ?_)|(show Wo (.ld _ _); refine T.ld rfl rfl rfl hsz rfl ?_)|(show Wo (.app _ _ _ _); refine T.appN rfl rfl ⟨by decide,by decide⟩ (by simp) (by simp) ?_)|(show Wo (.app _ _ _ _); refine T.app rfl rfl rfl ⟨by decide,by decide⟩ ⟨rfl,rfl,by rw [Nat.zero_add,List.length_map],by simp; omega⟩ ?_)|(show Wo (.st _ _ _); refine T.st rfl rfl (vcells_psl rfl rfl) ⟨rfl,rfl⟩ rfl (Nat.le_of_ble_eq_true rfl) ?_)|(show Wc; first|refine T.call1 1 e28 rfl rfl (hx1) ?_|refine T.call1 1 e28 rfl rfl (hx3) ?_)|exact ⟨⟩|intro (K:KT) hK|intro hcd|refine go1 ?_ ?_|fail)
      all_goals first|(exfalso; omega)|(rw [if_pos (by omega)] at hst; refine fin _ (ws ++ [⟨cn ++ sIrq,sCpuIrq⟩]) l3 _ _ (by rw [List.length_append]; exact Nat.succ_le_succ hwl) hst ?_; rw [(hwc _).1,(hwc _).2]; refine Weaks.gc [0,1,2,3,4] 1 rfl (by exact sE) ?_; show [_,_,_,_,_]=[_,_,_,outB _ _ _ ⟨cs.length+1,5,cs.map chQ ++ [[.c (.string cn),I k,I at_,I z,.c (.slice none 0 0)]]⟩,outB _ _ _ ⟨ws.length+1,2,ws.map wiV ++ [wiV ⟨cn ++ sIrq,sCpuIrq⟩]⟩]; rw [outB_flatA,outB_flatA]; rfl)|(rw [if_neg (by omega),List.append_nil] at hst; refine fin _ ws l3 _ _ (by omega) hst ?_; rw [hV,hH]; refine Weaks.gc [0,1,2,3,4] 1 rfl (by exact sE) ?_; show [_,_,_,_,_]=[_,_,_,outB _ _ _ ⟨cs.length+1,5,cs.map chQ ++ [[.c (.string cn),I k,I at_,I z,.c (.slice none 0 0)]]⟩,outB _ _ _ ⟨ws.length,2,ws.map wiV⟩]; rw [outB_flatA,outB_flat]; rfl)
    ·rw [if_neg (by omega),List.append_nil] at hst
     dsimp only at hst
     by_cases hwe:ws=[]
     ·subst hwe
      rw [show wirV []=.c (.slice none 0 0) from rfl,show wirH []=[] from rfl]
      repeat' (first|rw [e9]|rw [e8]|rw [wi]|rw [hq]|(show Wo (.bin .add (.k (.string _)) _); refine T.bin rfl rfl hcat ?_)|(show Wo (.bin .add _ (.k (.string _))); refine T.bin rfl rfl hirq ?_)|(show Wo (.ld _ _); refine T.ld rfl rfl rfl hkr rfl ?_)|(show Wo (.ld _ _); refine T.ld rfl rfl rfl hsz rfl ?_)|(show Wo (.app _ _ _ _); refine T.appN rfl rfl ⟨by decide,by decide⟩ (by simp) (by simp) ?_)|(show Wo (.app _ _ _ _); refine T.app rfl rfl rfl ⟨by decide,by decide⟩ ⟨rfl,rfl,by rw [Nat.zero_add,List.length_map],by simp; omega⟩ ?_)|(show Wo (.st _ _ _); refine T.st rfl rfl (vcells_psl rfl rfl) ⟨rfl,rfl⟩ rfl (Nat.le_of_ble_eq_true rfl) ?_)|(show Wc; first|refine T.call1 1 e28 rfl rfl (hx1) ?_|refine T.call1 1 e28 rfl rfl (hx3) ?_)|exact ⟨⟩|intro (K:KT) hK|intro hcd|refine go1 ?_ ?_|fail)
      all_goals first|(exfalso; omega)|(refine fin _ [] l2 _ _ (Nat.zero_le _) hst (Weaks.gc [0,1,2,3] 1 rfl (by exact sE) ?_); show [_,_,_,_]=[_,_,_,outB _ _ _ ⟨cs.length+1,5,cs.map chQ ++ [[.c (.string cn),I k,I at_,I z,.c (.slice none 0 0)]]⟩]; rw [outB_flatA]; rfl)
     ·obtain ⟨⟨hV,hH⟩,hwc⟩:=hwc hwe
      rw [hV,hH]
      repeat' (first|rw [e9]|rw [e8]|rw [wi]|rw [hq]|(show Wo (.bin .add (.k (.string _)) _); refine T.bin rfl rfl hcat ?_)|(show Wo (.bin .add _ (.k (.string _))); refine T.bin rfl rfl hirq ?_)|(show Wo (.ld _ _); refine T.ld rfl rfl rfl hkr rfl ?_)|(show Wo (.ld _ _); refine T.ld rfl rfl rfl hsz rfl ?_)|(show Wo (.app _ _ _ _); refine T.appN rfl rfl ⟨by decide,by decide⟩ (by simp) (by simp) ?_)|(show Wo (.app _ _ _ _); refine T.app rfl rfl rfl ⟨by decide,by decide⟩ ⟨rfl,rfl,by rw [Nat.zero_add,List.length_map],by simp; omega⟩ ?_)|(show Wo (.st _ _ _); refine T.st rfl rfl (vcells_psl rfl rfl) ⟨rfl,rfl⟩ rfl (Nat.le_of_ble_eq_true rfl) ?_)|(show Wc; first|refine T.call1 1 e28 rfl rfl (hx1) ?_|refine T.call1 1 e28 rfl rfl (hx3) ?_)|exact ⟨⟩|intro (K:KT) hK|intro hcd|refine go1 ?_ ?_|fail)
      all_goals first|(exfalso; omega)|(refine fin _ ws l2 _ _ (by omega) hst ?_; rw [hV,hH]; refine Weaks.gc [0,1,2,3,4] 1 rfl (by exact sE) ?_; show [_,_,_,_,_]=[_,_,_,outB _ _ _ ⟨cs.length+1,5,cs.map chQ ++ [[.c (.string cn),I k,I at_,I z,.c (.slice none 0 0)]]⟩,outB _ _ _ ⟨ws.length,2,ws.map wiV⟩]; rw [outB_flatA,outB_flat]; rfl)
 ·obtain rfl:i=N0:=by omega
  rw [Nat.sub_self] at hst
  unfold goBd at hst
  simp only [Prod.mk.injEq] at hst
  obtain ⟨rfl,rfl,rfl⟩:=hst
  clear hC hG
  have hdr:daV rd=.sl 1 (bcells rd):=by
   cases rd with
   | nil=>exact absurd rl (by decide)
   | cons a b=>rfl
  unfold bdH
  have fin:∀ (w1 w2:V),Sub w1 w2→Sub (.agg [.c (.string ⟨#[98,111,97,114,100]⟩),.c (.string nm),.sl 4 (ins.map inC),.sl 4 (q1.map cyC),.sl 4 (q2.map cyC),.sl 4 (q3.map cyC),.sl 5 ((cs ++ [(⟨⟨#[114,111,109]⟩,1,65280,256,rd⟩:Chp)]).map chQ),w1]) (.agg [.c (.string ⟨#[98,111,97,114,100]⟩),.c (.string nm),.sl 4 (ins.map inC),.sl 4 (q1.map cyC),.sl 4 (q2.map cyC),.sl 4 (q3.map cyC),.sl 5 ((cs ++ [(⟨⟨#[114,111,109]⟩,1,65280,256,rd⟩:Chp)]).map chV),w2]):=fun w1 w2 hw=>by
   refine .agg (Eq.refl _) fun i x y hx hy=>?_
   match i with
   | 0=>cases hx; cases hy; exact .rfl
   | 1=>cases hx; cases hy; exact .rfl
   | 2=>cases hx; cases hy; exact .rfl
   | 3=>cases hx; cases hy; exact .rfl
   | 4=>cases hx; cases hy; exact .rfl
   | 5=>cases hx; cases hy; exact .rfl
   | 6=>cases hx; cases hy; exact sub_chQ _
   | 7=>cases hx; cases hy; exact hw
   | i+8=>cases hx
  have hrow:cs.map chQ ++ [[.c (.string ⟨#[114,111,109]⟩),I 1,I 65280,I 256,.sl 1 (bcells rd)]]=(cs ++ [(⟨⟨#[114,111,109]⟩,1,65280,256,rd⟩:Chp)]).map chQ:=by
   rw [List.map_append,← hdr]; rfl
  cases ws with
  | nil =>
   rw [show wirV []=.c (.slice none 0 0) from rfl,show wirH []=[] from rfl]
   repeat' (first|(show Wo (.app _ _ _ _); refine T.app rfl rfl rfl ⟨by decide,by decide⟩ ⟨rfl,rfl,by rw [Nat.zero_add,List.length_map],by simp; omega⟩ ?_)|(show Wo (.st _ _ _); refine T.st rfl rfl (vcells_psl rfl rfl) ⟨rfl,rfl⟩ rfl (Nat.le_of_ble_eq_true rfl) ?_)|refine T.call0 e39 rfl hrom ?_|exact ⟨⟩|intro (K:KT) hK|intro hcd|refine go1 ?_ ?_|fail)
   exact WS.gc [] 2 rfl rfl (by
    show Sub (.agg [.c (.string ⟨#[98,111,97,114,100]⟩),.c (.string nm),.sl 4 (ins.map inC),.sl 4 (q1.map cyC),.sl 4 (q2.map cyC),.sl 4 (q3.map cyC),out _ [] 2 (.psl 3 (cs.length+1) 0 (cs.length+1)),.c (.slice none 0 0)]) _
    rw [out_rowsK (f:=chQ) (l:=cs ++ [(⟨⟨#[114,111,109]⟩,1,65280,256,rd⟩:Chp)]) rfl (by rw [← hrow]; rfl) (by simp)]
    exact fin _ _ .nil)
  | cons a ws =>
   generalize hac:a :: ws=ac at *
   have hV:wirV ac=.psl 4 ac.length 0 ac.length:=by rw [← hac]; rfl
   have hH:wirH ac=[⟨ac.length,2,ac.map wiV⟩]:=by rw [← hac]; rfl
   rw [hV,hH]
   repeat' (first|(show Wo (.app _ _ _ _); refine T.app rfl rfl rfl ⟨by decide,by decide⟩ ⟨rfl,rfl,by rw [Nat.zero_add,List.length_map],by simp; omega⟩ ?_)|(show Wo (.st _ _ _); refine T.st rfl rfl (vcells_psl rfl rfl) ⟨rfl,rfl⟩ rfl (Nat.le_of_ble_eq_true rfl) ?_)|refine T.call0 e39 rfl hrom ?_|exact ⟨⟩|intro (K:KT) hK|intro hcd|refine go1 ?_ ?_|fail)
   exact WS.gc [] 2 rfl rfl (by
    show Sub (.agg [.c (.string ⟨#[98,111,97,114,100]⟩),.c (.string nm),.sl 4 (ins.map inC),.sl 4 (q1.map cyC),.sl 4 (q2.map cyC),.sl 4 (q3.map cyC),out _ [] 2 (.psl 3 (cs.length+1) 0 (cs.length+1)),out _ [] 2 (.psl 4 ac.length 0 ac.length)]) _
    rw [out_rowsK (f:=chQ) (l:=cs ++ [(⟨⟨#[114,111,109]⟩,1,65280,256,rd⟩:Chp)]) rfl (by rw [← hrow]; rfl) (by simp),out_rowsK (f:=wiV) (l:=ac) rfl rfl (Nat.le_refl _)]
    exact fin _ _ .rfl)
end Go.Proofs.Ytdbbnlafkndcnaa.Calc
