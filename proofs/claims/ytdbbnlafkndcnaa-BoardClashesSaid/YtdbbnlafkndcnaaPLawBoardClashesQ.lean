/- Several texts in one (FnLawRange, FnWire, PureWire, FnWireB), for the proof of LawBoardClashes. No condition beyond those in each lemma. -/
import Derived.Test.YtdbbnlafkndcnaaPLawBoardClashesP
import Derived.Test.YtdbbnlafkndcnaaPLawBoardClashesM
import Derived.Test.YtdbbnlafkndcnaaPLawBoardClashesD
import Derived.Laws.StandIn
namespace Go.Proofs.Ytdbbnlafkndcnaa.Calc
open Go Code
set_option linter.unusedSimpArgs false
set_option linter.unusedVariables false
set_option maxRecDepth 20000
set_option maxHeartbeats 8000000
attribute [local irreducible] WOpsT AW AK RK AKW UK UC
def manyR (l:List Rg) (n j:Nat):List Int:=(List.range n).map fun (k:Nat)=>sumR (l.take j) (k:Int)
def seenR (l:List Rg) (a:Int) (j:Nat):Bool:=(l.take j).any fun r=>decide (r.fr≤a∧a < r.to)
theorem boards_fact:FnE Try.prog 20 [] [] (.c (.bool true)) []:=by
 have hvc:VCpu ⟨⟨#[99]⟩,[],[],[],[]⟩:=⟨vnm_of _ (by decide +kernel),Nat.zero_le _,fun x hx=>absurd hx (by simp),fun i h=>absurd h (by simp),fun i j h=>absurd h (by simp),⟨Nat.zero_le _,fun x hx=>absurd hx (by simp)⟩,⟨Nat.zero_le _,fun x hx=>absurd hx (by simp)⟩,⟨Nat.zero_le _,fun x hx=>absurd hx (by simp)⟩⟩
 have hs:Sub (.agg [.c (.string ⟨#[98]⟩),.c (.string ⟨#[99]⟩),.c (.slice none 0 0),.c (.slice none 0 0),.c (.slice none 0 0),.c (.slice none 0 0),.sl 5 [[.c (.string ⟨#[114,97,109]⟩),I 0,I 8,I 4,.c (.slice none 0 0)]],.c (.slice none 0 0)]) (.agg (boV ⟨⟨#[98]⟩,⟨⟨#[99]⟩,[],[],[],[]⟩,[⟨⟨#[114,97,109]⟩,0,8,4,[]⟩],[]⟩)):=by
  refine .agg (Eq.refl _) fun i x y hx hy=>?_
  match i with
  | 0=>cases hx; cases hy; exact .rfl
  | 1=>cases hx; cases hy; exact .rfl
  | 2=>cases hx; cases hy; exact .nil
  | 3=>cases hx; cases hy; exact .nil
  | 4=>cases hx; cases hy; exact .nil
  | 5=>cases hx; cases hy; exact .nil
  | 6=>cases hx; cases hy; exact sub_chQ [⟨⟨#[114,97,109]⟩,0,8,4,[]⟩]
  | 7=>cases hx; cases hy; exact .nil
  | i+8=>cases hx
 have hf:=FnE.arg0 (find_k ⟨⟨#[98]⟩,⟨⟨#[99]⟩,[],[],[],[]⟩,[⟨⟨#[114,97,109]⟩,0,8,4,[]⟩],[]⟩ 9 (by intro c hc; simp only [List.mem_singleton] at hc; subst hc; decide) (by decide) (by decide)) hs
 have hk:=FnE.arg0 (bcheck_ok ⟨⟨#[98]⟩,⟨⟨#[99]⟩,[],[],[],[]⟩,[⟨⟨#[114,97,109]⟩,0,8,4,[]⟩],[]⟩ ⟨vnm_of _ (by decide +kernel),hvc,by decide,by intro c hc; simp only [List.mem_singleton] at hc; subst hc; exact .mem 4 (.inl rfl) rfl (by decide) (by decide) Bytes.nil,by intro c hc; simp only [List.mem_singleton] at hc; subst hc; exact ⟨vnm_of _ (by decide +kernel),by decide,by decide,by decide⟩,fun i j h hij=>absurd h (by simp; omega),by decide⟩ (fun w hw=>absurd hw (by simp)) (fun i h=>absurd h (by simp))) hs
 have e:findR [⟨⟨#[114,97,109]⟩,0,8,4,[]⟩] 9=.tup [I 0,I 1,.c (.bool true)]:=rfl
 dsimp only at hf
 rw [e] at hf
 refine N.fnC Try.func20 k20 fun Q hQ hQN=>?_
 repeat' (first|(show AKW _ _ (.seq (.reg (⟨some 5,_,_⟩ :: _) _) _) _ _ _ _; skip; refine N.now ?_)|exact ⟨⟩|intro (K:KT) hK|intro hcd|refine goW ?_ ?_|fail)
 refine N.weak (fr1:=[(1,.ptr 0 1 0 0)]) (h1:=[⟨1,8,[[.c (.string ⟨#[98]⟩),.c (.string ⟨#[99]⟩),.c (.slice none 0 0),.c (.slice none 0 0),.c (.slice none 0 0),.c (.slice none 0 0),.sl 5 [[.c (.string ⟨#[114,97,109]⟩),I 0,I 8,I 4,.c (.slice none 0 0)]],.c (.slice none 0 0)]]⟩]) (Weaks.gc [1] 2 rfl (by exact sE) rfl) (N.now ?_)
 repeat' (first|(show Wc; first|refine T.call0 e40 rfl hf ?_|refine T.call0 e21 rfl hk ?_)|exact ⟨⟩|intro (K:KT) hK|intro hcd|refine go1 ?_ ?_|fail)
 all_goals first|exact WS.c rfl rfl|exact WS.bool rfl (by decide)
theorem ibs_x (s:ByteArray) (c:Int):ExtE Try.prog 109 [.c (.string s),.c (.int .u8 c)] (I (firstIdx s c.toNat.toUInt8)):=by
 intro X w ι vs hn hr
 have e:vs=#[.string s,.int .u8 c]:=by
  obtain ⟨l⟩:=vs
  match l,hn with
  | [a,b],_ =>
   have h1:=hr 0 a _ rfl rfl
   have h2:=hr 1 b _ rfl rfl
   cases h1; cases h2; rfl
 subst e
 refine ⟨_,?_,.c⟩
 rw [run_callFunc_indexByte Try.func109 (by kernel_rfl) (by kernel_rfl) (by kernel_rfl) (by kernel_rfl),run_indexByte_string]
 rfl
theorem ib_ok (s:ByteArray) (c:Int):FnE Try.prog 105 [.c (.string s),.c (.int .u8 c)] [] (I (firstIdx s c.toNat.toUInt8)) []:=by
 refine N.fnC Try.func105 k105 fun Q hQ hQN=>?_
 repeat' (first|(show Wo (.xcall _ _); refine T.xcall rfl (ibs_x _ _) ?_)|exact ⟨⟩|intro (K:KT) hK|intro hcd|refine go1 ?_ ?_|fail)
 exact WS.c rfl rfl
theorem dot_ok (s:ByteArray) (hs:s≠⟨#[46]⟩):FnE Try.prog 103 [.c (.string s),.c (.string ⟨#[46]⟩)] [] (I (firstIdx s 46)) []:=by
 have hx:=ib_ok s 46
 have e:decide ((⟨#[46]⟩:ByteArray)=s)=false:=decide_eq_false fun h=>hs h.symm
 refine N.fnC Try.func103 k103 fun Q hQ hQN=>?_
 repeat' (first|(show Wo (.ixs _ _); refine T.ixs rfl rfl (by decide) rfl ?_)|rw [e]|refine T.call0 e105 rfl hx ?_|exact ⟨⟩|intro (K:KT) hK|intro hcd|refine go1 ?_ ?_|fail)
 all_goals first|exact WS.c rfl rfl|(exfalso; omega)|trace_state
theorem cutL_ok (s a b:ByteArray) (k:Nat) (hk:k < s.size) (hz:s.size≤1000) (hs:s≠⟨#[46]⟩) (hi:firstIdx s 46=k) (ha:s.extract 0 k=a) (hb:s.extract (k+1) s.size=b):FnE Try.prog 91 [.c (.string s),.c (.string ⟨#[46]⟩)] [] (.tup [.c (.string a),.c (.string b),.c (.bool true)]) []:=by
 have hx:=dot_ok s hs
 rw [hi] at hx
 have e1:((⟨#[46]⟩:ByteArray).size:Int)=1:=rfl
 refine N.fnC Try.func91 k91 fun Q hQ hQN=>?_
 repeat' (first|rw [e1]|refine T.call0 e103 rfl hx ?_|exact ⟨⟩|intro (K:KT) hK|intro hcd|refine go1 ?_ ?_|fail)
 all_goals first|(exfalso; omega)|skip
 rw [show ((k:Int)+1).toNat=k+1 by omega,Int.toNat_natCast,Int.toNat_natCast,ha,hb]
 exact WS.drop (n:=0) rfl rfl
theorem cut_ok (s a b:ByteArray) (k:Nat) (hk:k < s.size) (hz:s.size≤1000) (hs:s≠⟨#[46]⟩) (hi:firstIdx s 46=k) (ha:s.extract 0 k=a) (hb:s.extract (k+1) s.size=b):FnE Try.prog 69 [.c (.string s),.c (.string ⟨#[46]⟩)] [] (.tup [.c (.string a),.c (.string b),.c (.bool true)]) []:=by
 have hx:=cutL_ok s a b k hk hz hs hi ha hb
 refine N.fnC Try.func69 k69 fun Q hQ hQN=>?_
 repeat' (first|refine T.call0 e91 rfl hx ?_|exact ⟨⟩|intro (K:KT) hK|intro hcd|refine go1 ?_ ?_|fail)
 exact WS.drop (n:=0) rfl rfl
theorem idx1_ok (s:ByteArray) (c:Chp):FnE Try.prog 93 [.agg (chV c),.ptr 0 1 0 0] [⟨1,1,[[.c (.string s)]]⟩] (.c (.bool (decide (c.name=s)))) [⟨1,1,[[.c (.string s)]]⟩]:=by
 obtain ⟨nm,k,b,z,dat⟩:=c
 dsimp only [chV]
 refine N.fnC Try.func93 k93 fun Q hQ hQN=>?_
 repeat' (first|exact ⟨⟩|intro (K:KT) hK|intro hcd|refine go1 ?_ ?_|fail)
 exact WS.gc [0] 1 rfl (by exact oO) .rfl
theorem idxC_ok (f:Nat) (he:enters Try.prog f=true) (s:ByteArray) (l:List Chp) (i:Nat) (hi:i < l.length) (hn:l[i].name=s) (hb:∀ j,j < i→∀ hj:j < l.length,l[j].name≠s) (hl:l.length≤256) (hp:∀ x:Chp,FnE Try.prog f [.agg (chV x),.ptr 0 1 0 0] [⟨1,1,[[.c (.string s)]]⟩] (.c (.bool (decide (x.name=s)))) [⟨1,1,[[.c (.string s)]]⟩]):FnE Try.prog 92 [.sl 5 (l.map chV),.fn f [.ptr 0 1 0 0]] [⟨1,1,[[.c (.string s)]]⟩] (I i) [⟨1,1,[[.c (.string s)]]⟩]:=by
 refine N.fnC Try.func92 k92 fun Q hQ hQN=>?_
 repeat' (first|rw [List.length_map]|exact ⟨⟩|intro (K:KT) hK|intro hcd|refine go1 ?_ ?_|fail)
 refine N.loop (σ:=Nat) (fun j=>[(0,.sl 5 (l.map chV)),(1,.fn f [.ptr 0 1 0 0]),(7,I l.length),(8,I j)]) (fun j=>[⟨1,1,[[.c (.string s)]]⟩]) (fun j=>j≤i) (fun j=>i - j) 0 (Nat.zero_le _) (Weaks.sel (by exact sB) rfl) fun j hj R hC=>?_
 have hjl:j < l.length:=by omega
 have hm:=mget chV l j hjl
 have hv:=hp l[j]
 by_cases hji:j=i
 ·subst hji
  rw [hn,decide_eq_true rfl] at hv
  generalize l[j]=x at *
  obtain ⟨xn,xk,xb,xs,xd⟩:=x
  dsimp only [chV] at hm hv
  repeat' (first|refine rI hm ?_|refine T.ofFn rfl (C.read [0] he rfl hv rfl rfl rfl rfl rfl ?_)|exact ⟨⟩|intro (K:KT) hK|intro hcd|refine go1 ?_ ?_|fail)
  exact WS.gc [0] 1 rfl (by exact oO) .rfl
 ·have h1:=hb j (by omega) hjl
  rw [decide_eq_false h1] at hv
  generalize l[j]=x at *
  obtain ⟨xn,xk,xb,xs,xd⟩:=x
  dsimp only [chV] at hm hv
  repeat' (first|refine rI hm ?_|refine T.ofFn rfl (C.read [0] he rfl hv rfl rfl rfl rfl rfl ?_)|exact ⟨⟩|intro (K:KT) hK|intro hcd|refine go1 ?_ ?_|fail)
  exact hC _ _ (j+1) (by omega) (by omega) (Weaks.sel (by exact sB) rfl)
theorem bindex_ok (b:Brd) (s:ByteArray) (i:Nat) (hi:i < b.chips.length) (hn:b.chips[i].name=s) (hb:∀ j,j < i→∀ hj:j < b.chips.length,b.chips[j].name≠s) (hl:b.chips.length≤256):FnE Try.prog 70 [.agg (boV b),.c (.string s)] [] (I i) []:=by
 have hx:=idxC_ok 93 e93 s b.chips i hi hn hb hl fun x=>idx1_ok s x
 obtain ⟨bn,⟨nm,ins,r1,r2,r3⟩,cs,ws⟩:=b
 unfold boV cpC
 dsimp only [List.cons_append,List.nil_append] at hx ⊢
 refine N.fnC Try.func70 k70 fun Q hQ hQN=>?_
 repeat' (first|refine T.cP [1] e92 (hx) ?_|exact ⟨⟩|intro (K:KT) hK|intro hcd|refine go1 ?_ ?_|fail)
 exact WS.drop (n:=0) rfl rfl
theorem wire_ok (b:Brd) (w:Wir) (s:ByteArray) (k i:Nat) (hk:k < w.src.size) (hz:w.src.size≤1000) (hs:w.src≠⟨#[46]⟩) (hf:firstIdx w.src 46=k) (ha:w.src.extract 0 k=s) (hp:w.src.extract (k+1) w.src.size=⟨#[105,114,113]⟩) (hd:w.dst=sCpuIrq) (hi:i < b.chips.length) (hn:b.chips[i].name=s) (hb:∀ j,j < i→∀ hj:j < b.chips.length,b.chips[j].name≠s) (hl:b.chips.length≤256) (hkd:b.chips[i].kind=3∨b.chips[i].kind=5∨b.chips[i].kind=8):FnE Try.prog 42 [.agg (boV b),.agg (wiV w)] [] (I 0) []:=by
 have hc:=cut_ok w.src s _ k hk hz hs hf ha hp
 have hx:=bindex_ok b s i hi hn hb hl
 have hm:=mget chV b.chips i hi
 have has:FnE Try.prog 71 [I b.chips[i].kind] [] (.c (.bool true)) []:=by
  refine N.fnC Try.func71 k71 fun Q hQ hQN=>?_
  repeat' (first|exact ⟨⟩|intro (K:KT) hK|intro hcd|refine go1 ?_ ?_|fail)
  all_goals first|exact WS.c rfl rfl|exact WS.bool rfl (by simp; omega)|(exfalso; omega)|trace_state
 generalize b.chips[i]=x at *
 obtain ⟨xn,xk,xb,xs,xd⟩:=x
 obtain ⟨w1,w2⟩:=w
 obtain ⟨bn,⟨nm,ins,r1,r2,r3⟩,cs,ws⟩:=b
 dsimp only at hd hc has hl
 subst hd
 unfold boV cpC at *
 dsimp only [List.cons_append,List.nil_append,chV,wiV,sCpuIrq] at *
 refine N.fnC Try.func42 k42 fun Q hQ hQN=>?_
 repeat' (first|refine rI hm ?_|rw [Bool.not_true]|(show Wc; first|refine T.call0 e69 rfl hc ?_|refine T.call0 e70 rfl hx ?_|refine T.call0 e71 rfl has ?_)|exact ⟨⟩|intro (K:KT) hK|intro hcd|refine go1 ?_ ?_|fail)
 all_goals first|exact WS.drop (n:=0) rfl rfl|exact WS.c rfl rfl|(exfalso; omega)|trace_state
end Go.Proofs.Ytdbbnlafkndcnaa.Calc
namespace Go.Proofs.Ytdbbnlafkndcnaa.Calc
open Go
set_option linter.unusedVariables false
set_option linter.unusedSimpArgs false
instance (a b:Int):Decidable (fitsP a b):=by unfold fitsP; infer_instance
instance (s:Stp):Decidable (VStep s):=by unfold VStep; infer_instance
instance (c:Cyc):Decidable (VCyc c):=by unfold VCyc; infer_instance
instance (l:List Cyc):Decidable (VCycs l):=by unfold VCycs; infer_instance
def insB (x:Ins):Bool:=decide (0≤x.op∧x.op≤255) && vnmB x.name && decide (0≤sizeM x.mode) && decide (VCycs x.cy) && decide (opnd x.cy=sizeM x.mode)
theorem ins_of (x:Ins) (h:insB x=true):VIns x:=by
 unfold insB at h
 simp only [Bool.and_eq_true,decide_eq_true_eq] at h
 obtain ⟨⟨⟨⟨h1,h2⟩,h3⟩,h4⟩,h5⟩:=h
 exact ⟨h1,vnm_of _ h2,h3,h4,h5⟩
theorem std_ins:stdM.ins.all insB=true:=by decide +kernel
def insD:Ins:=⟨0,⟨#[]⟩,0,[]⟩
theorem std_order:(List.range (stdM.ins.length - 1)).all (fun i=>decide ((stdM.ins.getD i insD).op < (stdM.ins.getD (i+1) insD).op))=true:=by decide +kernel
def keyI (x:Ins):List Nat×Int:=(x.name.data.toList.map (·.toNat),x.mode)
theorem std_once:(stdM.ins.map keyI).Nodup:=by decide +kernel
theorem std_v:VCpu stdM:=by
 refine ⟨vnm_of _ (by decide +kernel),by decide +kernel,fun x hx=>ins_of x (List.all_eq_true.1 std_ins x hx),?_,?_,by decide +kernel,by decide +kernel,by decide +kernel⟩
 ·intro i h
  have h1:=List.all_eq_true.1 std_order i (List.mem_range.2 (by omega))
  have h1:=of_decide_eq_true h1
  rw [List.getD_eq_getElem?_getD,List.getD_eq_getElem?_getD,List.getElem?_eq_getElem (by omega),List.getElem?_eq_getElem h] at h1
  exact h1
 ·intro i j h hij ⟨e1,e2⟩
  have h1:=List.pairwise_iff_getElem.1 std_once i j (by rw [List.length_map]; omega) (by rw [List.length_map]; exact h) hij
  rw [List.getElem_map,List.getElem_map] at h1
  exact h1 (by unfold keyI; rw [e1,e2])
theorem src_v:∀ j:Nat,j < 5→6 < (chipN j ++ sIrq).size∧(chipN j ++ sIrq).size≤1000∧firstIdx (chipN j ++ sIrq) 46=6∧(chipN j ++ sIrq)≠⟨#[46]⟩∧(chipN j ++ sIrq).extract 0 6=chipN j∧(chipN j ++ sIrq).extract (6+1) (chipN j ++ sIrq).size=⟨#[105,114,113]⟩:=by decide +kernel
theorem src_inj:∀ j:Nat,j < 5→∀ k:Nat,k < j→chipN k ++ sIrq≠chipN j ++ sIrq:=by decide +kernel
structure WInv (i:Nat) (cs:List Chp) (ws:List Wir):Prop where
 len:cs.length=i+1
 num:ws.length≤i
 wr:∀ w ∈ ws,∃ j,j < i∧w=⟨chipN j ++ sIrq,sCpuIrq⟩∧∃ c,cs[j+1]?=some c∧(c.kind=3∨c.kind=5∨c.kind=8)
 pw:ws.Pairwise fun a b=>a.src≠b.src
theorem goBd_wires:∀ (n i:Nat) (a:Int) (cs:List Chp) (ws:List Wir) (l:List Int),i+n≤4→WInv i cs ws→WInv (i+n) (goBd n i a cs ws l).1 (goBd n i a cs ws l).2.1:=by
 intro n
 induction n with
 | zero=>intro i a cs ws l _ h; exact h
 | succ n ih =>
  intro i a cs ws l hn h
  unfold goBd
  generalize kdN (sval l 8).toNat=k at *
  have hc:(stepBd k i a (srest l 8)).1.kind=k:=rfl
  have hw:(stepBd k i a (srest l 8)).2.1=[]∨((stepBd k i a (srest l 8)).2.1=[⟨chipN i ++ sIrq,sCpuIrq⟩]∧((k:Int)=3∨(k:Int)=5∨(k:Int)=8)):=by
   show (wirB k (chipN i) _).1=[]∨((wirB k (chipN i) _).1=_∧_)
   unfold wirB
   by_cases h1:k=3∨k=5∨k=8
   ·rw [if_pos h1]
    dsimp only
    split
    ·exact .inr ⟨rfl,by omega⟩
    ·exact .inl rfl
   ·rw [if_neg h1]; exact .inl rfl
  generalize (stepBd k i a (srest l 8)).1=c at *
  generalize (stepBd k i a (srest l 8)).2.1=nw at *
  rw [show i+(n+1)=i+1+n by omega]
  apply ih _ _ _ _ _ (by omega)
  have old:∀ w ∈ ws,∃ j,j < i+1∧w=⟨chipN j ++ sIrq,sCpuIrq⟩∧∃ c',(cs ++ [c])[j+1]?=some c'∧(c'.kind=3∨c'.kind=5∨c'.kind=8):=fun w hw=>by
   obtain ⟨j,h1,h2,c',h3,h4⟩:=h.wr w hw
   exact ⟨j,by omega,h2,c',by rw [List.getElem?_append_left (by rw [h.len]; omega)]; exact h3,h4⟩
  rcases hw with hw|⟨hw,hk⟩
  ·subst hw
   rw [List.append_nil]
   exact ⟨by rw [List.length_append,h.len]; rfl,by have:=h.num; omega,old,h.pw⟩
  ·subst hw
   refine ⟨by rw [List.length_append,h.len]; rfl,by have:=h.num; rw [List.length_append,List.length_singleton]; omega,?_,?_⟩
   ·intro w hw
    rcases List.mem_append.1 hw with hw|hw
    ·exact old w hw
    ·simp only [List.mem_singleton] at hw; subst hw
     exact ⟨i,by omega,rfl,c,by rw [← h.len]; simp,by rw [hc]; exact hk⟩
   ·rw [List.pairwise_append]
    refine ⟨h.pw,List.pairwise_singleton ..,fun x hx y hy=>?_⟩
    simp only [List.mem_singleton] at hy; subst hy
    obtain ⟨j,h1,h2,_⟩:=h.wr x hx
    subst h2
    exact src_inj i (by omega) j h1
theorem mkBrd_wires (l:List Int):∃ n,n≤4∧(mkBrd l).chips.length=n+2∧(mkBrd l).wires.length≤n∧(∀ w ∈ (mkBrd l).wires,∃ j,j < n∧w=⟨chipN j ++ sIrq,sCpuIrq⟩∧∃ c,(mkBrd l).chips[j+1]?=some c∧c.name=chipN j∧(c.kind=3∨c.kind=5∨c.kind=8))∧(mkBrd l).wires.Pairwise fun a b=>a.src≠b.src:=by
 have r:=sval_range l 5 (by decide)
 have h:=goBd_wires (sval l 5).toNat 0 57344 [ramC] [] (srest l 5) (by omega) ⟨rfl,Nat.zero_le _,fun w hw=>absurd hw (by simp),List.Pairwise.nil⟩
 obtain ⟨a',_,h2⟩:=goBd_place (sval l 5).toNat 0 57344 [ramC] [] (srest l 5) (by omega) (by decide) ⟨rfl,by
  intro c hc; simp only [List.mem_singleton] at hc; subst hc; decide,fun j k h hjk=>absurd h (by simp; omega),fun j h=>by
   have:j=0:=by simp at h; omega
   subst this; rfl⟩
 rw [Nat.zero_add] at h h2
 refine ⟨(sval l 5).toNat,by omega,?_,h.num,?_,h.pw⟩
 ·show ((goBd (sval l 5).toNat 0 57344 [ramC] [] (srest l 5)).1 ++ [_]).length=_
  rw [List.length_append,h.len]; rfl
 ·intro w hw
  obtain ⟨j,h1,h3,c,h4,h5⟩:=h.wr w hw
  refine ⟨j,h1,h3,c,?_,?_,h5⟩
  ·show ((goBd (sval l 5).toNat 0 57344 [ramC] [] (srest l 5)).1 ++ [_])[j+1]?=_
   rw [List.getElem?_append_left (by rw [h.len]; omega)]; exact h4
  ·obtain ⟨hj,e⟩:=List.getElem?_eq_some_iff.1 h4
   rw [← e,h2.names (j+1) hj,if_neg (by omega)]; rfl
theorem mkBrd_v (l:List Int):VBoard (mkBrd l):=by
 obtain ⟨hv,hn2,hn6⟩:=mkBrd_kinds l
 obtain ⟨hpl,hap⟩:=mkBrd_places l
 obtain ⟨n,h1,h2,h3,_⟩:=mkBrd_wires l
 exact ⟨vnm_of _ (by show vnmB ⟨#[98,111,97,114,100]⟩=true; decide +kernel),std_v,by omega,hv,hpl,fun i j h hij=>(hap i j h hij).1,by omega⟩
end Go.Proofs.Ytdbbnlafkndcnaa.Calc
namespace Go.Proofs.Ytdbbnlafkndcnaa.Calc
open Go Code
set_option linter.unusedSimpArgs false
set_option linter.unusedVariables false
set_option maxRecDepth 20000
set_option maxHeartbeats 8000000
attribute [local irreducible] WOpsT AW AK RK AKW UK UC
theorem ixW_ok (l:List Wir) (w:Wir) (hl:l.length≤256) (hn:∀ x ∈ l,x.src≠w.src):FnE Try.prog 72 [.sl 2 (l.map wiV),.agg (wiV w)] [] (I (-1)) []:=by
 obtain ⟨w1,w2⟩:=w
 dsimp only [wiV] at hn ⊢
 refine N.fnC Try.func72 k72 fun Q hQ hQN=>?_
 repeat' (first|rw [List.length_map]|exact ⟨⟩|intro (K:KT) hK|intro hcd|refine go1 ?_ ?_|fail)
 refine N.loop (σ:=Nat) (fun j=>[(0,.sl 2 (l.map wiV)),(3,.ptr 0 1 0 0),(7,I l.length),(8,I j)]) (fun j=>[⟨1,2,[[.c (.string w1),.c (.string w2)]]⟩]) (fun j=>j≤l.length) (fun j=>l.length - j) 0 (Nat.zero_le _) (by exact .G [0] 1) fun j hj R hC=>?_
 by_cases hjl:j < l.length
 ·have hm:=mget wiV l j hjl
  have h1:=hn _ (List.getElem_mem hjl)
  generalize l[j]=x at *
  obtain ⟨x1,x2⟩:=x
  dsimp only [wiV] at hm h1
  have h2:¬ w1=x1:=fun h=>h1 h.symm
  repeat' (first|refine rI hm ?_|(show Wo (.eqs _ _ _ _); refine T.eqs (b:=false) rfl rfl (by simp [eqLv,eqC,h2]) ?_)|exact ⟨⟩|intro (K:KT) hK|intro hcd|refine go1 ?_ ?_|fail)
  all_goals first|exact hC _ _ (j+1) (by omega) (by omega) (by exact .G [0] 1)|trace_state
 ·obtain rfl:j=l.length:=by omega
  repeat' (first|exact ⟨⟩|intro (K:KT) hK|intro hcd|refine go1 ?_ ?_|fail)
  exact WS.c rfl rfl
theorem ctW_ok (l:List Wir) (w:Wir) (hl:l.length≤256) (hn:∀ x ∈ l,x.src≠w.src):FnE Try.prog 43 [.sl 2 (l.map wiV),.agg (wiV w)] [] (.c (.bool false)) []:=by
 have hx:=ixW_ok l w hl hn
 obtain ⟨w1,w2⟩:=w
 dsimp only [wiV] at hx ⊢
 refine N.fnC Try.func43 k43 fun Q hQ hQN=>?_
 repeat' (first|refine T.call0 e72 rfl hx ?_|exact ⟨⟩|intro (K:KT) hK|intro hcd|refine go1 ?_ ?_|fail)
 all_goals first|exact WS.bool rfl (by decide)|exact WS.c rfl rfl
theorem mkcheck_ok (l:List Int):FnE Try.prog 21 [.agg (boV (mkBrd l))] [] (I 0) []:=by
 obtain ⟨n,h1,h2,h3,h4,h5⟩:=mkBrd_wires l
 have hap:=(mkBrd_places l).2
 refine bcheck_ok _ (mkBrd_v l) (fun w hw=>?_) (fun i hi=>?_)
 ·obtain ⟨j,g1,g2,c,g3,g4,g5⟩:=h4 w hw
  obtain ⟨q1,q2,q3,q4,q5,q6⟩:=src_v j (by omega)
  obtain ⟨hj,e⟩:=List.getElem?_eq_some_iff.1 g3
  have hs:w.src=chipN j ++ sIrq:=by rw [g2]
  refine wire_ok (mkBrd l) w (chipN j) 6 (j+1) ?_ ?_ ?_ ?_ ?_ ?_ ?_ hj ?_ ?_ ?_ ?_
  ·rw [hs]; exact q1
  ·rw [hs]; exact q2
  ·rw [hs]; exact q4
  ·rw [hs]; exact q3
  ·rw [hs]; exact q5
  ·rw [hs]; exact q6
  ·rw [g2]
  ·rw [e]; exact g4
  ·intro k hk hkl
   rw [← g4,← e]
   exact (hap k (j+1) hj hk).1.1
  ·omega
  ·rw [e]; exact g5
 ·refine ctW_ok _ _ (by rw [List.length_take]; omega) fun x hx=>?_
  obtain ⟨k,hk,rfl⟩:=List.getElem_of_mem hx
  rw [List.length_take] at hk
  rw [List.getElem_take]
  exact List.pairwise_iff_getElem.1 h5 k i (by omega) hi (by omega)
end Go.Proofs.Ytdbbnlafkndcnaa.Calc
