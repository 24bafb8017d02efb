/- Several texts in one (FnBoard, FnMach), for the proof of LawBoardClashes. No condition beyond those in each lemma. -/
import Derived.Test.YtdbbnlafkndcnaaPLawBoardClashesK
import Derived.Test.YtdbbnlafkndcnaaPLawBoardClashesL
import Derived.Test.YtdbbnlafkndcnaaPLawBoardClashesD
import Derived.Test.YtdbbnlafkndcnaaPLawBoardClashesJ
namespace Go.Proofs.Ytdbbnlafkndcnaa.Calc
open Go Code
set_option linter.unusedSimpArgs false
set_option linter.unusedVariables false
set_option maxRecDepth 20000
set_option maxHeartbeats 8000000
attribute [local irreducible] WOpsT AW AK RK AKW UK UC
def Apart (c d:Chp):Prop:=c.name≠d.name∧(c.base+c.size≤d.base∨d.base+d.size≤c.base)
structure VBoard (b:Brd):Prop where
 name:VName b.name
 cpu:VCpu b.cpu
 num:b.chips.length≤12
 kinds:∀ c ∈ b.chips,VKind c
 places:∀ c ∈ b.chips,VPlace c
 apart:∀ i j (h:j < b.chips.length) (hij:i < j),Apart b.chips[i] b.chips[j]
 wnum:b.wires.length≤40
theorem bcheck_ok (b:Brd) (hb:VBoard b) (hw:∀ w ∈ b.wires,FnE Try.prog 42 [.agg (boV b),.agg (wiV w)] [] (I 0) []) (hct:∀ i (h:i < b.wires.length),FnE Try.prog 43 [.sl 2 ((b.wires.take i).map wiV),.agg (wiV b.wires[i])] [] (.c (.bool false)) []):FnE Try.prog 21 [.agg (boV b)] [] (I 0) []:=by
 obtain ⟨hn,hcpu,hnum,hki,hpl,hap,hwn⟩:=hb
 obtain ⟨bn,⟨nm,ins,r1,r2,r3⟩,cs,ws⟩:=b
 dsimp only at hn hcpu hnum hki hpl hap hwn hw hct
 have hname:=name_ok bn hn
 have htc:=tcheck_ok _ hcpu
 have hks:∀ c ∈ cs,1≤c.size∧c.size≤4096:=fun c hc=>by
  rcases hki c hc with ⟨z,hk,hs,h1,hd,hb⟩|⟨nb,hk,hs,h1,hd,hb⟩|⟨hk,hs,hd⟩|⟨nd,hk,hs,hn,hd,hb⟩
  ·omega
  ·omega
  ·rw [hs]
   rcases hk with h|h|h|h|h <;> rw [h] <;> decide
  ·omega
 unfold boV cpC at hw ⊢
 dsimp only [List.cons_append,List.nil_append] at hw ⊢
 dsimp only [cpC] at htc
 refine N.fnC Try.func21 k21 fun Q hQ hQN=>?_
 repeat' (first|rw [List.length_map]|rw [Bool.not_true]|(show Wc; first|refine T.call0 e30 rfl hname ?_|refine T.call0 e15 rfl htc ?_)|exact ⟨⟩|intro (K:KT) hK|intro hcd|refine go1 ?_ ?_|fail)
 all_goals first|(exfalso; omega)|skip
 refine N.loop (σ:=Nat) (fun i=>[(1,.ptr 0 1 0 0),(27,.sl 5 (cs.map chV)),(28,I cs.length),(29,I i)]) (fun i=>[⟨1,8,[[.c (.string bn),.c (.string nm),.sl 4 (ins.map inC),.sl 4 (r1.map cyC),.sl 4 (r2.map cyC),.sl 4 (r3.map cyC),.sl 5 (cs.map chV),.sl 2 (ws.map wiV)]]⟩]) (fun i=>i≤cs.length) (fun i=>cs.length - i) 0 (Nat.zero_le _) (Weaks.sel (by exact sB) rfl) fun i hi R hC=>?_
 by_cases hil:i < cs.length
 ·have hm:=mget chV cs i hil
  have hck:=check_v _ (hki _ (List.getElem_mem hil)) (hpl _ (List.getElem_mem hil))
  have hsz:=hks _ (List.getElem_mem hil)
  have hp:=hpl _ (List.getElem_mem hil)
  have hap2:=fun j hj=>hap j i hil hj
  generalize hx:cs[i]=x at *
  have e2:(List.drop (Int.toNat 0) (cs.map chV)).take ((i:Int).toNat - Int.toNat 0)=(cs.take i).map chV:=by
   rw [show Int.toNat 0=0 from rfl,List.drop_zero,Int.toNat_natCast,Nat.sub_zero,List.map_take]
  have e3:(cs.map chV).take i=(cs.take i).map chV:=List.map_take.symm
  have e4:(cs.take i).length=i:=by rw [List.length_take]; omega
  obtain ⟨xn,xk,xb,xs,xd⟩:=x
  obtain ⟨_,_,p1,p2⟩:=hp
  dsimp only [chV] at hm hck p1 p2 hsz
  repeat' (first|refine rI hm ?_|rw [e2]|rw [e3]|rw [List.length_map]|rw [e4]|(show Wo (.slc _ _ _ _); refine T.slcS rfl rfl rfl rfl (by rw [List.length_map]; omega) ?_)|refine T.call0 e41 rfl hck ?_|exact ⟨⟩|intro (K:KT) hK|intro hcd|refine go1 ?_ ?_|fail)
  refine N.loop (σ:=Nat) (fun k=>[(1,.ptr 0 1 0 0),(5,.ptr 1 1 0 0),(27,.sl 5 (cs.map chV)),(28,I cs.length),(29,I i),(42,.sl 5 ((cs.take i).map chV)),(43,I i),(44,I k)]) (fun k=>[⟨1,8,[[.c (.string bn),.c (.string nm),.sl 4 (ins.map inC),.sl 4 (r1.map cyC),.sl 4 (r2.map cyC),.sl 4 (r3.map cyC),.sl 5 (cs.map chV),.sl 2 (ws.map wiV)]]⟩,⟨1,5,[[.c (.string xn),I xk,I xb,I xs,.sl 1 (bcells xd)]]⟩]) (fun k=>k≤i) (fun k=>i - k) 0 (Nat.zero_le _) (Weaks.sel (by exact sB) rfl) fun k hk R2 hC2=>?_
  by_cases hkl:k < i
  ·have hm2:((cs.take i).map chV)[((k:Nat):Int).toNat]?=some (chV cs[k]):=by
    rw [Int.toNat_natCast,List.getElem?_map,List.getElem?_take_of_lt hkl,List.getElem?_eq_getElem (by omega)]; rfl
   have ha:=hap2 k hkl
   have hsz2:=hks _ (List.getElem_mem (show k < cs.length by omega))
   have hp2:=hpl _ (List.getElem_mem (show k < cs.length by omega))
   generalize cs[k]=y at *
   obtain ⟨yn,yk,yb,ys,yd⟩:=y
   obtain ⟨_,_,p3,p4⟩:=hp2
   obtain ⟨a1,a2⟩:=ha
   dsimp only [chV] at hm2 a1 a2 p3 p4 hsz2
   have hne:decide (yn=xn)=false:=decide_eq_false a1
   repeat' (first|refine rI hm2 ?_|rw [hne]|exact ⟨⟩|intro (K:KT) hK|intro hcd|refine go1 ?_ ?_|fail)
   all_goals first|exact hC2 _ _ (k+1) (by omega) (by omega) (by exact .G [0,1] 1)|(exfalso; omega)|trace_state
  ·obtain rfl:k=i:=by omega
   repeat' (first|exact ⟨⟩|intro (K:KT) hK|intro hcd|refine go1 ?_ ?_|fail)
   exact hC _ _ (k+1) (by omega) (by omega) (by exact .G [0] 1)
 ·obtain rfl:i=cs.length:=by omega
  clear hC
  repeat' (first|rw [List.length_map]|exact ⟨⟩|intro (K:KT) hK|intro hcd|refine go1 ?_ ?_|fail)
  all_goals first|(exfalso; omega)|skip
  refine N.loop (σ:=Nat) (fun i=>[(1,.ptr 0 1 0 0),(80,.sl 2 (ws.map wiV)),(81,I ws.length),(82,I i)]) (fun i=>[⟨1,8,[[.c (.string bn),.c (.string nm),.sl 4 (ins.map inC),.sl 4 (r1.map cyC),.sl 4 (r2.map cyC),.sl 4 (r3.map cyC),.sl 5 (cs.map chV),.sl 2 (ws.map wiV)]]⟩]) (fun i=>i≤ws.length) (fun i=>ws.length - i) 0 (Nat.zero_le _) (Weaks.sel (by exact sB) rfl) fun i hi R hC=>?_
  by_cases hil:i < ws.length
  ·have hm:=mget wiV ws i hil
   have h1:=hw _ (List.getElem_mem hil)
   have h2:=hct i hil
   have e2:(List.drop (Int.toNat 0) (ws.map wiV)).take ((i:Int).toNat - Int.toNat 0)=(ws.take i).map wiV:=by
    rw [show Int.toNat 0=0 from rfl,List.drop_zero,Int.toNat_natCast,Nat.sub_zero,List.map_take]
   have e3:(ws.map wiV).take i=(ws.take i).map wiV:=List.map_take.symm
   generalize ws[i]=w at *
   obtain ⟨w1,w2⟩:=w
   dsimp only [wiV] at hm h1 h2
   repeat' (first|refine rI hm ?_|rw [e2]|rw [e3]|(show Wo (.slc _ _ _ _); refine T.slcS rfl rfl rfl rfl (by rw [List.length_map]; omega) ?_)|(show Wc; first|refine T.call0 e42 rfl h1 ?_|refine T.call0 e43 rfl h2 ?_)|exact ⟨⟩|intro (K:KT) hK|intro hcd|refine go1 ?_ ?_|fail)
   all_goals first|exact hC _ _ (i+1) (by omega) (by omega) (by exact .G [0] 1)|(exfalso; omega)|trace_state
  ·obtain rfl:i=ws.length:=by omega
   repeat' (first|exact ⟨⟩|intro (K:KT) hK|intro hcd|refine go1 ?_ ?_|fail)
   exact WS.c rfl rfl
def hasA (a:Int) (c:Chp):Bool:=decide (c.base≤a∧a < c.base+c.size)
def findC (cs:List Chp) (a:Int):Option Nat:=cs.findIdx? (hasA a)
def findR (cs:List Chp) (a:Int):V:=match findC cs a with
 | some i=>.tup [I i,I (a - (cs.getD i ramC).base),.c (.bool true)]
 | none=>.tup [I 0,I 0,.c (.bool false)]
theorem wrapU64 (n:Int) (h:0≤n∧n < 9223372036854775808):IntKind.wrap .u64 n=n:=by
 simp only [IntKind.wrap,IntKind.signed,IntKind.bits]
 simp
 omega
theorem subU64 (a b:Int) (h:0≤b∧b≤a∧a < 9223372036854775808):binV .sub (.int .u64 a) (.int .u64 b)=some (.int .u64 (a - b)):=by
 have:=wrapU64 (a - b) (by omega)
 simp only [binV,this]
 rw [if_pos trivial]
theorem find_k (b:Brd) (a:Int) (hc:∀ c ∈ b.chips,0≤c.base∧c.base≤65536∧1≤c.size∧c.size≤65536) (hn:b.chips.length≤1000) (ha:0≤a∧a < 65536):FnE Try.prog 40 [.agg (boV b),I a] [] (findR b.chips a) []:=by
 obtain ⟨bn,⟨nm,ins,r1,r2,r3⟩,cs,ws⟩:=b
 dsimp only at hc hn
 unfold boV cpC
 dsimp only [List.cons_append,List.nil_append]
 generalize hF:findR cs a=F
 refine N.fnC Try.func40 k40 fun Q hQ hQN=>?_
 repeat' (first|rw [List.length_map]|exact ⟨⟩|intro (K:KT) hK|intro hcd|refine go1 ?_ ?_|fail)
 refine N.loop (σ:=Nat) (fun i=>[(1,I a),(10,.sl 5 (cs.map chV)),(11,I cs.length),(12,I i)]) (fun i=>[]) (fun i=>i≤cs.length∧∀ j,j < i→∀ hj:j < cs.length,hasA a cs[j]=false) (fun i=>cs.length - i) 0 ⟨Nat.zero_le _,fun j hj=>absurd hj (by omega)⟩ (by exact .G [] 1) fun i hi R hC=>?_
 obtain ⟨hi,hpre⟩:=hi
 by_cases hil:i < cs.length
 ·have hm:=mget chV cs i hil
  have hx:=hc _ (List.getElem_mem hil)
  have hyes:hasA a cs[i]=true→F=.tup [I i,I (a - cs[i].base),.c (.bool true)]:=fun h=>by
   rw [← hF]
   unfold findR findC
   rw [show cs.findIdx? (hasA a)=some i from List.findIdx?_eq_some_iff_getElem.2 ⟨hil,h,fun j hj=>by rw [hpre j hj (by omega)]; decide⟩]
   simp [hil]
  have hno:hasA a cs[i]=false→∀ j,j < i+1→∀ hj:j < cs.length,hasA a cs[j]=false:=fun h j hj hjl=>by
   by_cases hji:j=i
   ·subst hji; exact h
   ·exact hpre j (by omega) hjl
  generalize cs[i]=x at *
  obtain ⟨xn,xk,xb,xs,xd⟩:=x
  dsimp only [chV,hasA] at hm hx hyes hno
  have u1:=wrapU64 a (by omega)
  have u2:=wrapU64 xb (by omega)
  have u3:=wrapU64 xs (by omega)
  repeat' (first|refine rI hm ?_|rw [u1]|rw [u2]|rw [u3]|(show Wo (.bin _ _ _); refine T.bin rfl rfl (subU64 a xb (by omega)) ?_)|exact ⟨⟩|intro (K:KT) hK|intro hcd|refine go1 ?_ ?_|fail)
  all_goals first|(exfalso; omega)|(rw [hyes (decide_eq_true (by omega))]; exact WS.drop (n:=0) rfl rfl)|exact hC _ _ (i+1) ⟨by omega,hno (decide_eq_false (by omega))⟩ (by omega) (by exact .G [] 1)|trace_state
 ·obtain rfl:i=cs.length:=by omega
  have hF:F=.tup [I 0,I 0,.c (.bool false)]:=by
   rw [← hF]
   unfold findR findC
   rw [show cs.findIdx? (hasA a)=none from List.findIdx?_eq_none_iff.2 fun x hx=>by obtain ⟨j,hj,rfl⟩:=List.getElem_of_mem hx; exact hpre j hj hj]
  subst hF
  repeat' (first|exact ⟨⟩|intro (K:KT) hK|intro hcd|refine go1 ?_ ?_|fail)
  exact WS.drop (n:=0) rfl rfl
def maV (t:Int) (r:Nat→Int) (op a:Int) (b:Bool) (ds:List Dv) (x y z:Int):List V:=[I t,I (r 0),I (r 1),I (r 2),I (r 3),I (r 4),I (r 5),I (r 6),I (r 7),I (r 8),I op,I a,.c (.bool b),.sl 2 (ds.map dvC),I x,I y,I z]
instance:Flat dvC:=⟨fun a x hx=>by simp [dvC] at hx; rcases hx with rfl|rfl <;> exact .inr ⟨_,_,rfl⟩⟩
def rstR:Nat→Int:=fun i=>if i=4 then 4 else 0
instance:Flat (fun n:Int=>[I n]):=⟨fun a x hx=>by simp at hx; subst hx; exact .inl ⟨_,rfl⟩⟩
instance:Flat (fun n:Int=>[V.c (.int .u8 n)]):=⟨fun a x hx=>by simp at hx; subst hx; exact .inl ⟨_,rfl⟩⟩
theorem cloneB_ok (l:List Int) (hl:l.length≤100000):FnE Try.prog 45 [.sl 1 (bcells l)] [] (.sl 1 (bcells l)) []:=by
 unfold bcells
 refine N.fnC Try.func45 k45 fun Q hQ hQN=>?_
 cases l with
 | nil =>
  repeat' (first|refine T.eqnU rfl ?_|(show Wo (.app _ _ _ _); refine T.app rfl rfl rfl ⟨by decide,by decide⟩ ⟨rfl,rfl,rfl,by decide⟩ ?_)|exact ⟨⟩|intro (K:KT) hK|intro hcd|refine go1 ?_ ?_|fail)
  all_goals first|exact WS.nil|exact WS.rows (f:=fun n:Int=>[V.c (.int .u8 n)]) (l:=[]) rfl (by simp)
 | cons a l =>
  repeat' (first|refine T.eqnS rfl (Nat.succ_pos _) ?_|(show Wo (.app _ _ _ _); refine T.app rfl rfl rfl ⟨by decide,by decide⟩ ⟨rfl,rfl,rfl,by simp at hl ⊢; omega⟩ ?_)|exact ⟨⟩|intro (K:KT) hK|intro hcd|refine go1 ?_ ?_|fail)
  exact WS.rows (f:=fun n:Int=>[V.c (.int .u8 n)]) (l:=a :: l) rfl (by simp)
end Go.Proofs.Ytdbbnlafkndcnaa.Calc
