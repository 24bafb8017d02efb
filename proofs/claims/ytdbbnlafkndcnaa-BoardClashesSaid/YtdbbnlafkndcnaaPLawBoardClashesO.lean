/- Several texts in one (FnCopy, FnLend, FnSame), for the proof of LawBoardClashes. No condition beyond those in each lemma. -/
import Derived.Test.YtdbbnlafkndcnaaPLawBoardClashesN
import Derived.Test.YtdbbnlafkndcnaaPLawBoardClashesE
import Derived.Test.YtdbbnlafkndcnaaPLawBoardClashesM
import Derived.Test.YtdbbnlafkndcnaaPLawBoardClashesD
namespace Go.Proofs.Ytdbbnlafkndcnaa.Calc
open Go Code
set_option linter.unusedSimpArgs false
set_option linter.unusedVariables false
set_option maxRecDepth 20000
set_option maxHeartbeats 8000000
attribute [local irreducible] WOpsT AW AK RK AKW UK UC
theorem cloneK_ok (a:Chp) (l:List Chp) (hl:(a :: l).length≤100):FnE Try.prog 44 [.sl 5 ((a :: l).map chV)] [] (.psl 0 2 0 (a :: l).length) [⟨2,5,(a :: l).map chV⟩]:=by
 refine N.fnC Try.func44 k44 fun Q hQ hQN=>?_
 have hl2:(List.map chV (a :: l)).length≤100:=by rw [List.length_map]; exact hl
 repeat' (first|refine T.eqnS rfl (Nat.succ_pos _) ?_|(show Wo (.app _ _ _ _); refine T.app rfl rfl rfl ⟨by decide,by decide⟩ ⟨rfl,rfl,rfl,by simp at hl ⊢; omega⟩ ?_)|exact ⟨⟩|intro (K:KT) hK|intro hcd|refine go1 ?_ ?_|fail)
 exact WS.gc [0] 1 rfl (by show [(⟨2,5,(a :: l).map chV⟩:Blk)]=[outB _ [0] 1 ⟨2,5,(a :: l).map chV⟩]; rw [outB_flat]) (by show Sub (.psl 0 2 0 ((List.map chV l).length+1)) _; rw [List.length_map]; exact .rfl)
theorem cloneX_ok (a:Ins) (l:List Ins) (hl:(a :: l).length≤1000):FnE Try.prog 17 [.sl 4 ((a :: l).map inC)] [] (.psl 0 2 0 (a :: l).length) [⟨2,4,(a :: l).map inC⟩]:=by
 refine N.fnC Try.func17 k17 fun Q hQ hQN=>?_
 have hl2:(List.map inC (a :: l)).length≤1000:=by rw [List.length_map]; exact hl
 repeat' (first|refine T.eqnS rfl (Nat.succ_pos _) ?_|(show Wo (.app _ _ _ _); refine T.app rfl rfl rfl ⟨by decide,by decide⟩ ⟨rfl,rfl,rfl,by simp at hl ⊢; omega⟩ ?_)|exact ⟨⟩|intro (K:KT) hK|intro hcd|refine go1 ?_ ?_|fail)
 exact WS.gc [0] 1 rfl (by show [(⟨2,4,(a :: l).map inC⟩:Blk)]=[outB _ [0] 1 ⟨2,4,(a :: l).map inC⟩]; rw [outB_flat]) (by show Sub (.psl 0 2 0 ((List.map inC l).length+1)) _; rw [List.length_map]; exact .rfl)
theorem cloneW_ok (l:List Wir) (hl:l.length≤1000):FnE Try.prog 46 [.sl 2 (l.map wiV)] [] (.sl 2 (l.map wiV)) []:=by
 refine N.fnC Try.func46 k46 fun Q hQ hQN=>?_
 cases l with
 | nil =>
  repeat' (first|refine T.eqnU rfl ?_|(show Wo (.app _ _ _ _); refine T.app rfl rfl rfl ⟨by decide,by decide⟩ ⟨rfl,rfl,rfl,by decide⟩ ?_)|exact ⟨⟩|intro (K:KT) hK|intro hcd|refine go1 ?_ ?_|fail)
  all_goals first|exact WS.nil|exact WS.rows (f:=wiV) (l:=[]) rfl (by simp)
 | cons a l =>
  repeat' (first|refine T.eqnS rfl (Nat.succ_pos _) ?_|(show Wo (.app _ _ _ _); refine T.app rfl rfl rfl ⟨by decide,by decide⟩ ⟨rfl,rfl,rfl,by simp at hl ⊢; omega⟩ ?_)|exact ⟨⟩|intro (K:KT) hK|intro hcd|refine go1 ?_ ?_|fail)
  exact WS.rows (f:=wiV) (l:=a :: l) rfl (by simp)
theorem set_row {α:Type} (f:α→List V) (l:List α) (i:Nat) (hi:i < l.length):(l.map f).set (i:Int).toNat (f l[i])=l.map f:=by
 rw [Int.toNat_natCast]
 apply List.ext_getElem?
 intro j
 rw [List.getElem?_set,List.length_map]
 by_cases h:i=j
 ·subst h
  rw [if_pos rfl,if_pos hi,List.getElem?_map,List.getElem?_eq_getElem hi]; rfl
 ·rw [if_neg h]
def boB (B:Brd) (c:V):List V:=.c (.string B.name) :: cpC B.cpu ++ [c,.sl 2 (B.wires.map wiV)]
theorem bcopy_ok (B:Brd) (h1:1≤B.chips.length) (h12:B.chips.length≤12) (hw:B.wires.length≤256) (hd:∀ c ∈ B.chips,c.data.length≤100000) (hc:SmlP B.cpu) (hi1:1≤B.cpu.ins.length):FnE Try.prog 22 [.agg (boV B)] [] (.agg (boB B (.psl 0 2 0 B.chips.length))) [⟨2,5,B.chips.map chV⟩]:=by
 obtain ⟨bn,⟨cn,ins,r1,r2,r3⟩,cs,ws⟩:=B
 obtain ⟨k1,k2,k3,k4,k5⟩:=hc
 dsimp only at *
 have kc:FnE Try.prog 44 [.sl 5 (cs.map chV)] [] (.psl 0 2 0 cs.length) [⟨2,5,cs.map chV⟩]:=by
  cases cs with
  | nil=>exact absurd h1 (by simp)
  | cons a t=>exact cloneK_ok a t (by omega)
 have ki:FnE Try.prog 17 [.sl 4 (ins.map inC)] [] (.psl 0 2 0 ins.length) [⟨2,4,ins.map inC⟩]:=by
  cases ins with
  | nil=>exact absurd hi1 (by simp)
  | cons a t=>exact cloneX_ok a t (by omega)
 have kw:=cloneW_ok ws (by omega)
 have kr1:=copy_ok ⟨0,⟨#[]⟩,0,r1⟩ k3
 have kr2:=copy_ok ⟨0,⟨#[]⟩,0,r2⟩ k4
 have kr3:=copy_ok ⟨0,⟨#[]⟩,0,r3⟩ k5
 unfold boB boV cpC
 dsimp only [List.cons_append,List.nil_append,inC] at kr1 kr2 kr3 ⊢
 refine N.fnC Try.func22 k22 fun Q hQ hQN=>?_
 repeat' (first|rw [rows_ren]|refine T.callN e44 rfl (kc) (by simp) ?_|exact ⟨⟩|intro (K:KT) hK|intro hcd|refine go1 ?_ ?_|fail)
 refine N.loop (σ:=Nat) (fun i=>[(1,.ptr 0 1 0 0),(2,.ptr 1 1 0 0),(13,I cs.length),(14,I i)]) (fun i=>[⟨1,8,[[.c (.string bn),.c (.string cn),.sl 4 (ins.map inC),.sl 4 (r1.map cyC),.sl 4 (r2.map cyC),.sl 4 (r3.map cyC),.psl 2 2 0 cs.length,.sl 2 (ws.map wiV)]]⟩,⟨1,8,[[.c (.string ⟨#[]⟩),.c (.string ⟨#[]⟩),.c (.slice none 0 0),.c (.slice none 0 0),.c (.slice none 0 0),.c (.slice none 0 0),.c (.slice none 0 0),.c (.slice none 0 0)]]⟩,⟨2,5,cs.map chV⟩]) (fun i=>i≤cs.length) (fun i=>cs.length - i) 0 (Nat.zero_le _) (Weaks.sel (by exact sB) rfl) fun i hi R hC=>?_
 by_cases hil:i < cs.length
 ·have hm:=mget chV cs i hil
  have hst:=set_row chV cs i hil
  have kb:=cloneB_ok cs[i].data (hd _ (List.getElem_mem hil))
  have nx:=fun fr h=>hC fr h (i+1) (by omega) (by omega)
  clear hC
  generalize cs[i]=c at *
  obtain ⟨xn,xk,xb,xs,xd⟩:=c
  dsimp only [chV] at hm hst kb
  have hst2:(cs.map chV).set (i:Int).toNat (spl [.c (.string xn),I xk,I xb,I xs,.sl 1 (bcells xd)] 4 [.sl 1 (bcells xd)])=cs.map chV:=hst
  repeat' (first|(show Wo (.ld _ _); refine T.ld rfl rfl rfl hm rfl ?_)|refine rS hm ?_|rw [hst2]|refine T.call0 e45 rfl kb ?_|exact ⟨⟩|intro (K:KT) hK|intro hcd|refine go1 ?_ ?_|fail)
  exact nx _ _ (Weaks.sel (by exact sB) rfl)
 ·obtain rfl:i=cs.length:=by omega
  clear hC
  repeat' (first|rw [rows_ren]|(show Wc; first|refine T.call0 e46 rfl kw ?_|refine T.callN e17 rfl (ki) (by simp) ?_)|exact ⟨⟩|intro (K:KT) hK|intro hcd|refine go1 ?_ ?_|fail)
  refine N.loop (σ:=Nat) (fun i=>[(1,.ptr 0 1 0 0),(2,.ptr 1 1 0 0),(43,I ins.length),(44,I i)]) (fun i=>[⟨1,8,[[.c (.string bn),.c (.string cn),.psl 3 2 0 ins.length,.sl 4 (r1.map cyC),.sl 4 (r2.map cyC),.sl 4 (r3.map cyC),.psl 2 2 0 cs.length,.sl 2 (ws.map wiV)]]⟩,⟨1,8,[[.c (.string ⟨#[]⟩),.c (.string ⟨#[]⟩),.c (.slice none 0 0),.c (.slice none 0 0),.c (.slice none 0 0),.c (.slice none 0 0),.c (.slice none 0 0),.c (.slice none 0 0)]]⟩,⟨2,5,cs.map chV⟩,⟨2,4,ins.map inC⟩]) (fun i=>i≤ins.length) (fun i=>ins.length - i) 0 (Nat.zero_le _) (Weaks.sel (by exact sB) rfl) fun i hi R hC=>?_
  by_cases hil2:i < ins.length
  ·have hm:=mget inC ins i hil2
   have hst:=set_row inC ins i hil2
   have kb:=copy_ok ins[i] (k2 _ (List.getElem_mem hil2))
   have nx:=fun fr h=>hC fr h (i+1) (by omega) (by omega)
   clear hC
   generalize ins[i]=x at *
   obtain ⟨xo,xn,xm,xc⟩:=x
   dsimp only [inC] at hm hst kb
   have hst2:(ins.map inC).set (i:Int).toNat (spl [I xo,.c (.string xn),I xm,.sl 4 (xc.map cyC)] 0 [I xo,.c (.string xn),I xm,.sl 4 (xc.map cyC)])=ins.map inC:=hst
   repeat' (first|refine rL hm ?_|refine rS hm ?_|rw [hst2]|refine T.call0 e47 rfl kb ?_|exact ⟨⟩|intro (K:KT) hK|intro hcd|refine go1 ?_ ?_|fail)
   exact nx _ _ (Weaks.sel (by exact sB) rfl)
  ·obtain rfl:i=ins.length:=by omega
   clear hC
   repeat' (first|(show AK _ _ (.loop _) _ _ _ _; refine N.unroll 4 ?_)|(show Wc; first|refine T.call0 e47 rfl kr1 ?_|refine T.call0 e47 rfl kr2 ?_|refine T.call0 e47 rfl kr3 ?_)|exact ⟨⟩|intro (K:KT) hK|intro hcd|refine go1 ?_ ?_|fail)
   exact WS.gc [2] 1 rfl (by show [_]=[outB _ [2] 1 ⟨2,5,cs.map chV⟩]; rw [outB_flat]) (by
    show Sub (.agg [_,_,out _ [2] 1 (.psl 3 2 0 ins.length),_,_,_,_,_]) _
    rw [out_rowsK (f:=inC) rfl rfl (Nat.le_refl _)]; exact .rfl)
end Go.Proofs.Ytdbbnlafkndcnaa.Calc
namespace Go.Proofs.Ytdbbnlafkndcnaa.Calc
open Go
set_option linter.unusedVariables false
mutual
def flatV:V→Bool
 | .any=>true
 | .c _=>true
 | .bit=>true
 | .agg cs=>flatL cs
 | .tup cs=>flatL cs
 | _=>false
def flatL:List V→Bool
 | []=>true
 | x :: xs=>flatV x && flatL xs
end
theorem flatL_mem:∀ {l:List V},flatL l=true→∀ x ∈ l,flatV x=true:=by
 intro l
 induction l with
 | nil=>intro _ x hx; cases hx
 | cons a l ih =>
  intro h x hx
  simp only [flatL,Bool.and_eq_true] at h
  rcases List.mem_cons.1 hx with rfl|hx
  ·exact h.1
  ·exact ih h.2 x hx
theorem Rel.flat {w:World} {own:Nat→Prop} {κ:List Place} {v:Value} {x:V} (h:Rel w own κ v x):flatV x=true→∀ {own':Nat→Prop} {κ':List Place},Rel w own' κ' v x:=by
 induction h with
 | any=>intro _ _ _; exact .any
 | bit=>intro _ _ _; exact .bit
 | c=>intro _ _ _; exact .c
 | slnil=>intro h; cases h
 | sl=>intro h; cases h
 | psl=>intro h; cases h
 | ptr=>intro h; cases h
 | dp=>intro h; cases h
 | agg hl hs h ih =>
  intro hf own' κ'
  simp only [flatV] at hf
  exact .agg hl hs fun i c x h1 h2=>ih i c x h1 h2 (flatL_mem hf x (List.mem_of_getElem? h2))
 | tup hl h ih =>
  intro hf own' κ'
  simp only [flatV] at hf
  exact .tup hl fun i c x h1 h2=>ih i c x h1 h2 (flatL_mem hf x (List.mem_of_getElem? h2))
 | fn=>intro h; cases h
 | ifc=>intro h; cases h
theorem FnE.lend {P:Program} {f:FuncId} {us vs:List V} {hin:List Blk} {r:V} (m:Nat) (hF:FnE P f us [] r []) (hu:vs.map (out hin [] m)=us) (hr:flatV r=true):FnE P f vs hin r hin:=by
 intro X w ι vals H hsz hargs
 obtain ⟨ι2,he,H2,hrel,hown⟩:=reindex H [] (by simp) (by simp) m
 have hι:ι2=[]:=by rw [he]; rfl
 subst hι
 refine (hF X w [] vals H2 (by rw [← hu,List.length_map]; exact hsz) (fun i v y hv hy=>?_)).mono ?_
 ·rw [← hu,List.getElem?_map] at hy
  obtain ⟨x,hx,rfl⟩:=Option.map_eq_some_iff.1 hy
  exact hrel _ _ (hargs i v x hv hx)
 ·rintro e w' ⟨v,ι',rfl,H',hv,hFr,hR⟩
  have hsame:∀ r,Own ι r→w'.heap[r]?=w.heap[r]?:=fun r ho=>hFr.same r (H.own_lt ho) (by rintro ⟨p,hp,_⟩; cases hp)
  have hFr2:Frm w (Own ι) w' (Own ι):=⟨hFr.size,fun r hr ho=>hFr.same r hr (by rintro ⟨p,hp,_⟩; cases hp),fun r hr=>.inl hr,hFr.os,hFr.tape,hFr.output⟩
  exact ⟨v,ι,rfl,H.grown hFr2 hsame,hv.flat hr,hFr2,Refs.refl _⟩
end Go.Proofs.Ytdbbnlafkndcnaa.Calc
namespace Go.Proofs.Ytdbbnlafkndcnaa.Calc
open Go Code
set_option linter.unusedSimpArgs false
set_option linter.unusedVariables false
set_option maxRecDepth 20000
set_option maxHeartbeats 8000000
attribute [local irreducible] WOpsT AW AK RK AKW UK UC
theorem eqSt_ok (l:List Stp) (hl:l.length≤100000):FnE Try.prog 98 [.sl 4 (l.map stC),.sl 4 (l.map stC)] [] (.c (.bool true)) []:=by
 refine N.fnC Try.func98 k98 fun Q hQ hQN=>?_
 repeat' (first|rw [List.length_map]|exact ⟨⟩|intro (K:KT) hK|intro hcd|refine go1 ?_ ?_|fail)
 all_goals first|(exfalso; omega)|skip
 refine N.loop (σ:=Nat) (fun i=>[(0,.sl 4 (l.map stC)),(1,.sl 4 (l.map stC)),(12,I l.length),(13,I i)]) (fun i=>[]) (fun i=>i≤l.length) (fun i=>l.length - i) 0 (Nat.zero_le _) (by exact .G [] 1) fun i hi R hC=>?_
 by_cases hil:i < l.length
 ·have hm:=mget stC l i hil
  generalize l[i]=x at *
  obtain ⟨x1,x2,x3,x4⟩:=x
  dsimp only [stC] at hm
  repeat' (first|refine rI hm ?_|(show Wo (.eqs _ _ _ _); refine T.eqs (b:=true) rfl rfl (by simp [eqLv,eqC]) ?_)|exact ⟨⟩|intro (K:KT) hK|intro hcd|refine go1 ?_ ?_|fail)
  all_goals first|exact hC _ _ (i+1) (by omega) (by omega) (by exact .G [] 1)|(exfalso; omega)|(exfalso; simp at *; done)
 ·obtain rfl:i=l.length:=by omega
  repeat' (first|exact ⟨⟩|intro (K:KT) hK|intro hcd|refine go1 ?_ ?_|fail)
  exact WS.c rfl rfl
theorem eqCy_ok (l:List Cyc) (hl:l.length≤100000) (f:Nat) (he:enters Try.prog f=true) (hf:∀ x ∈ l,FnE Try.prog f [.agg (cyC x),.agg (cyC x)] [] (.c (.bool true)) []):FnE Try.prog 96 [.sl 4 (l.map cyC),.sl 4 (l.map cyC),.fn f []] [] (.c (.bool true)) []:=by
 refine N.fnC Try.func96 k96 fun Q hQ hQN=>?_
 repeat' (first|rw [List.length_map]|exact ⟨⟩|intro (K:KT) hK|intro hcd|refine go1 ?_ ?_|fail)
 all_goals first|(exfalso; omega)|skip
 refine N.loop (σ:=Nat) (fun i=>[(1,.sl 4 (l.map cyC)),(2,.fn f []),(15,.sl 4 (l.map cyC)),(16,I l.length),(17,I i)]) (fun i=>[]) (fun i=>i≤l.length) (fun i=>l.length - i) 0 (Nat.zero_le _) (by exact .G [] 1) fun i hi R hC=>?_
 by_cases hil:i < l.length
 ·have hm:=mget cyC l i hil
  have hx:=hf _ (List.getElem_mem hil)
  generalize l[i]=x at *
  obtain ⟨x1,x2,x3,x4⟩:=x
  dsimp only [cyC] at hm hx
  repeat' (first|refine rI hm ?_|refine T.ofFn rfl (C.zero he rfl hx ?_)|rw [Bool.not_true]|exact ⟨⟩|intro (K:KT) hK|intro hcd|refine go1 ?_ ?_|fail)
  all_goals first|exact hC _ _ (i+1) (by omega) (by omega) (by exact .G [] 1)|(exfalso; omega)|(exfalso; simp at *; done)
 ·obtain rfl:i=l.length:=by omega
  repeat' (first|exact ⟨⟩|intro (K:KT) hK|intro hcd|refine go1 ?_ ?_|fail)
  exact WS.c rfl rfl
theorem sameCy1_ok (x:Cyc) (hx:x.steps.length≤100000):FnE Try.prog 97 [.agg (cyC x),.agg (cyC x)] [] (.c (.bool true)) []:=by
 have h:=eqSt_ok x.steps hx
 obtain ⟨x1,x2,x3,x4⟩:=x
 dsimp only [cyC] at h ⊢
 refine N.fnC Try.func97 k97 fun Q hQ hQN=>?_
 repeat' (first|refine T.call0 e98 rfl h ?_|exact ⟨⟩|intro (K:KT) hK|intro hcd|refine go1 ?_ ?_|fail)
 all_goals first|exact WS.c rfl rfl|(exfalso; omega)
theorem sameCy_ok (l:List Cyc) (hl:SmlC l):FnE Try.prog 74 [.sl 4 (l.map cyC),.sl 4 (l.map cyC)] [] (.c (.bool true)) []:=by
 have h:=eqCy_ok l (by have:=hl.1; omega) 97 e97 (fun x hx=>sameCy1_ok x (by have:=hl.2 x hx; omega))
 refine N.fnC Try.func74 k74 fun Q hQ hQN=>?_
 repeat' (first|refine T.call0 e96 rfl h ?_|exact ⟨⟩|intro (K:KT) hK|intro hcd|refine go1 ?_ ?_|fail)
 exact WS.c rfl rfl
theorem eqIn_ok (l:List Ins) (hl:l.length≤100000) (f:Nat) (he:enters Try.prog f=true) (hf:∀ x ∈ l,FnE Try.prog f [.agg (inC x),.agg (inC x)] [] (.c (.bool true)) []):FnE Try.prog 75 [.sl 4 (l.map inC),.sl 4 (l.map inC),.fn f []] [] (.c (.bool true)) []:=by
 refine N.fnC Try.func75 k75 fun Q hQ hQN=>?_
 repeat' (first|rw [List.length_map]|exact ⟨⟩|intro (K:KT) hK|intro hcd|refine go1 ?_ ?_|fail)
 all_goals first|(exfalso; omega)|skip
 refine N.loop (σ:=Nat) (fun i=>[(1,.sl 4 (l.map inC)),(2,.fn f []),(15,.sl 4 (l.map inC)),(16,I l.length),(17,I i)]) (fun i=>[]) (fun i=>i≤l.length) (fun i=>l.length - i) 0 (Nat.zero_le _) (by exact .G [] 1) fun i hi R hC=>?_
 by_cases hil:i < l.length
 ·have hm:=mget inC l i hil
  have hx:=hf _ (List.getElem_mem hil)
  generalize l[i]=x at *
  obtain ⟨x1,x2,x3,x4⟩:=x
  dsimp only [inC] at hm hx
  repeat' (first|refine rI hm ?_|refine T.ofFn rfl (C.zero he rfl hx ?_)|rw [Bool.not_true]|exact ⟨⟩|intro (K:KT) hK|intro hcd|refine go1 ?_ ?_|fail)
  all_goals first|exact hC _ _ (i+1) (by omega) (by omega) (by exact .G [] 1)|(exfalso; omega)|(exfalso; simp at *; done)
 ·obtain rfl:i=l.length:=by omega
  repeat' (first|exact ⟨⟩|intro (K:KT) hK|intro hcd|refine go1 ?_ ?_|fail)
  exact WS.c rfl rfl
theorem same1_ok (x:Ins) (hx:SmlC x.cy):FnE Try.prog 76 [.agg (inC x),.agg (inC x)] [] (.c (.bool true)) []:=by
 have h:=sameCy_ok x.cy hx
 obtain ⟨x1,x2,x3,x4⟩:=x
 dsimp only [inC] at h ⊢
 refine N.fnC Try.func76 k76 fun Q hQ hQN=>?_
 repeat' (first|refine T.call0 e74 rfl h ?_|exact ⟨⟩|intro (K:KT) hK|intro hcd|refine go1 ?_ ?_|fail)
 all_goals first|exact WS.c rfl rfl|(exfalso; omega)|(exfalso; simp at *; done)
theorem tsame_ok (c:Cpu) (hc:SmlP c):FnE Try.prog 48 [.agg (cpC c),.agg (cpC c)] [] (.c (.bool true)) []:=by
 obtain ⟨nm,ins,r1,r2,r3⟩:=c
 obtain ⟨h0,h1,h2,h3,h4⟩:=hc
 dsimp only at h0 h1 h2 h3 h4
 have g1:=sameCy_ok r1 h2
 have g2:=sameCy_ok r2 h3
 have g3:=sameCy_ok r3 h4
 have g0:=eqIn_ok ins (by omega) 76 e76 (fun x hx=>same1_ok x (h1 x hx))
 unfold cpC
 dsimp only
 have hn:decide (nm=nm)=true:=decide_eq_true rfl
 refine N.fnC Try.func48 k48 fun Q hQ hQN=>?_
 repeat' (first|rw [hn]|(show Wc; first|refine T.call0 e74 rfl g1 ?_|refine T.call0 e74 rfl g2 ?_|refine T.call0 e74 rfl g3 ?_|refine T.call0 e75 rfl g0 ?_)|exact ⟨⟩|intro (K:KT) hK|intro hcd|refine go1 ?_ ?_|fail)
 all_goals first|exact WS.c rfl rfl|(exfalso; omega)|(exfalso; simp at *; done)
end Go.Proofs.Ytdbbnlafkndcnaa.Calc
