/- Several texts in one (FnLawClash), for the proof of LawBoardClashes. No condition beyond those in each lemma. -/
import Derived.Test.YtdbbnlafkndcnaaPLawBoardClashesP
import Derived.Test.YtdbbnlafkndcnaaPLawBoardClashesQ
import Derived.Test.YtdbbnlafkndcnaaPLawBoardClashesD
namespace Go.Proofs.Ytdbbnlafkndcnaa.Calc
open Go Code
set_option linter.unusedSimpArgs false
set_option linter.unusedVariables false
set_option maxRecDepth 20000
set_option maxHeartbeats 8000000
attribute [local irreducible] WOpsT AW AK RK AKW UK UC
theorem boB_lend (B:Brd) (v:Nat) (cs:List Chp):out [⟨v,5,cs.map chV⟩] [] 1 (.agg (boB B (.psl 0 v 0 cs.length)))=.agg (boV { B with chips:=cs }):=by
 show V.agg [_,_,_,_,_,_,out _ [] 1 (.psl 0 v 0 cs.length),_]=_
 rw [out_rowsK (f:=chV) rfl rfl (Nat.le_refl _)]; rfl
theorem boB_8 (B:Brd) (c:V):(boB B c).take 8=boB B c:=rfl
theorem boB_zero (B:Brd) (c:V):spl [V.c (.string ⟨#[]⟩),.c (.string ⟨#[]⟩),.c (.slice none 0 0),.c (.slice none 0 0),.c (.slice none 0 0),.c (.slice none 0 0),.c (.slice none 0 0),.c (.slice none 0 0)] 0 (boB B c)=boB B c:=rfl
theorem boB_ren (B:Brd) (c:V) (ks:List Nat):(boB B c).map (ren ks)=boB B (ren ks c):=rfl
theorem clash_go (l:List Int) (i0 k0 at0:Int) (B:Brd) (hbd:FnE Try.prog 19 [.sl 1 (cells l)] [] (.agg (boV B)) []) (hbf:FnE Try.prog 20 [] [] (.c (.bool true)) []) (hck:FnE Try.prog 21 [.agg (boV B)] [] (I 0) []) (hn:1≤B.chips.length) (hn6:B.chips.length≤12) (i k:Nat) (hi:i0 % B.chips.length=i) (hk:k0 % B.chips.length=k) (hil:i < B.chips.length) (hkl:k < B.chips.length)
  (hsz:∀ c ∈ B.chips,1≤c.size∧c.size≤4096) (hpl:∀ c ∈ B.chips,0≤c.base∧c.base+c.size≤65536)
  (hcp:FnE Try.prog 22 [.agg (boV B)] [] (.agg (boB B (.psl 0 2 0 B.chips.length))) [⟨2,5,B.chips.map chV⟩])
  (hsm:FnE Try.prog 23 [.agg (boV B),.agg (boV B)] [] (.c (.bool true)) [])
  (b':Int) (hb':b'=min (B.chips[k].base+at0 % B.chips[k].size) (65536 - B.chips[i].size))
  (hcc:i≠k→FnE Try.prog 21 [.agg (boV { B with chips:=B.chips.set i { B.chips[i] with base:=b' } })] [] (I 16) [])
  (hcd:i≠k→FnE Try.prog 21 [.agg (boV { B with chips:=B.chips.set i { B.chips[i] with name:=B.chips[k].name } })] [] (I 5) [])
  (hne:i≠k→FnE Try.prog 23 [.agg (boV { B with chips:=B.chips.set i { B.chips[i] with base:=b' } }),.agg (boV B)] [] (.c (.bool false)) []):FnE Try.prog 5 [.sl 1 (cells l),I i0,I k0,I at0] [] (.c (.bool true)) []:=by
 have b1:=below_ok i0 B.chips.length (by omega) (by omega)
 have b2:=below_ok k0 B.chips.length (by omega) (by omega)
 rw [hi] at b1
 rw [hk] at b2
 have hszk:=hsz _ (List.getElem_mem hkl)
 have hszi:=hsz _ (List.getElem_mem hil)
 have hplk:=hpl _ (List.getElem_mem hkl)
 have hpli:=hpl _ (List.getElem_mem hil)
 have b3:=below_ok at0 B.chips[k].size (by omega) (by omega)
 have hr1:=Int.emod_nonneg at0 (show B.chips[k].size≠0 by omega)
 have hr2:=Int.emod_lt_of_pos at0 (show 0 < B.chips[k].size by omega)
 by_cases hik:i=k
 ·subst hik
  refine N.fnC Try.func5 k5 fun Q hQ hQN=>?_
  repeat' (first|rw [boV_zero]|rw [boV_t8]|rw [boV_ren]|rw [List.length_map]|(show Wc; first|refine T.call0 e19 rfl hbd ?_|refine T.call0 e20 rfl hbf ?_|refine T.call0 e21 rfl hck ?_|refine T.call0 e6 rfl b1 ?_|refine T.call0 e6 rfl b2 ?_)|exact ⟨⟩|intro (K:KT) hK|intro hcd|refine go1 ?_ ?_|fail)
  all_goals first|exact WS.c rfl rfl|(exfalso; omega)
 ·have hcc:=hcc hik
  have hcd:=hcd hik
  have hne:=hne hik
  have hm:=mget chV B.chips i hil
  have hm2:=mget chV B.chips k hkl
  have hs1:FnE Try.prog 23 [.agg (boB B (.psl 0 2 0 B.chips.length)),.agg (boV B)] [⟨2,5,B.chips.map chV⟩] (.c (.bool true)) [⟨2,5,B.chips.map chV⟩]:=FnE.lend 1 hsm (by
   show [out _ _ 1 (.agg (boB B _)),V.agg (boV B)]=_
   rw [boB_lend]) rfl
  have hcc2:FnE Try.prog 21 [.agg (boB B (.psl 0 2 0 B.chips.length))] [⟨2,5,(B.chips.set i { B.chips[i] with base:=b' }).map chV⟩] (I 16) [⟨2,5,(B.chips.set i { B.chips[i] with base:=b' }).map chV⟩]:=FnE.lend 1 hcc (by
   have:=boB_lend B 2 (B.chips.set i { B.chips[i] with base:=b' })
   rw [List.length_set] at this
   show [out _ _ 1 (.agg (boB B _))]=_
   rw [this]) rfl
  have hcd2:FnE Try.prog 21 [.agg (boB B (.psl 0 2 0 B.chips.length))] [⟨2,5,(B.chips.set i { B.chips[i] with name:=B.chips[k].name }).map chV⟩] (I 5) [⟨2,5,(B.chips.set i { B.chips[i] with name:=B.chips[k].name }).map chV⟩]:=FnE.lend 1 hcd (by
   have:=boB_lend B 2 (B.chips.set i { B.chips[i] with name:=B.chips[k].name })
   rw [List.length_set] at this
   show [out _ _ 1 (.agg (boB B _))]=_
   rw [this]) rfl
  have hne2:FnE Try.prog 23 [.agg (boB B (.psl 0 2 0 B.chips.length)),.agg (boV B)] [⟨2,5,(B.chips.set i { B.chips[i] with base:=b' }).map chV⟩] (.c (.bool false)) [⟨2,5,(B.chips.set i { B.chips[i] with base:=b' }).map chV⟩]:=FnE.lend 1 hne (by
   have:=boB_lend B 2 (B.chips.set i { B.chips[i] with base:=b' })
   rw [List.length_set] at this
   show [out _ _ 1 (.agg (boB B _)),V.agg (boV B)]=_
   rw [this]) rfl
  have hs2:(B.chips.map chV).set (i:Int).toNat (spl (chV B.chips[i]) 2 [I b'])=(B.chips.set i { B.chips[i] with base:=b' }).map chV:=by
   rw [Int.toNat_natCast,List.map_set]; rfl
  have hs3:(B.chips.map chV).set (i:Int).toNat (spl (chV B.chips[i]) 0 [.c (.string B.chips[k].name)])=(B.chips.set i { B.chips[i] with name:=B.chips[k].name }).map chV:=by
   rw [Int.toNat_natCast,List.map_set]; rfl
  clear hcc hcd hne hsm
  generalize B.chips.set i { B.chips[i] with base:=b' }=cs1 at *
  generalize B.chips.set i { B.chips[i] with name:=B.chips[k].name }=cs2 at *
  generalize B.chips[i]=ci at *
  generalize B.chips[k]=ck at *
  obtain ⟨xn,xk,xb,xs,xd⟩:=ci
  obtain ⟨yn,yk,yb,ys,yd⟩:=ck
  dsimp only [chV] at hm hm2 hs2 hs3 b3 hszk hszi hplk hpli hr1 hr2 hb'
  refine N.fnC Try.func5 k5 fun Q hQ hQN=>?_
  repeat' (first|rw [boV_zero]|rw [boV_t8]|rw [boV_ren]|rw [boB_zero]|rw [boB_8]|rw [boB_ren]|rw [rows_ren]|rw [List.length_map]|rw [← hb']|refine rI hm2 ?_|(show Wo (.ld _ _); refine T.ld rfl rfl rfl hm rfl ?_)|(show Wc; first|refine T.call0 e19 rfl hbd ?_|refine T.call0 e20 rfl hbf ?_|refine T.call0 e21 rfl hck ?_|refine T.call0 e6 rfl b1 ?_|refine T.call0 e6 rfl b2 ?_|refine T.call0 e6 rfl b3 ?_|refine T.callN e22 rfl (hcp) (by simp) ?_|refine T.callQ [1] e23 rfl (hs1) (by exact pA) rfl rfl rfl (by exact rN) ?_|refine T.callQ [2] e23 rfl (hs1) (by exact pA) rfl rfl rfl (by exact rN) ?_)|exact ⟨⟩|intro (K:KT) hK|intro hcd|refine go1 ?_ ?_|fail)
  all_goals first|(exfalso; omega)|skip
  refine T.st rfl rfl rfl ⟨rfl,rfl⟩ hm lb ?_
  rw [hs2]
  repeat' (first|rw [boV_zero]|rw [boV_t8]|rw [boV_ren]|rw [boB_zero]|rw [boB_8]|rw [boB_ren]|rw [rows_ren]|rw [List.length_map]|rw [← hb']|refine rI hm2 ?_|(show Wo (.ld _ _); refine T.ld rfl rfl rfl hm rfl ?_)|(show Wc; first|refine T.call0 e19 rfl hbd ?_|refine T.call0 e20 rfl hbf ?_|refine T.call0 e21 rfl hck ?_|refine T.call0 e6 rfl b1 ?_|refine T.call0 e6 rfl b2 ?_|refine T.call0 e6 rfl b3 ?_|refine T.callN e22 rfl (hcp) (by simp) ?_)|exact ⟨⟩|intro (K:KT) hK|intro hcd|refine go1 ?_ ?_|fail)
  all_goals first|(exfalso; omega)|skip
  refine T.st rfl rfl rfl ⟨rfl,rfl⟩ hm lb ?_
  rw [hs3]
  repeat' (first|rw [boV_zero]|rw [boV_t8]|rw [boV_ren]|rw [boB_zero]|rw [boB_8]|rw [boB_ren]|rw [rows_ren]|rw [List.length_map]|rw [← hb']|refine rI hm2 ?_|(show Wo (.ld _ _); refine T.ld rfl rfl rfl hm rfl ?_)|(show Wc; first|refine T.call0 e19 rfl hbd ?_|refine T.call0 e20 rfl hbf ?_|refine T.call0 e21 rfl hck ?_|refine T.call0 e6 rfl b1 ?_|refine T.call0 e6 rfl b2 ?_|refine T.call0 e6 rfl b3 ?_|refine T.callN e22 rfl (hcp) (by simp) ?_|refine T.callQ [1] e21 rfl (hcc2) (by exact pA) rfl rfl rfl (by exact rN) ?_|refine T.callQ [2] e21 rfl (hcd2) (by exact pA) rfl rfl rfl (by exact rN) ?_|refine T.callQ [1] e23 rfl (hne2) (by exact pA) rfl rfl rfl (by exact rN) ?_)|exact ⟨⟩|intro (K:KT) hK|intro hcd|refine go1 ?_ ?_|fail)
  all_goals first|exact WS.c rfl rfl|(exfalso; omega)
theorem VKind.moved {c:Chp} (h:VKind c) (nm:ByteArray) (b:Int):VKind { c with name:=nm,base:=b }:=by
 rcases h with ⟨z,hk,hs,h1,hd,hb⟩|⟨nb,hk,hs,h1,hd,hb⟩|⟨hk,hs,hd⟩|⟨nd,hk,hs,hn,hd,hb⟩
 ·exact .mem z hk hs h1 hd hb
 ·exact .bank nb hk hs h1 hd hb
 ·exact .dev hk hs hd
 ·exact .drive nd hk hs hn hd hb
theorem VKind.sz {c:Chp} (h:VKind c):1≤c.size∧c.size≤4096:=by
 rcases h with ⟨z,hk,hs,h1,hd,hb⟩|⟨nb,hk,hs,h1,hd,hb⟩|⟨hk,hs,hd⟩|⟨nd,hk,hs,hn,hd,hb⟩
 ·omega
 ·omega
 ·rw [hs]
  rcases hk with h|h|h|h|h <;> rw [h] <;> decide
 ·omega
theorem VKind.dl {c:Chp} (h:VKind c):c.data.length≤100000:=by
 rcases h with ⟨z,hk,hs,h1,hd,hb⟩|⟨nb,hk,hs,h1,hd,hb⟩|⟨hk,hs,hd⟩|⟨nd,hk,hs,hn,hd,hb⟩
 ·omega
 ·omega
 ·rw [hd]; decide
 ·omega
theorem conf_apart {c d:Chp} (h:Apart c d):conf c d=0:=by
 obtain ⟨h1,h2⟩:=h
 unfold conf
 rw [if_neg h1,if_neg (by omega)]
theorem conf_sym {c d:Chp}:conf c d=conf d c:=by
 unfold conf
 by_cases h:c.name=d.name
 ·rw [if_pos h,if_pos h.symm]
 ·rw [if_neg h,if_neg (Ne.symm h)]
  split <;> split <;> first|rfl|omega
theorem set_conf {cs:List Chp} (hap:∀ a b (h:b < cs.length) (hab:a < b),Apart cs[a] cs[b]) (i:Nat) (hi:i < cs.length) (x:Chp) (e:Int) (hx:∀ j (hj:j < cs.length),j≠i→conf cs[j] x=0∨conf cs[j] x=e) :
  ∀ j (hj:j < (cs.set i x).length) k (hk:k < j),conf (cs.set i x)[k] (cs.set i x)[j]=0∨conf (cs.set i x)[k] (cs.set i x)[j]=e:=by
 intro j hj k hk
 rw [List.length_set] at hj
 by_cases h1:j=i
 ·subst h1
  rw [List.getElem_set_self,List.getElem_set_ne (by omega)]
  exact hx k (by omega) (by omega)
 ·by_cases h2:k=i
  ·subst h2
   rw [List.getElem_set_self,List.getElem_set_ne (by omega),conf_sym]
   exact hx j (by omega) (by omega)
  ·rw [List.getElem_set_ne (Ne.symm h1),List.getElem_set_ne (Ne.symm h2)]
   exact .inl (conf_apart (hap k j hj hk))
theorem set_ex {cs:List Chp} (i k:Nat) (hi:i < cs.length) (hk:k < cs.length) (hik:i≠k) (x:Chp) (h:conf cs[k] x≠0):∃ j,∃ hj:j < (cs.set i x).length,∃ k,∃ hk:k < j,conf (cs.set i x)[k] (cs.set i x)[j]≠0:=by
 by_cases h1:k < i
 ·refine ⟨i,by rw [List.length_set]; exact hi,k,h1,?_⟩
  rw [List.getElem_set_self,List.getElem_set_ne (by omega)]; exact h
 ·refine ⟨k,by rw [List.length_set]; exact hk,i,by omega,?_⟩
  rw [List.getElem_set_self,List.getElem_set_ne (by omega),conf_sym]; exact h
theorem set_all {cs:List Chp} {p:Chp→Prop} (h:∀ c ∈ cs,p c) (i:Nat) (x:Chp) (hx:p x):∀ c ∈ cs.set i x,p c:=by
 intro c hc
 rcases List.mem_or_eq_of_mem_set hc with h1|rfl
 ·exact h c h1
 ·exact hx
theorem stdM_smlC:SmlP stdM:=by
 unfold SmlP SmlC
 decide +kernel
theorem clashes_ok (l:List Int) (i0 k0 at0:Int):FnE Try.prog 5 [.sl 1 (cells l),I i0,I k0,I at0] [] (.c (.bool true)) []:=by
 have hv:=mkBrd_v l
 obtain ⟨hki,hn2,hn6⟩:=mkBrd_kinds l
 obtain ⟨hname,hcpu,hnum,-,hpl,hap,hwn⟩:=hv
 have hcpu':(mkBrd l).cpu=stdM:=rfl
 have hbd:=mkBrd_ok l
 have hck:=mkcheck_ok l
 generalize mkBrd l=B at *
 have hnz:(B.chips.length:Int)≠0:=by omega
 obtain ⟨i,hi⟩:∃ n:Nat,i0 % B.chips.length=n:=⟨(i0 % B.chips.length).toNat,by have:=Int.emod_nonneg i0 hnz; omega⟩
 obtain ⟨k,hk⟩:∃ n:Nat,k0 % B.chips.length=n:=⟨(k0 % B.chips.length).toNat,by have:=Int.emod_nonneg k0 hnz; omega⟩
 have hil:i < B.chips.length:=by have:=Int.emod_lt_of_pos i0 (show 0 < (B.chips.length:Int) by omega); omega
 have hkl:k < B.chips.length:=by have:=Int.emod_lt_of_pos k0 (show 0 < (B.chips.length:Int) by omega); omega
 have hsz:∀ c ∈ B.chips,1≤c.size∧c.size≤4096:=fun c hc=>(hki c hc).sz
 have hdl:∀ c ∈ B.chips,c.data.length≤100000:=fun c hc=>(hki c hc).dl
 have hszk:=hsz _ (List.getElem_mem hkl)
 have hszi:=hsz _ (List.getElem_mem hil)
 have hplk:=hpl _ (List.getElem_mem hkl)
 have hpli:=hpl _ (List.getElem_mem hil)
 have hr1:=Int.emod_nonneg at0 (show B.chips[k].size≠0 by omega)
 have hr2:=Int.emod_lt_of_pos at0 (show 0 < B.chips[k].size by omega)
 obtain ⟨b',hb'⟩:∃ b',b'=min (B.chips[k].base+at0 % B.chips[k].size) (65536 - B.chips[i].size):=⟨_,rfl⟩
 have hlo:=hplk.lo
 have hhi:=hplk.hi
 have hsml:SmlP B.cpu:=by rw [hcpu']; exact stdM_smlC
 have hapn:i≠k→Apart B.chips[i] B.chips[k]∨Apart B.chips[k] B.chips[i]:=fun h=>by
  by_cases h1:i < k
  ·exact .inl (hap i k hkl h1)
  ·exact .inr (hap k i hil (by omega))
 have hov:b' < B.chips[k].base+B.chips[k].size∧B.chips[k].base < b' + B.chips[i].size:=by omega
 refine clash_go l i0 k0 at0 B hbd boards_fact hck (by omega) hnum i k hi hk hil hkl hsz (fun c hc=>⟨(hpl c hc).lo,(hpl c hc).hi⟩) (bcopy_ok B (by omega) hnum (by omega) hdl hsml (by rw [hcpu']; decide)) (bsame_eq B hsml (by omega) (by omega) hdl) b' hb' (fun hik=>?_) (fun hik=>?_) (fun hik=>?_)
 ·refine bcheck_err { B with chips:=B.chips.set i { B.chips[i] with base:=b' } } 16 hname hcpu (by dsimp only; rw [List.length_set]; exact hnum) (set_all hki i _ ((hki _ (List.getElem_mem hil)).moved _ b')) (set_all hpl i _ ⟨hpli.name,hpli.cpu,by dsimp only; omega,by dsimp only; omega⟩) (set_conf hap i hil _ 16 fun j hj hji=>?_) (set_ex i k hil hkl hik _ ?_)
  ·have hnm:B.chips[j].name≠B.chips[i].name:=by
    by_cases h1:j < i
    ·exact (hap j i hil h1).1
    ·exact (hap i j hj (by omega)).1.symm
   unfold conf
   rw [if_neg hnm]
   split <;> simp
  ·have hnm:B.chips[k].name≠B.chips[i].name:=by
    rcases hapn hik with h|h
    ·exact h.1.symm
    ·exact h.1
   unfold conf
   rw [if_neg hnm,if_pos hov]
   decide
 ·refine bcheck_err { B with chips:=B.chips.set i { B.chips[i] with name:=B.chips[k].name } } 5 hname hcpu (by dsimp only; rw [List.length_set]; exact hnum) (set_all hki i _ ((hki _ (List.getElem_mem hil)).moved _ _)) (set_all hpl i _ ⟨hplk.name,hplk.cpu,hpli.lo,hpli.hi⟩) (set_conf hap i hil _ 5 fun j hj hji=>?_) (set_ex i k hil hkl hik _ ?_)
  ·by_cases hjk:j=k
   ·subst hjk
    right
    unfold conf
    rw [if_pos rfl]
   ·left
    have hnm:B.chips[j].name≠B.chips[k].name:=by
     by_cases h1:j < k
     ·exact (hap j k hkl h1).1
     ·exact (hap k j hj (by omega)).1.symm
    have hpa:B.chips[j].base+B.chips[j].size≤B.chips[i].base∨B.chips[i].base+B.chips[i].size≤B.chips[j].base:=by
     by_cases h1:j < i
     ·exact (hap j i hil h1).2
     ·exact (hap i j hj (by omega)).2.symm
    unfold conf
    rw [if_neg hnm]
    dsimp only
    rw [if_neg (by omega)]
  ·unfold conf
   rw [if_pos rfl]
   decide
 ·refine bsame_ne B hsml (by omega) (by omega) hdl i hil b' fun h=>?_
  rcases hapn hik with h1|h1
  ·have:=h1.2; omega
  ·have:=h1.2; omega
end Go.Proofs.Ytdbbnlafkndcnaa.Calc
