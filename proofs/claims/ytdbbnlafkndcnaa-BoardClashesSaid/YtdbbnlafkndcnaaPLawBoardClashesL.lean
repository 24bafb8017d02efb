/- Several texts in one (FnTCheck), for the proof of LawBoardClashes. No condition beyond those in each lemma. -/
import Derived.Test.YtdbbnlafkndcnaaPLawBoardClashesE
import Derived.Test.YtdbbnlafkndcnaaPLawBoardClashesD
namespace Go.Proofs.Ytdbbnlafkndcnaa.Calc
open Go Code
set_option linter.unusedSimpArgs false
set_option linter.unusedVariables false
set_option maxRecDepth 20000
set_option maxHeartbeats 8000000
attribute [local irreducible] WOpsT AW AK RK AKW UK UC
structure VIns (x:Ins):Prop where
 op:0≤x.op∧x.op≤255
 name:VName x.name
 mode:0≤sizeM x.mode
 cy:VCycs x.cy
 opnd:opnd x.cy=sizeM x.mode
structure VCpu (c:Cpu):Prop where
 name:VName c.name
 num:c.ins.length≤256
 ins:∀ x ∈ c.ins,VIns x
 order:∀ i (h:i+1 < c.ins.length),c.ins[i].op < c.ins[i+1].op
 once:∀ i j (h:j < c.ins.length) (hij:i < j),¬ (c.ins[i].name=c.ins[j].name∧c.ins[i].mode=c.ins[j].mode)
 res:VCycs c.res
 irq:VCycs c.irq
 nmi:VCycs c.nmi
theorem tcheck_ok (c:Cpu) (hc:VCpu c):FnE Try.prog 15 [.agg (cpC c)] [] (I 0) []:=by
 obtain ⟨hn,hl,hi,ho,hu,h1,h2,h3⟩:=hc
 obtain ⟨nm,ins,r1,r2,r3⟩:=c
 dsimp only at hn hl hi ho hu h1 h2 h3
 have hnm:=name_ok nm hn
 have c1:=cycles_ok r1 h1
 have c2:=cycles_ok r2 h2
 have c3:=cycles_ok r3 h3
 unfold cpC
 dsimp only
 refine N.fnC Try.func15 k15 fun Q hQ hQN=>?_
 repeat' (first|rw [List.length_map]|refine T.call0 e30 rfl hnm ?_|exact ⟨⟩|intro (K:KT) hK|intro hcd|refine go1 ?_ ?_|fail)
 all_goals first|(exfalso; omega)|skip
 refine N.loop (σ:=Nat) (fun i=>[(1,.ptr 0 1 0 0),(20,.sl 4 (ins.map inC)),(21,I ins.length),(22,I i)]) (fun i=>[⟨1,5,[[.c (.string nm),.sl 4 (ins.map inC),.sl 4 (r1.map cyC),.sl 4 (r2.map cyC),.sl 4 (r3.map cyC)]]⟩]) (fun i=>i≤ins.length) (fun i=>ins.length - i) 0 (Nat.zero_le _) (Weaks.sel (by exact sB) rfl) fun i hi2 R hC=>?_
 by_cases hil:i < ins.length
 ·have hm:=mget inC ins i hil
  have hx:=hi _ (List.getElem_mem hil)
  have hpre:¬ (0≤idxI (fun y=>decide (y.name=ins[i].name∧y.mode=ins[i].mode)) (ins.take i)):=by
   rw [idxI_none]
   ·decide
   ·intro j hj
    have hj2:j < i:=by rw [List.length_take] at hj; omega
    rw [List.getElem_take]
    exact decide_eq_false (hu j i hil hj2)
  have hct:=containsI 32 e32 ins[i] (ins.take i) (fun y=>decide (y.name=ins[i].name∧y.mode=ins[i].mode)) (by rw [List.length_take]; omega) (fun y _=>check1_ok y ins[i])
  rw [decide_eq_false hpre] at hct
  have hord:∀ (h0:0 < i),ins[i - 1].op < ins[i].op:=fun h0=>by
   have:=ho (i - 1) (by omega)
   have e:i - 1+1=i:=by omega
   simp only [e] at this
   exact this
  have hm0:0 < i→(ins.map inC)[i - 1]?=some (inC (ins[i - 1]'(by omega))):=fun h0=>by rw [List.getElem?_map,List.getElem?_eq_getElem (by omega)]; rfl
  obtain ⟨v1,v2,v3,v4,v5⟩:=hx
  have hsz:=size_ok ins[i].mode
  have hnx:=name_ok _ v2
  have hcy:=cycles_ok _ v4
  have hop:=operand_ok _ v4.1
  rw [v5] at hop
  have e1:((i:Int) - 1).toNat=i - 1:=by omega
  have e2:(List.drop (Int.toNat 0) (ins.map inC)).take ((i:Int).toNat - Int.toNat 0)=(ins.take i).map inC:=by
   rw [show Int.toNat 0=0 from rfl,List.drop_zero,Int.toNat_natCast,Nat.sub_zero,List.map_take]
  have e3:(ins.map inC).take i=(ins.take i).map inC:=List.map_take.symm
  by_cases h0:i=0
  ·subst h0
   generalize ins[0]=x at *
   obtain ⟨xo,xn,xm,xc⟩:=x
   dsimp only [inC] at hm v1 v2 v3 v4 v5 hsz hnx hcy hop hct
   repeat' (first|rw [e3]|refine rI hm ?_|(show Wc; first|refine T.call0 e30 rfl hnx ?_|refine T.call0 e18 rfl hsz ?_|refine T.callQ [1] e31 rfl (hct) (by exact pA) rfl rfl rfl (by exact rN) ?_|refine T.call0 e33 rfl hcy ?_|refine T.call0 e34 rfl hop ?_)|exact ⟨⟩|intro (K:KT) hK|intro hcd|refine go1 ?_ ?_|fail)
   exact hC _ _ (0+1) (by omega) (by omega) (by exact .G [0] 1)
  ·have hord:=hord (by omega)
   have hm0:=hm0 (by omega)
   generalize ins[i - 1]=w at *
   generalize ins[i]=x at *
   obtain ⟨xo,xn,xm,xc⟩:=x
   obtain ⟨wo,wn,wm,wc⟩:=w
   dsimp only [inC] at hm hm0 hord v1 v2 v3 v4 v5 hsz hnx hcy hop hct
   repeat' (first|rw [e1]|rw [e2]|rw [e3]|refine rI hm ?_|(show Wo (.idx _ _ _ _); refine T.idxs rfl rfl rfl (by omega) (by rw [e1]; exact hm0) ?_)|(show Wo (.slc _ _ _ _); refine T.slcS rfl rfl rfl rfl (by rw [List.length_map]; omega) ?_)|(show Wc; first|refine T.call0 e30 rfl hnx ?_|refine T.call0 e18 rfl hsz ?_|refine T.callQ [1] e31 rfl (hct) (by exact pA) rfl rfl rfl (by exact rN) ?_|refine T.call0 e33 rfl hcy ?_|refine T.call0 e34 rfl hop ?_)|exact ⟨⟩|intro (K:KT) hK|intro hcd|refine go1 ?_ ?_|fail)
   all_goals first|exact hC _ _ (i+1) (by omega) (by omega) (by exact .G [0] 1)|(exfalso; omega)|trace_state
 ·obtain rfl:i=ins.length:=by omega
  repeat' (first|(show AK _ _ (.loop _) _ _ _ _; refine N.unroll 4 ?_)|(show Wc; first|refine T.call0 e33 rfl c1 ?_|refine T.call0 e33 rfl c2 ?_|refine T.call0 e33 rfl c3 ?_)|exact ⟨⟩|intro (K:KT) hK|intro hcd|refine go1 ?_ ?_|fail)
  exact WS.c rfl rfl
end Go.Proofs.Ytdbbnlafkndcnaa.Calc
