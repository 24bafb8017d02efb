/- Several texts in one (FnLawChip), for the proof of LawBoardClashes. No condition beyond those in each lemma. -/
import Derived.Test.YtdbbnlafkndcnaaPLawBoardClashesJ
import Derived.Test.YtdbbnlafkndcnaaPLawBoardClashesE
import Derived.Test.YtdbbnlafkndcnaaPLawBoardClashesD
namespace Go.Proofs.Ytdbbnlafkndcnaa.Calc
open Go Code
set_option linter.unusedSimpArgs false
set_option linter.unusedVariables false
set_option maxRecDepth 20000
set_option maxHeartbeats 8000000
attribute [local irreducible] WOpsT AW AK RK AKW UK UC
theorem eqB_ok (a:List Int) (ha:a.length≤100000):FnE Try.prog 52 [.sl 1 (bcells a),.sl 1 (bcells a)] [] (.c (.bool true)) []:=by
 refine N.fnC Try.func52 k52 fun Q hQ hQN=>?_
 repeat' (first|rw [bcells_len]|exact ⟨⟩|intro (K:KT) hK|intro hcd|refine go1 ?_ ?_|fail)
 all_goals first|(exfalso; omega)|skip
 refine N.loop (σ:=Nat) (fun i=>[(0,.sl 1 (bcells a)),(1,.sl 1 (bcells a)),(12,I a.length),(13,I i)]) (fun i=>[]) (fun i=>i≤a.length) (fun i=>a.length - i) 0 (Nat.zero_le _) (by exact .G [] 1) fun i hi C hC=>?_
 by_cases hil:i < a.length
 ·have hg:(bcells a)[((i:Nat):Int).toNat]?=some [.c (.int .u8 (a.getD i 0))]:=by rw [Int.toNat_natCast]; exact bget hil
  repeat' (first|refine rI hg ?_|exact ⟨⟩|intro (K:KT) hK|intro hcd|refine go1 ?_ ?_|fail)
  all_goals first|exact hC _ _ (i+1) (by omega) (by omega) (by exact .G [] 1)|(exfalso; simp at *; done)|(exfalso; omega)
 ·obtain rfl:i=a.length:=by omega
  repeat' (first|exact ⟨⟩|intro (K:KT) hK|intro hcd|refine go1 ?_ ?_|fail)
  exact WS.c rfl rfl
theorem memory_k (k:Int) (p:Bool) (hp:p=decide (k=0∨k=1∨k=2)):FnE Try.prog 67 [I k] [] (.c (.bool p)) []:=by
 subst hp
 refine N.fnC Try.func67 k67 fun Q hQ hQN=>?_
 repeat' (first|exact ⟨⟩|intro (K:KT) hK|intro hcd|refine go1 ?_ ?_|fail)
 all_goals first|(exfalso; omega)|exact WS.bool rfl (by simp; omega)|exact WS.c rfl (by rw [decide_eq_true (by omega)])|exact WS.c rfl (by rw [decide_eq_false (by omega)])
theorem size_k (k z:Int) (h:(k=3∧z=4)∨(k=4∧z=2)∨(k=5∧z=3)∨(k=6∧z=32)∨(k=7∧z=8)∨(k=8∧z=4)):FnE Try.prog 68 [I k] [] (I z) []:=by
 rcases h with ⟨rfl,rfl⟩|⟨rfl,rfl⟩|⟨rfl,rfl⟩|⟨rfl,rfl⟩|⟨rfl,rfl⟩|⟨rfl,rfl⟩
 all_goals
  refine N.fnC Try.func68 k68 fun Q hQ hQN=>?_
  repeat' (first|exact ⟨⟩|intro (K:KT) hK|intro hcd|refine go1 ?_ ?_|fail)
  exact WS.c rfl rfl
structure VPlace (c:Chp):Prop where
 name:VName c.name
 cpu:c.name≠⟨#[99,112,117]⟩
 lo:0≤c.base
 hi:c.base+c.size≤65536
theorem check_v (c:Chp) (hc:VKind c) (hp:VPlace c):FnE Try.prog 41 [.agg (chV c)] [] (I 0) []:=by
 obtain ⟨nm,k,b,s,dat⟩:=c
 obtain ⟨hn,hcpu,hlo,hhi⟩:=hp
 dsimp only at hn hcpu hlo hhi
 have hnm:=name_ok nm hn
 have hne:decide (nm=⟨#[99,112,117]⟩)=false:=decide_eq_false hcpu
 unfold chV
 dsimp only
 have hdl:=bcells_len dat
 rcases hc with ⟨z,hk,hs,h1,hd,hb⟩|⟨nb,hk,hs,h1,hd,hb⟩|⟨hk,hs,hd⟩|⟨nd,hk,hs,hn,hd,hb⟩
 ·dsimp only at hk hs hd; subst hs
  rcases hk with rfl|rfl
  all_goals
   have hm:=memory_k _ true (by first|exact rfl:true=decide ((0:Int)=0∨(0:Int)=1∨(0:Int)=2))
   have hm1:=memory_k _ true (by first|exact rfl:true=decide ((1:Int)=0∨(1:Int)=1∨(1:Int)=2))
   refine N.fnC Try.func41 k41 fun Q hQ hQN=>?_
   repeat' (first|rw [hne]|rw [hdl]|(show Wc; first|refine T.call0 e30 rfl hnm ?_|refine T.call0 e67 rfl hm ?_|refine T.call0 e67 rfl hm1 ?_)|exact ⟨⟩|intro (K:KT) hK|intro hcd|refine go1 ?_ ?_|fail)
   all_goals first|(exfalso; omega)|exact WS.c rfl rfl
 ·dsimp only at hk hs hd; subst hs; subst hk
  have hm:=memory_k 2 true (by exact rfl)
  refine N.fnC Try.func41 k41 fun Q hQ hQN=>?_
  repeat' (first|rw [hne]|rw [hdl]|(show Wc; first|refine T.call0 e30 rfl hnm ?_|refine T.call0 e67 rfl hm ?_)|exact ⟨⟩|intro (K:KT) hK|intro hcd|refine go1 ?_ ?_|fail)
  all_goals first|(exfalso; omega)|exact WS.c rfl rfl
 ·dsimp only at hk hs hd; subst hd
  rcases hk with rfl|rfl|rfl|rfl|rfl
  all_goals
   (first|obtain rfl:s=4:=hs|obtain rfl:s=2:=hs|obtain rfl:s=3:=hs|obtain rfl:s=32:=hs|obtain rfl:s=8:=hs)
   have m3:=memory_k 3 false (by exact rfl)
   have m4:=memory_k 4 false (by exact rfl)
   have m5:=memory_k 5 false (by exact rfl)
   have m6:=memory_k 6 false (by exact rfl)
   have m7:=memory_k 7 false (by exact rfl)
   have s3:=size_k 3 4 (by omega)
   have s4:=size_k 4 2 (by omega)
   have s5:=size_k 5 3 (by omega)
   have s6:=size_k 6 32 (by omega)
   have s7:=size_k 7 8 (by omega)
   refine N.fnC Try.func41 k41 fun Q hQ hQN=>?_
   repeat' (first|rw [hne]|(show Wc; first|refine T.call0 e30 rfl hnm ?_|refine T.call0 e67 rfl m3 ?_|refine T.call0 e67 rfl m4 ?_|refine T.call0 e67 rfl m5 ?_|refine T.call0 e67 rfl m6 ?_|refine T.call0 e67 rfl m7 ?_|refine T.call0 e68 rfl s3 ?_|refine T.call0 e68 rfl s4 ?_|refine T.call0 e68 rfl s5 ?_|refine T.call0 e68 rfl s6 ?_|refine T.call0 e68 rfl s7 ?_)|exact ⟨⟩|intro (K:KT) hK|intro hcd|refine go1 ?_ ?_|fail)
   all_goals first|(exfalso; omega)|exact WS.c rfl rfl
 ·dsimp only at hk hs hd; subst hs; subst hk
  have hm:=memory_k 8 false (by exact rfl)
  have s8:=size_k 8 4 (by omega)
  have e1:((dat.length:Nat):Int).tmod 256=0:=by rw [Int.tmod_eq_emod_of_nonneg (by omega),hd]; omega
  refine N.fnC Try.func41 k41 fun Q hQ hQN=>?_
  repeat' (first|rw [hne]|rw [hdl]|rw [e1]|(show Wc; first|refine T.call0 e30 rfl hnm ?_|refine T.call0 e67 rfl hm ?_|refine T.call0 e68 rfl s8 ?_)|exact ⟨⟩|intro (K:KT) hK|intro hcd|refine go1 ?_ ?_|fail)
  all_goals first|(exfalso; omega)|exact WS.c rfl rfl
end Go.Proofs.Ytdbbnlafkndcnaa.Calc
