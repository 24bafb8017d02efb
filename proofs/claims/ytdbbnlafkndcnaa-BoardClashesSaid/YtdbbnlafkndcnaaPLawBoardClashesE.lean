/- Several texts in one (FnKit, BitsA, FnBase, FnField, FnTable, FnTableB, FnTableC, FnTableD, FnTableE, FnTableF, FnTableG, FnStream, FnMake, PureStd), for the proof of LawBoardClashes. No condition beyond those in each lemma. -/
import Derived.Test.YtdbbnlafkndcnaaPLawBoardClashesC
import Derived.Laws.BitsLemmas
import Derived.Laws.Wrap64
import Derived.RowKit
import Derived.Test.YtdbbnlafkndcnaaPLawBoardClashesD
namespace Go.Proofs.Ytdbbnlafkndcnaa.Calc
open Go
set_option linter.unusedSimpArgs false
theorem out_pslK {h:List Blk} {ids:List Nat} {n b ver off len:Nat} {B:Blk} (hp:pos ids b=none) (hb:h[b]?=some B) (hv:B.ver=ver):out h ids (n+1) (.psl b ver off len)=.sl B.esz (((B.rows.drop off).take len).map (·.map (frz h (fun b=>(pos ids b).isSome) n))):=by
 rw [← frz_psl hb hv (show (fun b=>(pos ids b).isSome) b=false by dsimp only; rw [hp]; rfl)]
 simp only [out,V.mapR,hp]
theorem out_intsK {h:List Blk} {ids:List Nat} {n b v len:Nat} {m:List Int} (hp:pos ids b=none) (hb:h[b]?=some ⟨v,1,cells m⟩) (hl:m.length≤len):out h ids (n+1) (.psl b v 0 len)=.sl 1 (cells m):=by
 rw [out_pslK hp hb rfl,List.drop_zero,cells_take,List.take_of_length_le hl,cells_frz]
theorem out_bytesK {h:List Blk} {ids:List Nat} {n b v len:Nat} {m:List Int} (hp:pos ids b=none) (hb:h[b]?=some ⟨v,1,bcells m⟩) (hl:m.length≤len):out h ids (n+1) (.psl b v 0 len)=.sl 1 (bcells m):=by
 rw [out_pslK hp hb rfl,List.drop_zero,bcells_take,List.take_of_length_le hl,bcells_frz]
end Go.Proofs.Ytdbbnlafkndcnaa.Calc
namespace Go.Proofs.Ytdbbnlafkndcnaa.BA
open Go Go.RowKit
def andn (a b:Nat):Nat:=a ^^^ (a &&& b)
def bitAt (n:Int) (i:Nat):Nat:=(n / 2 ^ i % 2).toNat
def rev:Nat→Int→Nat
 | 0,_=>0
 | w+1,n=>2 * rev w n+bitAt n w
def lo:Nat→Int→Nat
 | 0,_=>0
 | w+1,n=>lo w n+bitAt n w * 2 ^ w
def pc:Nat→Int→Nat
 | 0,_=>0
 | w+1,n=>pc w n+bitAt n w
end Go.Proofs.Ytdbbnlafkndcnaa.BA
namespace Go.Proofs.Ytdbbnlafkndcnaa.Calc
open Go Code
set_option linter.unusedSimpArgs false
set_option linter.unusedVariables false
set_option maxRecDepth 20000
set_option maxHeartbeats 8000000
attribute [local irreducible] WOpsT AW AK RK AKW UK UC
def wd (w:Int):Nat:=(max 0 (min w 62)).toNat
theorem below_ok (x n:Int) (hn:0 < n) (hn2:n < 4611686018427387904):FnE Try.prog 6 [I x,I n] [] (I (x % n)) []:=by
 refine fnI Try.func6 k6.1 lb k6.2 fun Q hQ=>?_
 rw [c6]
 repeat (first|refine AW.regS fun K hK=>?_|refine AW.dregS fun K hK=>?_|refine AW.regN fun K hK=>?_|refine AW.dregN fun K hK=>?_|simp only [T.mv,sm,AO.ev,put,lk,enter,reduceIte,Nat.reduceEqDiff,Nat.reduceAdd,Nat.reduceMul,Nat.reduceSub,Int.reduceNeg,Int.reduceToNat,upto,renB,setAll]|refine T.nil ?_|(first|refine hK _ _ _ (by rfl) ?_|refine hK _ _ _ ?_); simp only [keep,List.map,lk,reduceIte,Nat.reduceEqDiff,enter]; clear hK; clear K|refine T.add rfl rfl (by omega) (by omega) ?_|refine T.sub rfl rfl (by omega) (by omega) ?_|refine T.bin rfl rfl rfl ?_|refine T.rem rfl rfl (by omega) ?_|refine T.quo rfl rfl (by omega) ?_|refine T.shl rfl rfl (by omega) ?_|refine T.shr rfl rfl (by omega) ?_|refine T.min2 rfl rfl rfl ?_|refine T.max2 rfl rfl rfl ?_|refine T.ext rfl rfl ?_|refine T.lenc ?_|refine T.eqnP rfl rfl ⟨rfl,by decide⟩ ?_|refine T.eqnN rfl ?_|refine T.neg rfl ?_|refine T.xorn rfl ?_|refine T.notD rfl ?_|refine T.not rfl ?_|refine T.eqb0 rfl rfl ?_|refine T.eqb1 rfl rfl ?_|refine T.cvt rfl ?_|refine T.ld rfl rfl rfl rfl rfl ?_|refine T.ldd rfl rfl ?_|refine T.ldn rfl rfl rfl rfl lb ?_|refine T.lddn rfl lb ?_|refine T.fad rfl rfl rfl ?_|refine T.fadd rfl ?_|refine T.nilc rfl rfl rfl ?_|refine T.nilcd rfl ?_|refine T.st rfl rfl rfl ⟨rfl,rfl⟩ rfl lb ?_|refine T.fld rfl rfl ?_|refine T.new rfl ⟨rfl,by decide⟩ ?_|refine T.zero (by decide) ?_|refine T.build rfl ?_|refine T.len rfl rfl rfl ?_|refine T.lenS rfl ?_|refine T.lenN rfl ?_|refine T.mkf ?_|refine T.mki ?_|refine T.mksl rfl rfl (by decide) ?_|refine T.copy rfl rfl rfl ⟨rfl,rfl⟩ ?_|refine T.idx rfl rfl rfl ⟨rfl,rfl⟩ (by omega) ?_|refine T.idxa rfl rfl rfl rfl (by omega) ?_|refine T.idxd rfl rfl (by omega) ?_|refine T.bsl rfl (by decide) ?_|refine T.slc rfl rfl rfl rfl ⟨rfl,rfl⟩ (by omega) ?_|refine T.go rfl rfl ?_|refine T.pass rfl rfl ?_|refine T.pickB rfl rfl rfl ?_|refine AW.retI ?_)
 refine AW.seqI fun Q1 hN hX hR=>?_
 repeat (first|refine AW.regS fun K hK=>?_|refine AW.dregS fun K hK=>?_|refine AW.regN fun K hK=>?_|refine AW.dregN fun K hK=>?_|simp only [T.mv,sm,AO.ev,put,lk,enter,reduceIte,Nat.reduceEqDiff,Nat.reduceAdd,Nat.reduceMul,Nat.reduceSub,Int.reduceNeg,Int.reduceToNat,upto,renB,setAll]|refine T.nil ?_|(first|refine hK _ _ _ (by rfl) ?_|refine hK _ _ _ ?_); simp only [keep,List.map,lk,reduceIte,Nat.reduceEqDiff,enter]; clear hK; clear K|refine T.add rfl rfl (by omega) (by omega) ?_|refine T.sub rfl rfl (by omega) (by omega) ?_|refine T.bin rfl rfl rfl ?_|refine T.rem rfl rfl (by omega) ?_|refine T.quo rfl rfl (by omega) ?_|refine T.shl rfl rfl (by omega) ?_|refine T.shr rfl rfl (by omega) ?_|refine T.min2 rfl rfl rfl ?_|refine T.max2 rfl rfl rfl ?_|refine T.ext rfl rfl ?_|refine T.lenc ?_|refine T.eqnP rfl rfl ⟨rfl,by decide⟩ ?_|refine T.eqnN rfl ?_|refine T.neg rfl ?_|refine T.xorn rfl ?_|refine T.notD rfl ?_|refine T.not rfl ?_|refine T.eqb0 rfl rfl ?_|refine T.eqb1 rfl rfl ?_|refine T.cvt rfl ?_|refine T.ld rfl rfl rfl rfl rfl ?_|refine T.ldd rfl rfl ?_|refine T.ldn rfl rfl rfl rfl lb ?_|refine T.lddn rfl lb ?_|refine T.fad rfl rfl rfl ?_|refine T.fadd rfl ?_|refine T.nilc rfl rfl rfl ?_|refine T.nilcd rfl ?_|refine T.st rfl rfl rfl ⟨rfl,rfl⟩ rfl lb ?_|refine T.fld rfl rfl ?_|refine T.new rfl ⟨rfl,by decide⟩ ?_|refine T.zero (by decide) ?_|refine T.build rfl ?_|refine T.len rfl rfl rfl ?_|refine T.lenS rfl ?_|refine T.lenN rfl ?_|refine T.mkf ?_|refine T.mki ?_|refine T.mksl rfl rfl (by decide) ?_|refine T.copy rfl rfl rfl ⟨rfl,rfl⟩ ?_|refine T.idx rfl rfl rfl ⟨rfl,rfl⟩ (by omega) ?_|refine T.idxa rfl rfl rfl rfl (by omega) ?_|refine T.idxd rfl rfl (by omega) ?_|refine T.bsl rfl (by decide) ?_|refine T.slc rfl rfl rfl rfl ⟨rfl,rfl⟩ (by omega) ?_|refine T.go rfl rfl ?_|refine T.pass rfl rfl ?_|refine T.pickB rfl rfl rfl ?_|refine AW.retI ?_)
 have hm:x % n=if x.tmod n < 0 then x.tmod n+n else x.tmod n:=by
  rw [Int.tmod_eq_emod]
  have h0:=Int.emod_nonneg x (show n≠0 by omega)
  have h1:=Int.emod_lt_of_pos x hn
  have h2:(n.natAbs:Int)=n:=by omega
  split <;> split <;> omega
 have hlo:-n≤x.tmod n∧x.tmod n < n:=by
  have h0:=Int.emod_nonneg x (show n≠0 by omega)
  have h1:=Int.emod_lt_of_pos x hn
  split at hm <;> omega
 refine AW.condB rfl (fun ht=>?_) (fun ht=>?_)
 ·have ht:=of_decide_eq_true ht
  rw [if_pos ht] at hm
  repeat (first|refine AW.regS fun K hK=>?_|refine AW.dregS fun K hK=>?_|refine AW.regN fun K hK=>?_|refine AW.dregN fun K hK=>?_|simp only [T.mv,sm,AO.ev,put,lk,enter,reduceIte,Nat.reduceEqDiff,Nat.reduceAdd,Nat.reduceMul,Nat.reduceSub,Int.reduceNeg,Int.reduceToNat,upto,renB,setAll]|refine T.nil ?_|(first|refine hK _ _ _ (by rfl) ?_|refine hK _ _ _ ?_); simp only [keep,List.map,lk,reduceIte,Nat.reduceEqDiff,enter]; clear hK; clear K|refine T.add rfl rfl (by omega) (by omega) ?_|refine T.sub rfl rfl (by omega) (by omega) ?_|refine T.bin rfl rfl rfl ?_|refine T.rem rfl rfl (by omega) ?_|refine T.quo rfl rfl (by omega) ?_|refine T.shl rfl rfl (by omega) ?_|refine T.shr rfl rfl (by omega) ?_|refine T.min2 rfl rfl rfl ?_|refine T.max2 rfl rfl rfl ?_|refine T.ext rfl rfl ?_|refine T.lenc ?_|refine T.eqnP rfl rfl ⟨rfl,by decide⟩ ?_|refine T.eqnN rfl ?_|refine T.neg rfl ?_|refine T.xorn rfl ?_|refine T.notD rfl ?_|refine T.not rfl ?_|refine T.eqb0 rfl rfl ?_|refine T.eqb1 rfl rfl ?_|refine T.cvt rfl ?_|refine T.ld rfl rfl rfl rfl rfl ?_|refine T.ldd rfl rfl ?_|refine T.ldn rfl rfl rfl rfl lb ?_|refine T.lddn rfl lb ?_|refine T.fad rfl rfl rfl ?_|refine T.fadd rfl ?_|refine T.nilc rfl rfl rfl ?_|refine T.nilcd rfl ?_|refine T.st rfl rfl rfl ⟨rfl,rfl⟩ rfl lb ?_|refine T.fld rfl rfl ?_|refine T.new rfl ⟨rfl,by decide⟩ ?_|refine T.zero (by decide) ?_|refine T.build rfl ?_|refine T.len rfl rfl rfl ?_|refine T.lenS rfl ?_|refine T.lenN rfl ?_|refine T.mkf ?_|refine T.mki ?_|refine T.mksl rfl rfl (by decide) ?_|refine T.copy rfl rfl rfl ⟨rfl,rfl⟩ ?_|refine T.idx rfl rfl rfl ⟨rfl,rfl⟩ (by omega) ?_|refine T.idxa rfl rfl rfl rfl (by omega) ?_|refine T.idxd rfl rfl (by omega) ?_|refine T.bsl rfl (by decide) ?_|refine T.slc rfl rfl rfl rfl ⟨rfl,rfl⟩ (by omega) ?_|refine T.go rfl rfl ?_|refine T.pass rfl rfl ?_|refine T.pickB rfl rfl rfl ?_|refine AW.retI ?_)
  refine hN _ _ ?_
  repeat (first|refine AW.regS fun K hK=>?_|refine AW.dregS fun K hK=>?_|refine AW.regN fun K hK=>?_|refine AW.dregN fun K hK=>?_|simp only [T.mv,sm,AO.ev,put,lk,enter,reduceIte,Nat.reduceEqDiff,Nat.reduceAdd,Nat.reduceMul,Nat.reduceSub,Int.reduceNeg,Int.reduceToNat,upto,renB,setAll]|refine T.nil ?_|(first|refine hK _ _ _ (by rfl) ?_|refine hK _ _ _ ?_); simp only [keep,List.map,lk,reduceIte,Nat.reduceEqDiff,enter]; clear hK; clear K|refine T.add rfl rfl (by omega) (by omega) ?_|refine T.sub rfl rfl (by omega) (by omega) ?_|refine T.bin rfl rfl rfl ?_|refine T.rem rfl rfl (by omega) ?_|refine T.quo rfl rfl (by omega) ?_|refine T.shl rfl rfl (by omega) ?_|refine T.shr rfl rfl (by omega) ?_|refine T.min2 rfl rfl rfl ?_|refine T.max2 rfl rfl rfl ?_|refine T.ext rfl rfl ?_|refine T.lenc ?_|refine T.eqnP rfl rfl ⟨rfl,by decide⟩ ?_|refine T.eqnN rfl ?_|refine T.neg rfl ?_|refine T.xorn rfl ?_|refine T.notD rfl ?_|refine T.not rfl ?_|refine T.eqb0 rfl rfl ?_|refine T.eqb1 rfl rfl ?_|refine T.cvt rfl ?_|refine T.ld rfl rfl rfl rfl rfl ?_|refine T.ldd rfl rfl ?_|refine T.ldn rfl rfl rfl rfl lb ?_|refine T.lddn rfl lb ?_|refine T.fad rfl rfl rfl ?_|refine T.fadd rfl ?_|refine T.nilc rfl rfl rfl ?_|refine T.nilcd rfl ?_|refine T.st rfl rfl rfl ⟨rfl,rfl⟩ rfl lb ?_|refine T.fld rfl rfl ?_|refine T.new rfl ⟨rfl,by decide⟩ ?_|refine T.zero (by decide) ?_|refine T.build rfl ?_|refine T.len rfl rfl rfl ?_|refine T.lenS rfl ?_|refine T.lenN rfl ?_|refine T.mkf ?_|refine T.mki ?_|refine T.mksl rfl rfl (by decide) ?_|refine T.copy rfl rfl rfl ⟨rfl,rfl⟩ ?_|refine T.idx rfl rfl rfl ⟨rfl,rfl⟩ (by omega) ?_|refine T.idxa rfl rfl rfl rfl (by omega) ?_|refine T.idxd rfl rfl (by omega) ?_|refine T.bsl rfl (by decide) ?_|refine T.slc rfl rfl rfl rfl ⟨rfl,rfl⟩ (by omega) ?_|refine T.go rfl rfl ?_|refine T.pass rfl rfl ?_|refine T.pickB rfl rfl rfl ?_|refine AW.retI ?_)
  exact hQ _ _ _ rfl (WeakV.cE rfl (by rw [hm]))
 ·have ht:=of_decide_eq_false ht
  rw [if_neg ht] at hm
  refine AW.skipI (hN _ _ ?_)
  repeat (first|refine AW.regS fun K hK=>?_|refine AW.dregS fun K hK=>?_|refine AW.regN fun K hK=>?_|refine AW.dregN fun K hK=>?_|simp only [T.mv,sm,AO.ev,put,lk,enter,reduceIte,Nat.reduceEqDiff,Nat.reduceAdd,Nat.reduceMul,Nat.reduceSub,Int.reduceNeg,Int.reduceToNat,upto,renB,setAll]|refine T.nil ?_|(first|refine hK _ _ _ (by rfl) ?_|refine hK _ _ _ ?_); simp only [keep,List.map,lk,reduceIte,Nat.reduceEqDiff,enter]; clear hK; clear K|refine T.add rfl rfl (by omega) (by omega) ?_|refine T.sub rfl rfl (by omega) (by omega) ?_|refine T.bin rfl rfl rfl ?_|refine T.rem rfl rfl (by omega) ?_|refine T.quo rfl rfl (by omega) ?_|refine T.shl rfl rfl (by omega) ?_|refine T.shr rfl rfl (by omega) ?_|refine T.min2 rfl rfl rfl ?_|refine T.max2 rfl rfl rfl ?_|refine T.ext rfl rfl ?_|refine T.lenc ?_|refine T.eqnP rfl rfl ⟨rfl,by decide⟩ ?_|refine T.eqnN rfl ?_|refine T.neg rfl ?_|refine T.xorn rfl ?_|refine T.notD rfl ?_|refine T.not rfl ?_|refine T.eqb0 rfl rfl ?_|refine T.eqb1 rfl rfl ?_|refine T.cvt rfl ?_|refine T.ld rfl rfl rfl rfl rfl ?_|refine T.ldd rfl rfl ?_|refine T.ldn rfl rfl rfl rfl lb ?_|refine T.lddn rfl lb ?_|refine T.fad rfl rfl rfl ?_|refine T.fadd rfl ?_|refine T.nilc rfl rfl rfl ?_|refine T.nilcd rfl ?_|refine T.st rfl rfl rfl ⟨rfl,rfl⟩ rfl lb ?_|refine T.fld rfl rfl ?_|refine T.new rfl ⟨rfl,by decide⟩ ?_|refine T.zero (by decide) ?_|refine T.build rfl ?_|refine T.len rfl rfl rfl ?_|refine T.lenS rfl ?_|refine T.lenN rfl ?_|refine T.mkf ?_|refine T.mki ?_|refine T.mksl rfl rfl (by decide) ?_|refine T.copy rfl rfl rfl ⟨rfl,rfl⟩ ?_|refine T.idx rfl rfl rfl ⟨rfl,rfl⟩ (by omega) ?_|refine T.idxa rfl rfl rfl rfl (by omega) ?_|refine T.idxd rfl rfl (by omega) ?_|refine T.bsl rfl (by decide) ?_|refine T.slc rfl rfl rfl rfl ⟨rfl,rfl⟩ (by omega) ?_|refine T.go rfl rfl ?_|refine T.pass rfl rfl ?_|refine T.pickB rfl rfl rfl ?_|refine AW.retI ?_)
  exact hQ _ _ _ rfl (WeakV.cE rfl (by rw [hm]))
def putv (v:Int) (i n:Nat) (x:Int):Int:=v % 2 ^ i+x % 2 ^ n * 2 ^ i+v % 2 ^ 62 / 2 ^ (i+n) * 2 ^ (i+n)
def sizeM (m:Int):Int:=if m=0 then 0 else if m=4∨m=5∨m=6 then 2 else if m=1∨m=2∨m=3∨m=7∨m=8 then 1 else -1
theorem size_ok (m:Int):FnE Try.prog 18 [I m] [] (I (sizeM m)) []:=by
 refine N.fnC Try.func18 k18 fun Q hQ hQN=>?_
 repeat' (first|exact ⟨⟩|intro (K:KT) hK|intro hcd|refine go1 ?_ ?_|fail)
 all_goals (refine WS.c rfl ?_; congr 1; unfold sizeM; repeat' split) <;> omega
theorem wideT_ok (r:Int):FnE Try.prog 78 [I r] [] (.c (.bool (decide (r=7∨r=8)))) []:=by
 refine N.fnC Try.func78 k78 fun Q hQ hQN=>?_
 repeat' (first|exact ⟨⟩|intro (K:KT) hK|intro hcd|refine go1 ?_ ?_|fail)
 all_goals (refine WS.bool rfl ?_; simp only [decide_eq_true_eq,Bool.false_eq_true,true_iff,false_iff,iff_true,iff_false] <;> omega)
theorem register_ok (r:Int):FnE Try.prog 77 [I r] [] (.c (.bool (decide (0≤r∧r < 9)))) []:=by
 refine N.fnC Try.func77 k77 fun Q hQ hQN=>?_
 repeat' (first|exact ⟨⟩|intro (K:KT) hK|intro hcd|refine go1 ?_ ?_|fail)
 all_goals (refine WS.bool rfl ?_; simp only [decide_eq_true_eq,Bool.false_eq_true,true_iff,false_iff,iff_true,iff_false] <;> omega)
def usesL:List (Int×Int×Bool):=[(0,0,false),(115,115,false),(97,0,true),(98,0,false),(98,98,false),(98,98,false),(98,98,false),(98,98,false),(98,98,false),(98,98,false),(97,0,false),(97,0,false),(98,0,false),(98,0,false),(98,0,false),(98,0,false),(0,0,true),(0,0,true),(119,98,false),(119,98,false),(98,119,false),(98,119,false),(119,98,false),(119,98,false)]
def usesT (d:Int):Int×Int×Bool:=usesL.getD d.toNat (0,0,false)
theorem uses_ok (d:Int) (h:0≤d∧d < 24):FnE Try.prog 99 [I d] [] (.tup [.c (.int .u8 (usesT d).1),.c (.int .u8 (usesT d).2.1),.c (.bool (usesT d).2.2)]) []:=by
  refine N.fnC Try.func99 k99 fun Q hQ hQN=>?_
  repeat' (first
  | exact ⟨⟩
  | intro (K:KT) hK
  | intro hcd
  | refine go1 ?_ ?_
  | fail)
  all_goals first
    | (subst hcd; exact WS.drop (n:=0) rfl rfl)
    | (obtain rfl:d=0:=by omega
       exact WS.drop (n:=0) rfl rfl)
def fitsP (r n:Int):Prop:=if n=0 then r=0 else if n=119 then r=7∨r=8 else if n=98 then 0≤r∧r < 7 else 0≤r∧r < 9
theorem fits_ok (r n:Int) (h:fitsP r n):FnE Try.prog 100 [I r,.c (.int .u8 n)] [] (.c (.bool true)) []:=by
 refine N.fnC Try.func100 k100 fun Q hQ hQN=>?_
 have h1:=wideT_ok r
 have h2:=register_ok r
 unfold fitsP at h
 by_cases n0:n=0
 ·rw [if_pos n0] at h
  repeat' (first|(show Wc; first|refine T.call0 e78 rfl h1 ?_|refine T.call0 e77 rfl h2 ?_)|exact ⟨⟩|intro (K:KT) hK|intro hcd|refine go1 ?_ ?_|fail)
  all_goals (refine WS.bool rfl ?_; simp only [decide_eq_true_eq,Bool.false_eq_true,true_iff,false_iff,iff_true,iff_false] <;> omega)
 rw [if_neg n0] at h
 by_cases n1:n=119
 ·rw [if_pos n1] at h
  rw [show decide (r=7∨r=8)=true from decide_eq_true h] at h1
  rw [show decide (0≤r∧r < 9)=true from decide_eq_true (by omega)] at h2
  repeat' (first|(show Wc; first|refine T.call0 e78 rfl h1 ?_|refine T.call0 e77 rfl h2 ?_)|exact ⟨⟩|intro (K:KT) hK|intro hcd|refine go1 ?_ ?_|fail)
  all_goals (refine WS.bool rfl ?_; simp only [decide_eq_true_eq,Bool.false_eq_true,true_iff,false_iff,iff_true,iff_false] <;> omega)
 rw [if_neg n1] at h
 by_cases n2:n=98
 ·rw [if_pos n2] at h
  rw [show decide (r=7∨r=8)=false from decide_eq_false (by omega)] at h1
  rw [show decide (0≤r∧r < 9)=true from decide_eq_true (by omega)] at h2
  repeat' (first|(show Wc; first|refine T.call0 e78 rfl h1 ?_|refine T.call0 e77 rfl h2 ?_)|exact ⟨⟩|intro (K:KT) hK|intro hcd|refine go1 ?_ ?_|fail)
  all_goals (refine WS.bool rfl ?_; simp only [decide_eq_true_eq,Bool.false_eq_true,true_iff,false_iff,iff_true,iff_false,Bool.not_false,Bool.not_true] <;> omega)
 rw [if_neg n2] at h
 rw [show decide (0≤r∧r < 9)=true from decide_eq_true (by omega)] at h2
 repeat' (first|(show Wc; first|refine T.call0 e78 rfl h1 ?_|refine T.call0 e77 rfl h2 ?_)|exact ⟨⟩|intro (K:KT) hK|intro hcd|refine go1 ?_ ?_|fail)
 all_goals (refine WS.bool rfl ?_; simp only [decide_eq_true_eq,Bool.false_eq_true,true_iff,false_iff,iff_true,iff_false] <;> omega)
structure Stp where
 op:Int
 to:Int
 fr:Int
 n:Int
def stC (s:Stp):List V:=[I s.op,I s.to,I s.fr,I s.n]
def VStep (s:Stp):Prop:=(s.op=24∧s.to=0∧(0≤s.fr∧s.fr≤1)∧0≤s.n∧s.n≤255)∨((0≤s.op∧s.op < 24)∧fitsP s.to (usesT s.op).1∧fitsP s.fr (usesT s.op).2.1∧((usesT s.op).1=115→(s.to < 7↔s.fr < 7))∧0≤s.n∧s.n≤if (usesT s.op).2.2=true then (if s.op=2∧7≤s.to then 65535 else 255) else 0)
theorem fitsP_in {r n:Int} (h:fitsP r n):0≤r∧r < 9:=by
 unfold fitsP at h
 split at h
 ·omega
 ·split at h
  ·omega
  ·split at h <;> omega
theorem steps_ok (s:Stp) (hs:VStep s):FnE Try.prog 79 [.agg (stC s)] [] (I 0) []:=by
 obtain ⟨d,t,f,n⟩:=s
 refine N.fnC Try.func79 k79 fun Q hQ hQN=>?_
 rcases hs with ⟨h1,h2,h3,h4⟩|⟨h1,h2,h3,h4,h5,h6⟩
 ·dsimp only at h1 h2 h3 h4
  subst h1 h2
  repeat' (first|exact ⟨⟩|intro (K:KT) hK|intro hcd|refine go1 ?_ ?_|fail)
  all_goals first|exact WS.c rfl rfl|(exfalso; omega)
 ·dsimp only at h1 h2 h3 h4 h5 h6
  have hu:=uses_ok d h1
  have g1:=fits_ok t _ h2
  have g2:=fits_ok f _ h3
  have i1:=fitsP_in h2
  have i2:=fitsP_in h3
  have w1:=wideT_ok t
  have w2:=wideT_ok f
  have w3:=register_ok t
  clear h2 h3
  generalize (usesT d).1=a at *
  generalize (usesT d).2.1=b at *
  generalize (usesT d).2.2=u at *
  cases u
  ·rw [if_neg (by decide)] at h6
   repeat' (first|(show Wc; first|refine T.call0 e99 rfl hu ?_|refine T.call0 e100 rfl g1 ?_|refine T.call0 e100 rfl g2 ?_|refine T.call0 e78 rfl w1 ?_|refine T.call0 e78 rfl w2 ?_|refine T.call0 e77 rfl w3 ?_)|exact ⟨⟩|intro (K:KT) hK|intro hcd|refine go1 ?_ ?_|fail)
   all_goals first|exact WS.c rfl rfl|(exfalso; omega)
  ·rw [if_pos rfl] at h6
   by_cases h7:d=2∧7≤t
   ·rw [if_pos h7] at h6
    repeat' (first|(show Wc; first|refine T.call0 e99 rfl hu ?_|refine T.call0 e100 rfl g1 ?_|refine T.call0 e100 rfl g2 ?_|refine T.call0 e78 rfl w1 ?_|refine T.call0 e78 rfl w2 ?_|refine T.call0 e77 rfl w3 ?_)|exact ⟨⟩|intro (K:KT) hK|intro hcd|refine go1 ?_ ?_|fail)
    all_goals first|exact WS.c rfl rfl|(exfalso; omega)
   ·rw [if_neg h7] at h6
    repeat' (first|(show Wc; first|refine T.call0 e99 rfl hu ?_|refine T.call0 e100 rfl g1 ?_|refine T.call0 e100 rfl g2 ?_|refine T.call0 e78 rfl w1 ?_|refine T.call0 e78 rfl w2 ?_|refine T.call0 e77 rfl w3 ?_)|exact ⟨⟩|intro (K:KT) hK|intro hcd|refine go1 ?_ ?_|fail)
    all_goals first|exact WS.c rfl rfl|(exfalso; omega)
structure Cyc where
 bus:Int
 at_:Int
 reg:Int
 steps:List Stp
def cyC (c:Cyc):List V:=[I c.bus,I c.at_,I c.reg,.sl 4 (c.steps.map stC)]
def VCyc (c:Cyc):Prop:=(0≤c.bus∧c.bus≤2)∧(c.bus=0→c.at_=0∧c.reg=0)∧(0≤c.at_∧c.at_ < 12)∧(0≤c.reg∧c.reg < 7)∧c.steps.length≤6∧∀ s ∈ c.steps,VStep s
theorem mget {α:Type} (f:α→List V) (l:List α) (i:Nat) (hi:i < l.length):(l.map f)[((i:Nat):Int).toNat]?=some (f l[i]):=by
 rw [Int.toNat_natCast,List.getElem?_map,List.getElem?_eq_getElem hi]; rfl
theorem cycle_ok (c:Cyc) (hc:VCyc c):FnE Try.prog 56 [.agg (cyC c)] [] (I 0) []:=by
 obtain ⟨b,a,r,l⟩:=c
 obtain ⟨h1,h2,h3,h4,h5,h6⟩:=hc
 dsimp only at h1 h2 h3 h4 h5 h6
 refine N.fnC Try.func56 k56 fun Q hQ hQN=>?_
 have g1:=register_ok r
 have g2:=wideT_ok r
 rw [show decide (r=7∨r=8)=false from decide_eq_false (by omega)] at g2
 rw [show decide (0≤r∧r < 9)=true from decide_eq_true (by omega)] at g1
 repeat' (first|rw [List.length_map]|(show Wc; first|refine T.call0 e77 rfl g1 ?_|refine T.call0 e78 rfl g2 ?_)|exact ⟨⟩|intro (K:KT) hK|intro hcd|refine go1 ?_ ?_|fail)
 all_goals
  refine N.loop (σ:=Nat) (fun i=>[(55,.sl 4 (l.map stC)),(56,I l.length),(57,I i)]) (fun i=>[]) (fun i=>i≤l.length) (fun i=>l.length - i) 0 (by omega) (by exact .G [] 1) fun i hi C hC=>?_
  by_cases hil:i < l.length
  ·have hv:=steps_ok _ (h6 _ (List.getElem_mem hil))
   repeat' (first|(show Wo (.idx _ _ _ _); refine T.idxs rfl rfl rfl (by omega) (mget stC l i hil) ?_)|refine T.call0 e79 rfl hv ?_|exact ⟨⟩|intro (K:KT) hK|intro hcd|refine go1 ?_ ?_|fail)
   exact hC _ _ (i+1) (by omega) (by omega) (by exact .G [] 1)
  ·obtain rfl:i=l.length:=by omega
   repeat' (first|exact ⟨⟩|intro (K:KT) hK|intro hcd|refine go1 ?_ ?_|fail)
   exact WS.c rfl rfl
def VCycs (l:List Cyc):Prop:=l.length≤8∧∀ c ∈ l,VCyc c
theorem cycles_ok (l:List Cyc) (hl:VCycs l):FnE Try.prog 33 [.sl 4 (l.map cyC)] [] (I 0) []:=by
 obtain ⟨h1,h2⟩:=hl
 refine N.fnC Try.func33 k33 fun Q hQ hQN=>?_
 repeat' (first|rw [List.length_map]|exact ⟨⟩|intro (K:KT) hK|intro hcd|refine go1 ?_ ?_|fail)
 refine N.loop (σ:=Nat) (fun i=>[(9,.sl 4 (l.map cyC)),(10,I l.length),(11,I i)]) (fun i=>[]) (fun i=>i≤l.length) (fun i=>l.length - i) 0 (by omega) (by exact .G [] 1) fun i hi C hC=>?_
 by_cases hil:i < l.length
 ·have hv:=cycle_ok _ (h2 _ (List.getElem_mem hil))
  repeat' (first|(show Wo (.idx _ _ _ _); refine T.idxs rfl rfl rfl (by omega) (mget cyC l i hil) ?_)|refine T.call0 e56 rfl hv ?_|exact ⟨⟩|intro (K:KT) hK|intro hcd|refine go1 ?_ ?_|fail)
  exact hC _ _ (i+1) (by omega) (by omega) (by exact .G [] 1)
 ·obtain rfl:i=l.length:=by omega
  repeat' (first|exact ⟨⟩|intro (K:KT) hK|intro hcd|refine go1 ?_ ?_|fail)
  exact WS.c rfl rfl
def opnd (l:List Cyc):Int:=(l.countP fun c=>c.bus == 1 && c.at_ == 0:Nat)
theorem opnd_take (l:List Cyc) (i:Nat) (hi:i < l.length):opnd (l.take (i+1))=opnd (l.take i)+if l[i].bus=1∧l[i].at_=0 then 1 else 0:=by
 unfold opnd
 rw [List.take_succ_eq_append_getElem hi,List.countP_append]
 simp only [List.countP_cons,List.countP_nil,Bool.and_eq_true,beq_iff_eq]
 split <;> simp
theorem opnd_in (l:List Cyc):0≤opnd l∧opnd l≤l.length:=by
 unfold opnd
 have:=List.countP_le_length (p:=fun c:Cyc=>c.bus == 1 && c.at_ == 0) (l:=l)
 omega
theorem operand_ok (l:List Cyc) (hl:l.length≤8):FnE Try.prog 34 [.sl 4 (l.map cyC)] [] (I (opnd l)) []:=by
 refine N.fnC Try.func34 k34 fun Q hQ hQN=>?_
 repeat' (first|rw [List.length_map]|exact ⟨⟩|intro (K:KT) hK|intro hcd|refine go1 ?_ ?_|fail)
 refine N.loop (σ:=Nat) (fun i=>[(3,I (opnd (l.take i))),(6,.sl 4 (l.map cyC)),(7,I l.length),(8,I i)]) (fun i=>[]) (fun i=>i≤l.length) (fun i=>l.length - i) 0 (by omega) (by exact .G [] 1) fun i hi C hC=>?_
 by_cases hil:i < l.length
 ·have e:=opnd_take l i hil
  have b1:=opnd_in (l.take i)
  have b2:=List.length_take_le i l
  obtain ⟨w,hw⟩:∃ w,l[i]=w:=⟨_,rfl⟩
  obtain ⟨b,a,r,ss⟩:=w
  have hm:=mget cyC l i hil
  rw [hw] at hm e
  dsimp only at e
  repeat' (first|refine rI hm ?_|exact ⟨⟩|intro (K:KT) hK|intro hcd|refine go1 ?_ ?_|fail)
  all_goals
   refine hC _ _ (i+1) (by omega) (by omega) ?_
   rw [e]
   first|(rw [if_pos (by omega)]; exact (by exact .G [] 1))|(rw [if_neg (by omega),Int.add_zero]; exact (by exact .G [] 1))
 ·obtain rfl:i=l.length:=by omega
  rw [List.take_length]
  repeat' (first|exact ⟨⟩|intro (K:KT) hK|intro hcd|refine go1 ?_ ?_|fail)
  exact WS.c rfl rfl
def nmB (s:ByteArray):List Int:=s.data.toList.map fun b=>(b.toNat:Int)
theorem nmB_len (s:ByteArray):(nmB s).length=s.size:=by simp [nmB]
def okCh (b:Int):Prop:=(97≤b∧b≤122)∨(48≤b∧b≤57)∨b=45
def VName (s:ByteArray):Prop:=(1≤s.size∧s.size≤20)∧(∃ b,s[0]?=some b∧97≤(b.toNat:Int)∧(b.toNat:Int)≤122)∧∀ x ∈ nmB s,okCh x
theorem name_ok (s:ByteArray) (hs:VName s):FnE Try.prog 30 [.c (.string s)] [] (.c (.bool true)) []:=by
 obtain ⟨h1,⟨b0,h2,h3⟩,h4⟩:=hs
 have hne:decide (s=⟨#[]⟩)=false:=decide_eq_false (by intro h; subst h; exact absurd h1.1 (by decide))
 have hl:=nmB_len s
 refine N.fnC Try.func30 k30 fun Q hQ hQN=>?_
 repeat' (first|rw [hne]|refine T.lens rfl ?_|(show Wo (.ixs _ _); refine T.ixs rfl rfl (by decide) h2 ?_)|refine T.s2b rfl ?_|exact ⟨⟩|intro (K:KT) hK|intro hcd|refine go1 ?_ ?_|fail)
 refine N.loop (σ:=Nat) (fun i=>[(23,.psl 0 1 0 s.size),(24,I s.size),(25,I i)]) (fun i=>[⟨1,1,bcells (nmB s)⟩]) (fun i=>i≤s.size) (fun i=>s.size - i) 0 (by omega) (Weaks.sel (by exact sB) rfl) fun i hi C hC=>?_
 by_cases hil:i < s.size
 ·have hil2:i < (nmB s).length:=by omega
  have hg:=bget (m:=nmB s) (i:=i) hil2
  have hx:=h4 ((nmB s).getD i 0) (by rw [List.getD_eq_getElem?_getD,List.getElem?_eq_getElem hil2]; exact List.getElem_mem hil2)
  obtain ⟨x,hxe⟩:∃ x,(nmB s).getD i 0=x:=⟨_,rfl⟩
  rw [hxe] at hg hx
  unfold okCh at hx
  have hg2:(bcells (nmB s))[0+((i:Nat):Int).toNat]?=some [.c (.int .u8 x)]:=by rw [Int.toNat_natCast,Nat.zero_add]; exact hg
  repeat' (first|(show Wo (.ld _ _); refine T.ld rfl rfl rfl hg2 rfl ?_)|exact ⟨⟩|intro (K:KT) hK|intro hcd|refine go1 ?_ ?_|fail)
  all_goals first|exact hC _ _ (i+1) (by omega) (by omega) (Weaks.sel (by exact sB) rfl)|trace_state
 ·obtain rfl:i=s.size:=by omega
  repeat' (first|exact ⟨⟩|intro (K:KT) hK|intro hcd|refine go1 ?_ ?_|fail)
  exact WS.c rfl rfl
structure Ins where
 op:Int
 name:ByteArray
 mode:Int
 cy:List Cyc
def inC (x:Ins):List V:=[I x.op,.c (.string x.name),I x.mode,.sl 4 (x.cy.map cyC)]
def idxI (p:Ins→Bool) (l:List Ins):Int:=match l.findIdx? p with|some i=>(i:Int)|none=>-1
theorem idxI_at (p:Ins→Bool) (l:List Ins) (i:Nat) (hi:i < l.length) (h:∀ j,j < i→∀ hj:j < l.length,p l[j]=false) (hp:p l[i]=true):idxI p l=i:=by
 unfold idxI
 rw [show l.findIdx? p=some i from List.findIdx?_eq_some_iff_getElem.2 ⟨hi,hp,fun j hj=>by rw [h j hj (by omega)]; decide⟩]
theorem idxI_none (p:Ins→Bool) (l:List Ins) (h:∀ j,∀ hj:j < l.length,p l[j]=false):idxI p l=-1:=by
 unfold idxI
 rw [show l.findIdx? p=none from List.findIdx?_eq_none_iff.2 fun x hx=>by obtain ⟨j,hj,rfl⟩:=List.getElem_of_mem hx; exact h j hj]
theorem indexI (f:Nat) (he:enters Try.prog f=true) (y:Ins) (l:List Ins) (p:Ins→Bool) (hl:l.length≤256) (hp:∀ x ∈ l,FnE Try.prog f [.agg (inC x),.ptr 0 1 0 0] [⟨1,4,[inC y]⟩] (.c (.bool (p x))) [⟨1,4,[inC y]⟩]):FnE Try.prog 55 [.sl 4 (l.map inC),.fn f [.ptr 0 1 0 0]] [⟨1,4,[inC y]⟩] (I (idxI p l)) [⟨1,4,[inC y]⟩]:=by
 refine N.fnC Try.func55 k55 fun Q hQ hQN=>?_
 repeat' (first|rw [List.length_map]|exact ⟨⟩|intro (K:KT) hK|intro hcd|refine go1 ?_ ?_|fail)
 refine N.loop (σ:=Nat) (fun i=>[(0,.sl 4 (l.map inC)),(1,.fn f [.ptr 0 1 0 0]),(7,I l.length),(8,I i)]) (fun i=>[⟨1,4,[inC y]⟩]) (fun i=>i≤l.length∧∀ j,j < i→∀ hj:j < l.length,p l[j]=false) (fun i=>l.length - i) 0 ⟨by omega,fun j hj=>absurd hj (by omega)⟩ (Weaks.sel (by exact sB) rfl) fun i hi R hC=>?_
 obtain ⟨hi,hn⟩:=hi
 by_cases hil:i < l.length
 ·have hv:=hp _ (List.getElem_mem hil)
  obtain ⟨b,hb⟩:∃ b,p l[i]=b:=⟨_,rfl⟩
  rw [hb] at hv
  cases b
  ·skip
   repeat' (first|(show Wo (.idx _ _ _ _); refine T.idxs rfl rfl rfl (by omega) (mget inC l i hil) ?_)|refine T.ofFn rfl (C.read [0] he rfl hv rfl rfl rfl rfl rfl ?_)|exact ⟨⟩|intro (K:KT) hK|intro hcd|refine go1 ?_ ?_|fail)
   refine hC _ _ (i+1) ⟨by omega,fun j hj hjl=>?_⟩ (by omega) (Weaks.sel (by exact sB) rfl)
   by_cases hji:j=i
   ·subst hji; exact hb
   ·exact hn j (by omega) hjl
  ·rw [idxI_at p l i hil hn hb] at hQ hQN
   repeat' (first|(show Wo (.idx _ _ _ _); refine T.idxs rfl rfl rfl (by omega) (mget inC l i hil) ?_)|refine T.ofFn rfl (C.read [0] he rfl hv rfl rfl rfl rfl rfl ?_)|exact ⟨⟩|intro (K:KT) hK|intro hcd|refine go1 ?_ ?_|fail)
   exact WS.gc [0] 1 rfl (by exact oO) .rfl
 ·obtain rfl:i=l.length:=by omega
  rw [idxI_none p l fun j hj=>hn j hj hj] at hQ hQN
  repeat' (first|exact ⟨⟩|intro (K:KT) hK|intro hcd|refine go1 ?_ ?_|fail)
  exact WS.gc [0] 1 rfl (by exact oO) .rfl
theorem check1_ok (x y:Ins):FnE Try.prog 32 [.agg (inC x),.ptr 0 1 0 0] [⟨1,4,[inC y]⟩] (.c (.bool (decide (x.name=y.name∧x.mode=y.mode)))) [⟨1,4,[inC y]⟩]:=by
 obtain ⟨a,s,m,cy⟩:=x
 obtain ⟨b,t,o,dy⟩:=y
 refine N.fnC Try.func32 k32 fun Q hQ hQN=>?_
 repeat' (first|exact ⟨⟩|intro (K:KT) hK|intro hcd|refine go1 ?_ ?_|fail)
 ·show WeakS _ _ _ (.c (.bool (decide (s=t∧m=o)))) _
  rw [show decide (s=t∧m=o)=decide (m=o) from by simp [*]]
  exact WS.gc [0] 1 rfl (by exact oO) .rfl
 ·show WeakS _ _ _ (.c (.bool (decide (s=t∧m=o)))) _
  rw [show decide (s=t∧m=o)=false from by simp [*]]
  exact WS.gc [0] 1 rfl (by exact oO) .rfl
theorem containsI (f:Nat) (he:enters Try.prog f=true) (y:Ins) (l:List Ins) (p:Ins→Bool) (hl:l.length≤256) (hp:∀ x ∈ l,FnE Try.prog f [.agg (inC x),.ptr 0 1 0 0] [⟨1,4,[inC y]⟩] (.c (.bool (p x))) [⟨1,4,[inC y]⟩]):FnE Try.prog 31 [.sl 4 (l.map inC),.fn f [.ptr 0 1 0 0]] [⟨1,4,[inC y]⟩] (.c (.bool (decide (0≤idxI p l)))) [⟨1,4,[inC y]⟩]:=by
 have hi:=indexI f he y l p hl hp
 refine N.fnC Try.func31 k31 fun Q hQ hQN=>?_
 repeat' (first|refine T.callQ [0] e55 rfl (hi) (by exact pA) rfl rfl rfl (by exact rN) ?_|exact ⟨⟩|intro (K:KT) hK|intro hcd|refine go1 ?_ ?_|fail)
 exact WS.gc [0] 1 rfl (by exact oO) .rfl
structure Cpu where
 name:ByteArray
 ins:List Ins
 res:List Cyc
 irq:List Cyc
 nmi:List Cyc
def cpC (c:Cpu):List V:=[.c (.string c.name),.sl 4 (c.ins.map inC),.sl 4 (c.res.map cyC),.sl 4 (c.irq.map cyC),.sl 4 (c.nmi.map cyC)]
def SmlC (l:List Cyc):Prop:=l.length≤8∧∀ c ∈ l,c.steps.length≤6
def SmlP (c:Cpu):Prop:=c.ins.length≤256∧(∀ x ∈ c.ins,SmlC x.cy)∧SmlC c.res∧SmlC c.irq∧SmlC c.nmi
instance:Flat stC:=⟨fun a x hx=>by simp [stC] at hx; rcases hx with rfl|rfl|rfl|rfl <;> exact .inl ⟨_,rfl⟩⟩
instance:Flat cyC:=⟨fun a x hx=>by simp [cyC] at hx; rcases hx with rfl|rfl|rfl|rfl <;> first|exact .inl ⟨_,rfl⟩|exact .inr ⟨_,_,rfl⟩⟩
instance:Flat inC:=⟨fun a x hx=>by simp [inC] at hx; rcases hx with rfl|rfl|rfl|rfl <;> first|exact .inl ⟨_,rfl⟩|exact .inr ⟨_,_,rfl⟩⟩
theorem out_rowsK {α:Type} {f:α→List V} [Flat f] {h:List Blk} {ids:List Nat} {n b v e len:Nat} {l:List α} (hp:pos ids b=none) (hb:h[b]?=some ⟨v,e,l.map f⟩) (hl:l.length≤len):out h ids (n+1) (.psl b v 0 len)=.sl e (l.map f):=by
 rw [out_pslK hp hb rfl,List.drop_zero,List.take_of_length_le (by simpa using hl),rows_frz]
theorem WS.rows {α:Type} {f:α→List V} [Flat f] {h:List Blk} {b v e len:Nat} {l:List α} (hb:h[b]?=some ⟨v,e,l.map f⟩) (hl:l.length≤len):WeakS 0 (.psl b v 0 len) h (.sl e (l.map f)) [] :=
 WS.gc [] 1 rfl rfl (by rw [out_rowsK rfl hb hl]; exact .rfl)
theorem WS.nil {h:List Blk} {e:Nat}:WeakS 0 (.c (.slice none 0 0)) h (.sl e []) []:=WS.gc [] 1 rfl rfl .nil
theorem cloneS_ok (l:List Stp) (hl:l.length≤6):FnE Try.prog 95 [.sl 4 (l.map stC)] [] (.sl 4 (l.map stC)) []:=by
 refine N.fnC Try.func95 k95 fun Q hQ hQN=>?_
 cases l with
 | nil =>
  repeat' (first|refine T.eqnU rfl ?_|(show Wo (.app _ _ _ _); refine T.app rfl rfl rfl ⟨by decide,by decide⟩ ⟨rfl,rfl,rfl,by decide⟩ ?_)|exact ⟨⟩|intro (K:KT) hK|intro hcd|refine go1 ?_ ?_|fail)
  all_goals first|exact WS.nil|exact WS.rows (f:=stC) (l:=[]) rfl (by simp)
 | cons a l =>
  have hl2:(List.map stC (a :: l)).length≤6:=by rw [List.length_map]; exact hl
  repeat' (first|refine T.eqnS rfl (Nat.succ_pos _) ?_|(show Wo (.app _ _ _ _); refine T.app rfl rfl rfl ⟨by decide,by decide⟩ ⟨rfl,rfl,rfl,by simp at hl ⊢; omega⟩ ?_)|exact ⟨⟩|intro (K:KT) hK|intro hcd|refine go1 ?_ ?_|fail)
  exact WS.rows (f:=stC) (l:=a :: l) rfl (by simp)
theorem cloneC_ok (a:Cyc) (l:List Cyc) (hl:(a :: l).length≤8):FnE Try.prog 94 [.sl 4 ((a :: l).map cyC)] [] (.psl 0 2 0 (a :: l).length) [⟨2,4,(a :: l).map cyC⟩]:=by
 refine N.fnC Try.func94 k94 fun Q hQ hQN=>?_
 have hl2:(List.map cyC (a :: l)).length≤8:=by rw [List.length_map]; exact hl
 repeat' (first|refine T.eqnS rfl (Nat.succ_pos _) ?_|(show Wo (.app _ _ _ _); refine T.app rfl rfl rfl ⟨by decide,by decide⟩ ⟨rfl,rfl,rfl,by simp at hl ⊢; omega⟩ ?_)|exact ⟨⟩|intro (K:KT) hK|intro hcd|refine go1 ?_ ?_|fail)
 exact WS.gc [0] 1 rfl (by show [(⟨2,4,(a :: l).map cyC⟩:Blk)]=[outB _ [0] 1 ⟨2,4,(a :: l).map cyC⟩]; rw [outB_flat]) (by show Sub (.psl 0 2 0 ((List.map cyC l).length+1)) _; rw [List.length_map]; exact .rfl)
theorem cloneC_nil:FnE Try.prog 94 [.sl 4 []] [] (.sl 4 []) []:=by
 refine N.fnC Try.func94 k94 fun Q hQ hQN=>?_
 repeat' (first|refine T.eqnU rfl ?_|(show Wo (.app _ _ _ _); refine T.app rfl rfl rfl ⟨by decide,by decide⟩ ⟨rfl,rfl,rfl,by decide⟩ ?_)|exact ⟨⟩|intro (K:KT) hK|intro hcd|refine go1 ?_ ?_|fail)
 all_goals first|exact WS.nil|exact WS.rows (f:=cyC) (l:=[]) rfl (by simp)
theorem set_cyc (l:List Cyc) (i:Nat) (hi:i < l.length):(l.map cyC).set i (spl (cyC l[i]) 3 [.sl 4 (l[i].steps.map stC)])=l.map cyC:=by
 apply List.ext_getElem?
 intro j
 rw [List.getElem?_set,List.length_map]
 by_cases h:i=j
 ·subst h
  rw [if_pos rfl,if_pos hi,List.getElem?_map,List.getElem?_eq_getElem hi]; rfl
 ·rw [if_neg h]
theorem copies_ok (l:List Cyc) (hl:SmlC l):FnE Try.prog 73 [.sl 4 (l.map cyC)] [] (.sl 4 (l.map cyC)) []:=by
 obtain ⟨h1,h2⟩:=hl
 refine N.fnC Try.func73 k73 fun Q hQ hQN=>?_
 cases l with
 | nil =>
  repeat' (first|(show AK _ _ (.loop _) _ _ _ _; refine N.unroll 1 ?_)|refine T.call0 e94 rfl cloneC_nil ?_|exact ⟨⟩|intro (K:KT) hK|intro hcd|refine go1 ?_ ?_|fail)
  exact WS.drop (n:=0) rfl rfl
 | cons a l =>
  obtain ⟨m,hm⟩:∃ m,a :: l=m:=⟨_,rfl⟩
  have hc:=cloneC_ok a l h1
  rw [hm] at hc h1 h2 hQ hQN ⊢
  clear hm
  repeat' (first|rw [rows_ren]|refine T.callN e94 rfl (hc) (by simp) ?_|exact ⟨⟩|intro (K:KT) hK|intro hcd|refine go1 ?_ ?_|fail)
  refine N.loop (σ:=Nat) (fun i=>[(3,.psl 0 2 0 m.length),(8,I m.length),(9,I i)]) (fun i=>[⟨2,4,m.map cyC⟩]) (fun i=>i≤m.length) (fun i=>m.length - i) 0 (by omega) (Weaks.sel (by exact sB) rfl) fun i hi R hC=>?_
  by_cases hil:i < m.length
  ·have hs:=cloneS_ok m[i].steps (h2 _ (List.getElem_mem hil))
   have e3:0+(i:Int).toNat=i:=by omega
   have hg:(m.map cyC)[i]?=some (cyC m[i]):=by rw [List.getElem?_map,List.getElem?_eq_getElem hil]; rfl
   repeat' (first|rw [e3]|(show Wo (.ld _ _); refine T.ld rfl rfl rfl hg rfl ?_)|(show Wo (.st _ _ _); refine T.st rfl rfl rfl ⟨rfl,rfl⟩ hg (Nat.le_of_ble_eq_true rfl) ?_)|rw [set_cyc m i hil]|refine T.call0 e95 rfl hs ?_|exact ⟨⟩|intro (K:KT) hK|intro hcd|refine go1 ?_ ?_|fail)
   exact hC _ _ (i+1) (by omega) (by omega) (Weaks.sel (by exact sB) rfl)
  ·obtain rfl:i=m.length:=by omega
   repeat' (first|exact ⟨⟩|intro (K:KT) hK|intro hcd|refine go1 ?_ ?_|fail)
   exact WS.rows (f:=cyC) rfl (Nat.le_refl _)
theorem copy_ok (x:Ins) (hx:SmlC x.cy):FnE Try.prog 47 [.agg (inC x)] [] (.agg (inC x)) []:=by
 have hc:=copies_ok _ hx
 refine N.fnC Try.func47 k47 fun Q hQ hQN=>?_
 repeat' (first|refine T.call0 e73 rfl hc ?_|exact ⟨⟩|intro (K:KT) hK|intro hcd|refine go1 ?_ ?_|fail)
 exact WS.drop (n:=0) rfl rfl
def insZ:Ins:=⟨0,⟨#[]⟩,0,[]⟩
def gotM (p:Ins→Bool) (l:List Ins):Ins×Bool:=match l.findIdx? p with
 | some i=>(l.getD i insZ,true)
 | none=>(insZ,false)
theorem Sub.insZ:Sub (.agg [I 0,.c (.string ⟨#[]⟩),I 0,.c (.slice none 0 0)]) (.agg (inC insZ)):=by
 refine .agg (Eq.refl _) fun i a b ha hb=>?_
 match i with
 | 0=>cases ha; cases hb; exact .rfl
 | 1=>cases ha; cases hb; exact .rfl
 | 2=>cases ha; cases hb; exact .rfl
 | 3=>cases ha; cases hb; exact .nil
 | i+4=>cases ha
abbrev strB (l:List Int):Blk:=⟨1,1,[[.sl 1 (cells l)]]⟩
def sval (l:List Int) (n:Int):Int:=if n < 1 then 0 else match l with
 | []=>0
 | x :: _=>x % n
def srest (l:List Int) (n:Int):List Int:=if n < 1 then l else l.tail
theorem next_ok (l:List Int) (n:Int) (hn:n < 4611686018427387904):FnE Try.prog 28 [.ptr 0 1 0 0,I n] [strB l] (I (sval l n)) [strB (srest l n)]:=by
 by_cases h:n < 1
 ·skip
  refine N.fnC Try.func28 k28 fun Q hQ hQN=>?_
  repeat' (first|exact ⟨⟩|intro (K:KT) hK|intro hcd|refine go1 ?_ ?_|fail)
  exact WS.gc [0] 1 rfl (by rw [srest,if_pos h]; rfl) (by unfold sval; rw [if_pos h]; exact .rfl)
 ·cases l with
  | nil =>
   refine N.fnC Try.func28 k28 fun Q hQ hQN=>?_
   repeat' (first|exact ⟨⟩|intro (K:KT) hK|intro hcd|refine go1 ?_ ?_|fail)
   exact WS.gc [0] 1 rfl (by rw [srest,if_neg h]; rfl) (by unfold sval; rw [if_neg h]; exact .rfl)
  | cons x t =>
   refine N.fnC Try.func28 k28 fun Q hQ hQN=>?_
   have e1:¬ ((cells (x :: t)).length:Int)=0:=by rw [cells_len,List.length_cons]; omega
   have e3:(1:Int)≤((cells (x :: t)).length:Int):=by rw [cells_len,List.length_cons]; omega
   have e2:(List.drop 1 (cells (x :: t))).take (((cells (x :: t)).length:Int).toNat - 1)=cells t:=by
    rw [cells_len,Int.toNat_natCast,List.length_cons,cells_drop,List.drop_one,List.tail_cons,cells_take,List.take_of_length_le (by omega)]
   repeat' (first|rw [e2]|refine T.call0 e6 rfl (below_ok x n (by omega) hn) ?_|exact ⟨⟩|intro (K:KT) hK|intro hcd|refine go1 ?_ ?_|fail)
   exact WS.gc [0] 1 rfl (by rw [srest,if_neg h]; rfl) (by unfold sval; rw [if_neg h]; exact .rfl)
theorem sval_range (l:List Int) (n:Int) (hn:0 < n):0≤sval l n∧sval l n < n:=by
 unfold sval
 rw [if_neg (by omega)]
 cases l with
 | nil=>exact ⟨Int.le_refl 0,hn⟩
 | cons x t=>exact ⟨Int.emod_nonneg _ (by omega),Int.emod_lt_of_pos _ hn⟩
def mkStepD (b w d:Int) (l:List Int):Stp×List Int :=
 if d=0 then (⟨0,0,0,0⟩,l)
 else if d=1∨(4≤d∧d≤9) then (⟨d,b,sval l 7,0⟩,srest l 7)
 else if d=2 then (⟨2,b,0,sval l 256⟩,srest l 256)
 else if d=16∨d=17 then (⟨d,0,0,sval l 256⟩,srest l 256)
 else if d=18∨d=19∨d=22∨d=23 then (⟨d,w,b,0⟩,l)
 else if d=20∨d=21 then (⟨d,b,w,0⟩,l)
 else if d=24 then (⟨24,0,sval l 2,sval (srest l 2) 256⟩,srest (srest l 2) 256)
 else (⟨d,b,0,0⟩,l)
def mkStep (l:List Int):Stp×List Int:=mkStepD (sval l 7) (7+sval (srest l 7) 2) (sval (srest (srest l 7) 2) 25) (srest (srest (srest l 7) 2) 25)
end Go.Proofs.Ytdbbnlafkndcnaa.Calc
namespace Go.Proofs.Ytdbbnlafkndcnaa.Calc
open Go
def rdM (a r:Int) (ss:List Stp):Cyc:=⟨1,a,r,ss⟩
def wrM (a r:Int) (ss:List Stp):Cyc:=⟨2,a,r,ss⟩
def noM (ss:List Stp):Cyc:=⟨0,0,0,ss⟩
def oneM (d t:Int):Stp:=⟨d,t,0,0⟩
def twoM (d t f:Int):Stp:=⟨d,t,f,0⟩
def zeroM:Stp:=⟨2,8,0,0⟩
def jumpM (t:Int):List Stp:=[twoM 18 t 5,twoM 19 t 6]
def pageM:Cyc:=rdM 0 5 [zeroM,twoM 18 8 5]
def lowM:Cyc:=rdM 0 5 [twoM 18 8 5]
def highM:Cyc:=rdM 0 5 [twoM 19 8 5]
def leadM (m:Int):List Cyc :=
 if m=2 then [pageM]
 else if m=3 then [rdM 0 5 [zeroM,twoM 18 8 5,twoM 22 8 1],noM [twoM 20 5 8,zeroM,twoM 18 8 5]]
 else if m=4 then [lowM,highM]
 else if m=5 then [lowM,highM,noM [twoM 22 8 1]]
 else if m=6 then [lowM,highM,noM [twoM 22 8 2]]
 else if m=8 then [pageM,rdM 2 5 [],rdM 3 6 [twoM 18 8 5,twoM 19 8 6,twoM 22 8 2]]
 else []
def readsM (m:Int) (ss:List Stp):List Cyc:=leadM m ++ [rdM (if m=1 then 0 else 2) 5 ss]
abbrev Row:=ByteArray×Int×List Cyc
def loadsM (n:ByteArray) (r:Int) (ms:List Int):List Row:=ms.map fun m=>(n,m,readsM m [twoM 1 r 5,oneM 3 r])
def storesM (n:ByteArray) (r:Int) (ms:List Int):List Row:=ms.map fun m=>(n,m,leadM m ++ [wrM 2 r []])
def joinsM (n:ByteArray) (d r:Int) (ms:List Int):List Row:=ms.map fun m=>(n,m,readsM m [twoM d r 5])
def turnsM (n:ByteArray) (d:Int) (ms:List Int):List Row:=ms.map fun m=>(n,m,if m=0 then [noM [oneM d 0]] else leadM m ++ [rdM 2 5 [oneM d 5],wrM 2 5 []])
def memoryL:List (List (ByteArray×Int×List Cyc)):=[
 loadsM ⟨#[108,100,97]⟩ 0 [1,2,3,4,5,6,8],
 loadsM ⟨#[108,100,120]⟩ 1 [1,2,4],
 loadsM ⟨#[108,100,121]⟩ 2 [1,2,4],
 storesM ⟨#[115,116,97]⟩ 0 [2,3,4,5,6,8],
 storesM ⟨#[115,116,120]⟩ 1 [2,4],
 storesM ⟨#[115,116,121]⟩ 2 [2,4],
 joinsM ⟨#[97,100,99]⟩ 4 0 [1,2,4,5],
 joinsM ⟨#[115,98,99]⟩ 5 0 [1,2,4,5],
 joinsM ⟨#[97,110,100]⟩ 7 0 [1,2,4,5],
 joinsM ⟨#[111,114,97]⟩ 8 0 [1,2,4,5],
 joinsM ⟨#[101,111,114]⟩ 9 0 [1,2,4,5],
 joinsM ⟨#[99,109,112]⟩ 6 0 [1,2,4,5],
 joinsM ⟨#[99,112,120]⟩ 6 1 [1,2],
 joinsM ⟨#[99,112,121]⟩ 6 2 [1,2],
 turnsM ⟨#[105,110,99]⟩ 10 [2,4],
 turnsM ⟨#[100,101,99]⟩ 11 [2,4],
 turnsM ⟨#[97,115,108]⟩ 12 [0,2],
 turnsM ⟨#[108,115,114]⟩ 13 [0,2],
 turnsM ⟨#[114,111,108]⟩ 14 [0,2],
 turnsM ⟨#[114,111,114]⟩ 15 [0,2]]
def aloneL:List (ByteArray×Int×List Cyc):=[
 (⟨#[116,97,120]⟩,0,[noM [twoM 1 1 0,oneM 3 1]]),
 (⟨#[116,97,121]⟩,0,[noM [twoM 1 2 0,oneM 3 2]]),
 (⟨#[116,120,97]⟩,0,[noM [twoM 1 0 1,oneM 3 0]]),
 (⟨#[116,121,97]⟩,0,[noM [twoM 1 0 2,oneM 3 0]]),
 (⟨#[116,115,120]⟩,0,[noM [twoM 1 1 3,oneM 3 1]]),
 (⟨#[116,120,115]⟩,0,[noM [twoM 1 3 1]]),
 (⟨#[105,110,120]⟩,0,[noM [oneM 10 1]]),
 (⟨#[105,110,121]⟩,0,[noM [oneM 10 2]]),
 (⟨#[100,101,120]⟩,0,[noM [oneM 11 1]]),
 (⟨#[100,101,121]⟩,0,[noM [oneM 11 2]]),
 (⟨#[99,108,99]⟩,0,[noM [⟨17,0,0,1⟩]]),
 (⟨#[115,101,99]⟩,0,[noM [⟨16,0,0,1⟩]]),
 (⟨#[99,108,105]⟩,0,[noM [⟨17,0,0,4⟩]]),
 (⟨#[115,101,105]⟩,0,[noM [⟨16,0,0,4⟩]]),
 (⟨#[110,111,112]⟩,0,[noM []]),
 (⟨#[112,104,97]⟩,0,[wrM 4 0 []]),
 (⟨#[112,108,97]⟩,0,[rdM 5 0 [oneM 3 0]]),
 (⟨#[112,104,112]⟩,0,[wrM 4 4 []]),
 (⟨#[112,108,112]⟩,0,[rdM 5 4 []])]
def waysL:List (ByteArray×Int×List Cyc):=[
 (⟨#[106,109,112]⟩,4,[rdM 0 5 [],rdM 0 6 (jumpM 7)]),
 (⟨#[106,115,114]⟩,4,[rdM 0 5 [twoM 18 8 5],rdM 0 5 [twoM 19 8 5,twoM 21 5 7],wrM 4 5 [twoM 20 5 7],wrM 4 5 [twoM 1 7 8]]),
 (⟨#[114,116,115]⟩,0,[rdM 5 5 [],rdM 5 6 (jumpM 7)]),
 (⟨#[114,116,105]⟩,0,[rdM 5 4 [],rdM 5 5 [],rdM 5 6 (jumpM 7)]),
 (⟨#[98,101,113]⟩,7,[rdM 0 5 [⟨24,0,1,2⟩],noM [twoM 23 7 5]]),
 (⟨#[98,110,101]⟩,7,[rdM 0 5 [⟨24,0,0,2⟩],noM [twoM 23 7 5]]),
 (⟨#[98,99,115]⟩,7,[rdM 0 5 [⟨24,0,1,1⟩],noM [twoM 23 7 5]]),
 (⟨#[98,99,99]⟩,7,[rdM 0 5 [⟨24,0,0,1⟩],noM [twoM 23 7 5]]),
 (⟨#[98,109,105]⟩,7,[rdM 0 5 [⟨24,0,1,128⟩],noM [twoM 23 7 5]]),
 (⟨#[98,112,108]⟩,7,[rdM 0 5 [⟨24,0,0,128⟩],noM [twoM 23 7 5]])]
def number:Nat→List Row→List Ins
 | _,[]=>[]
 | n,(s,m,cy) :: l=>⟨(n:Int)+1,s,m,cy⟩ :: number (n+1) l
theorem number_len:∀ (l:List Row) (n:Nat),(number n l).length=l.length:=by
 intro l; induction l with
 | nil=>intro n; rfl
 | cons a l ih=>intro n; obtain ⟨s,m,cy⟩:=a; simp [number,ih]
theorem number_app:∀ (l l':List Row) (n:Nat),number n (l ++ l')=number n l ++ number (n+l.length) l':=by
 intro l; induction l with
 | nil=>intro l' n; rfl
 | cons a l ih =>
  intro l' n; obtain ⟨s,m,cy⟩:=a
  simp only [List.cons_append,number,ih,List.length_cons]
  rw [show n+1+l.length=n+(l.length+1) by omega]
def answersM (lo hi:Int):List Cyc:=[noM [twoM 21 5 7],wrM 4 5 [twoM 20 5 7],wrM 4 5 [],wrM 4 4 [⟨16,0,0,4⟩],rdM lo 5 [],rdM hi 6 (jumpM 7)]
def stdL:List (List Row):=memoryL ++ aloneL.map (fun r=>[r]) ++ waysL.map (fun r=>[r])
def memR (k:Nat):List Row:=(stdL.take k).flatten
theorem memR_succ (k:Nat) (c:List Row) (hc:stdL[k]?=some c):memR (k+1)=memR k ++ c:=by
 obtain ⟨hk,rfl⟩:=List.getElem?_eq_some_iff.1 hc
 unfold memR
 rw [List.take_succ_eq_append_getElem hk,List.flatten_append]
 simp
theorem memR_len:∀ k,k < 50→1≤k→0 < (memR k).length∧(memR k).length≤92:=by decide +kernel
def stdRows:List Row:=memR 49
def stdM:Cpu:=⟨⟨#[115,116,100]⟩,number 0 stdRows,[rdM 10 5 [],rdM 11 6 [twoM 18 7 5,twoM 19 7 6,⟨2,3,0,255⟩]],answersM 6 7,answersM 8 9⟩
end Go.Proofs.Ytdbbnlafkndcnaa.Calc
