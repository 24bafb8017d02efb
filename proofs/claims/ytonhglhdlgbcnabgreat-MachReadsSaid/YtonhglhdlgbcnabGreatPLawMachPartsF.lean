/- Several texts in one (FnTableF, FnTableG, FnStream, FnMake, PureStd, FnStd, FnStdB, FnStdC), for the proof of LawMachParts. No condition beyond those in each lemma. -/
import Derived.Test.YtonhglhdlgbcnabGreatPLawMachPartsE
import Derived.Test.YtonhglhdlgbcnabGreatPLawMachPartsD
namespace Go.Proofs.YtonhglhdlgbcnabGreat.Calc
open Go Code
set_option linter.unusedSimpArgs false
set_option linter.unusedVariables false
set_option maxRecDepth 20000
set_option maxHeartbeats 4000000
attribute [local irreducible] WOpsT AW AK RK AKW UK UC
structure Cpu where
 name:ByteArray
 ins:List Ins
 res:List Cyc
 irq:List Cyc
 nmi:List Cyc
def cpC (c:Cpu):List V := [.c (.string c.name),.sl 4 (c.ins.map inC),.sl 4 (c.res.map cyC),.sl 4 (c.irq.map cyC),.sl 4 (c.nmi.map cyC)]
def SmlC (l:List Cyc):Prop := l.length ≤ 8∧∀ c ∈ l,c.steps.length ≤ 6
def SmlP (c:Cpu):Prop := c.ins.length ≤ 256∧(∀ x ∈ c.ins,SmlC x.cy)∧SmlC c.res∧SmlC c.irq∧SmlC c.nmi
instance:Flat stC := ⟨fun a x hx => by simp [stC] at hx; rcases hx with rfl | rfl | rfl | rfl <;> exact .inl ⟨_,rfl⟩⟩
instance:Flat cyC := ⟨fun a x hx => by simp [cyC] at hx; rcases hx with rfl | rfl | rfl | rfl <;> first | exact .inl ⟨_,rfl⟩ | exact .inr ⟨_,_,rfl⟩⟩
instance:Flat inC := ⟨fun a x hx => by simp [inC] at hx; rcases hx with rfl | rfl | rfl | rfl <;> first | exact .inl ⟨_,rfl⟩ | exact .inr ⟨_,_,rfl⟩⟩
theorem out_rowsK {α:Type} {f:α→List V} [Flat f] {h:List Blk} {ids:List Nat} {n b v e len:Nat} {l:List α} (hp:pos ids b = none) (hb:h[b]? = some ⟨v,e,l.map f⟩) (hl:l.length ≤ len):out h ids (n + 1) (.psl b v 0 len) = .sl e (l.map f):=by
 rw [out_pslK hp hb rfl,List.drop_zero,List.take_of_length_le (by simpa using hl),rows_frz]
theorem WS.rows {α:Type} {f:α→List V} [Flat f] {h:List Blk} {b v e len:Nat} {l:List α} (hb:h[b]? = some ⟨v,e,l.map f⟩) (hl:l.length ≤ len):WeakS 0 (.psl b v 0 len) h (.sl e (l.map f)) [] :=
 WS.gc [] 1 rfl rfl (by rw [out_rowsK rfl hb hl]; exact .rfl)
theorem WS.nil {h:List Blk} {e:Nat}:WeakS 0 (.c (.slice none 0 0)) h (.sl e []) [] := WS.gc [] 1 rfl rfl .nil
theorem cloneS_ok (l:List Stp) (hl:l.length ≤ 6):FnE Tryz.prog 200 [.sl 4 (l.map stC)] [] (.sl 4 (l.map stC)) []:=by
 refine N.fnC Tryz.func200 k200 fun Q hQ hQN => ?_
 cases l with
 | nil =>
  repeat' (first | refine T.eqnU rfl ?_ | (show WOpsT _ (⟨_,.app _ _ _ _,none⟩ :: _) _ _ _ _; refine T.app rfl rfl rfl ⟨by decide,by decide⟩ ⟨rfl,rfl,rfl,by decide⟩ ?_) | exact ⟨⟩ | intro (K:KT) hK | intro hcd | (refine go1 ?_ ?_ <;> try clear hK K) | fail)
  all_goals first | exact WS.nil | exact WS.rows (f := stC) (l := []) rfl (by simp)
 | cons a l =>
  have hl2:(List.map stC (a :: l)).length ≤ 6 := by rw [List.length_map]; exact hl
  repeat' (first | refine T.eqnS rfl (Nat.succ_pos _) ?_ | (show WOpsT _ (⟨_,.app _ _ _ _,none⟩ :: _) _ _ _ _; refine T.app rfl rfl rfl ⟨by decide,by decide⟩ ⟨rfl,rfl,rfl,by simp at hl ⊢; omega⟩ ?_) | exact ⟨⟩ | intro (K:KT) hK | intro hcd | (refine go1 ?_ ?_ <;> try clear hK K) | fail)
  exact WS.rows (f := stC) (l := a :: l) rfl (by simp)
theorem cloneC_ok (a:Cyc) (l:List Cyc) (hl:(a :: l).length ≤ 8):FnE Tryz.prog 199 [.sl 4 ((a :: l).map cyC)] [] (.psl 0 2 0 (a :: l).length) [⟨2,4,(a :: l).map cyC⟩]:=by
 refine N.fnC Tryz.func199 k199 fun Q hQ hQN => ?_
 have hl2:(List.map cyC (a :: l)).length ≤ 8 := by rw [List.length_map]; exact hl
 repeat' (first | refine T.eqnS rfl (Nat.succ_pos _) ?_ | (show WOpsT _ (⟨_,.app _ _ _ _,none⟩ :: _) _ _ _ _; refine T.app rfl rfl rfl ⟨by decide,by decide⟩ ⟨rfl,rfl,rfl,by simp at hl ⊢; omega⟩ ?_) | exact ⟨⟩ | intro (K:KT) hK | intro hcd | (refine go1 ?_ ?_ <;> try clear hK K) | fail)
 exact WS.gc [0] 1 rfl (by show [(⟨2,4,(a :: l).map cyC⟩:Blk)] = [outB _ [0] 1 ⟨2,4,(a :: l).map cyC⟩]; rw [outB_flat]) (by show Sub (.psl 0 2 0 ((List.map cyC l).length + 1)) _; rw [List.length_map]; exact .rfl)
theorem cloneC_nil:FnE Tryz.prog 199 [.sl 4 []] [] (.sl 4 []) []:=by
 refine N.fnC Tryz.func199 k199 fun Q hQ hQN => ?_
 repeat' (first | refine T.eqnU rfl ?_ | (show WOpsT _ (⟨_,.app _ _ _ _,none⟩ :: _) _ _ _ _; refine T.app rfl rfl rfl ⟨by decide,by decide⟩ ⟨rfl,rfl,rfl,by decide⟩ ?_) | exact ⟨⟩ | intro (K:KT) hK | intro hcd | (refine go1 ?_ ?_ <;> try clear hK K) | fail)
 all_goals first | exact WS.nil | exact WS.rows (f := cyC) (l := []) rfl (by simp)
theorem set_cyc (l:List Cyc) (i:Nat) (hi:i < l.length):(l.map cyC).set i (spl (cyC l[i]) 3 [.sl 4 (l[i].steps.map stC)]) = l.map cyC:=by
 apply List.ext_getElem?
 intro j
 rw [List.getElem?_set,List.length_map]
 by_cases h:i = j
 ·subst h
  rw [if_pos rfl,if_pos hi,List.getElem?_map,List.getElem?_eq_getElem hi]; rfl
 ·rw [if_neg h]
theorem copies_ok (l:List Cyc) (hl:SmlC l):FnE Tryz.prog 179 [.sl 4 (l.map cyC)] [] (.sl 4 (l.map cyC)) []:=by
 obtain ⟨h1,h2⟩ := hl
 refine N.fnC Tryz.func179 k179 fun Q hQ hQN => ?_
 cases l with
 | nil =>
  repeat' (first | (show AK _ _ (.loop _) _ _ _ _; refine N.unroll 1 ?_) | refine T.call0 e199 rfl cloneC_nil ?_ | exact ⟨⟩ | intro (K:KT) hK | intro hcd | (refine go1 ?_ ?_ <;> try clear hK K) | fail)
  exact WS.drop (n := 0) rfl rfl
 | cons a l =>
  obtain ⟨m,hm⟩:∃ m,a :: l = m := ⟨_,rfl⟩
  have hc := cloneC_ok a l h1
  rw [hm] at hc h1 h2 hQ hQN ⊢
  clear hm
  repeat' (first | rw [rows_ren] | refine T.callN e199 rfl (hc) (by simp) ?_ | exact ⟨⟩ | intro (K:KT) hK | intro hcd | (refine go1 ?_ ?_ <;> try clear hK K) | fail)
  refine N.loop (σ := Nat) (fun i => [(3,.psl 0 2 0 m.length),(8,I m.length),(9,I i)]) (fun i => [⟨2,4,m.map cyC⟩]) (fun i => i ≤ m.length) (fun i => m.length - i) 0 (by omega) (Weaks.sel (by exact sB) rfl) fun i hi R hC => ?_
  by_cases hil:i < m.length
  ·have hs := cloneS_ok m[i].steps (h2 _ (List.getElem_mem hil))
   have e3:0 + (i:Int).toNat = i := by omega
   have hg:(m.map cyC)[i]? = some (cyC m[i]) := by rw [List.getElem?_map,List.getElem?_eq_getElem hil]; rfl
   repeat' (first | rw [e3] | (show WOpsT _ (⟨_,.ld _ _,none⟩ :: _) _ _ _ _; refine T.ld rfl rfl rfl hg rfl ?_) | (show WOpsT _ (⟨_,.st _ _ _,none⟩ :: _) _ _ _ _; refine T.st rfl rfl rfl ⟨rfl,rfl⟩ hg (Nat.le_of_ble_eq_true rfl) ?_) | rw [set_cyc m i hil] | refine T.call0 e200 rfl hs ?_ | exact ⟨⟩ | intro (K:KT) hK | intro hcd | (refine go1 ?_ ?_ <;> try clear hK K) | fail)
   exact hC _ _ (i + 1) (by omega) (by omega) (Weaks.sel (by exact sB) rfl)
  ·obtain rfl:i = m.length := by omega
   repeat' (first | exact ⟨⟩ | intro (K:KT) hK | intro hcd | (refine go1 ?_ ?_ <;> try clear hK K) | fail)
   exact WS.rows (f := cyC) rfl (Nat.le_refl _)
theorem copy_ok (x:Ins) (hx:SmlC x.cy):FnE Tryz.prog 158 [.agg (inC x)] [] (.agg (inC x)) []:=by
 have hc := copies_ok _ hx
 refine N.fnC Tryz.func158 k158 fun Q hQ hQN => ?_
 repeat' (first | refine T.call0 e179 rfl hc ?_ | exact ⟨⟩ | intro (K:KT) hK | intro hcd | (refine go1 ?_ ?_ <;> try clear hK K) | fail)
 exact WS.drop (n := 0) rfl rfl
def insZ:Ins := ⟨0,⟨#[]⟩,0,[]⟩
def gotM (p:Ins→Bool) (l:List Ins):Ins×Bool := match l.findIdx? p with
 | some i => (l.getD i insZ,true)
 | none => (insZ,false)
theorem Sub.insZ:Sub (.agg [I 0,.c (.string ⟨#[]⟩),I 0,.c (.slice none 0 0)]) (.agg (inC insZ)):=by
 refine .agg (Eq.refl _) fun i a b ha hb => ?_
 match i with
 | 0 => cases ha; cases hb; exact .rfl
 | 1 => cases ha; cases hb; exact .rfl
 | 2 => cases ha; cases hb; exact .rfl
 | 3 => cases ha; cases hb; exact .nil
 | i + 4 => cases ha
theorem find_ok (c:Cpu) (hc:SmlP c) (o:Int):FnE Tryz.prog 117 [.agg (cpC c),I o] [] (.tup [.agg (inC (gotM (fun x => decide (x.op = o)) c.ins).1),.c (.bool (gotM (fun x => decide (x.op = o)) c.ins).2)]) []:=by
 have hi := indexO 157 e157 o c.ins (fun x => decide (x.op = o)) hc.1 (fun x _ => find1_ok x o)
 have hs := hc.2.1
 refine N.fnC Tryz.func117 k117 fun Q hQ hQN => ?_
 cases hf:c.ins.findIdx? (fun x => decide (x.op = o)) with
 | none =>
  have e1:idxI (fun x => decide (x.op = o)) c.ins = -1 := by unfold idxI; rw [hf]
  have e2:gotM (fun x => decide (x.op = o)) c.ins = (insZ,false) := by unfold gotM; rw [hf]
  rw [e1] at hi
  rw [e2] at hQ hQN
  repeat' (first | refine T.callQ [1] e143 rfl (hi) (by exact pA) rfl rfl rfl (by exact rN) ?_ | exact ⟨⟩ | intro (K:KT) hK | intro hcd | (refine go1 ?_ ?_ <;> try clear hK K) | fail)
  exact WS.gc [] 1 rfl rfl (Sub.tup2 Sub.insZ .rfl)
 | some i =>
  have e1:idxI (fun x => decide (x.op = o)) c.ins = i := by unfold idxI; rw [hf]
  have hil:i < c.ins.length := (List.findIdx?_eq_some_iff_getElem.1 hf).1
  have e2:gotM (fun x => decide (x.op = o)) c.ins = (c.ins[i],true) := by unfold gotM; rw [hf]; simp [hil]
  have hy := copy_ok c.ins[i] (hs _ (List.getElem_mem hil))
  rw [e1] at hi
  rw [e2] at hQ hQN
  repeat' (first | (show WOpsT _ (⟨_,.idx _ _ _ _,none⟩ :: _) _ _ _ _; refine T.idxs rfl rfl rfl (by omega) (mget inC c.ins i hil) ?_) | (show WC _ _ _ _ _ _ _ _ _; first | refine T.callQ [1] e143 rfl (hi) (by exact pA) rfl rfl rfl (by exact rN) ?_ | refine T.call0 e158 rfl hy ?_) | exact ⟨⟩ | intro (K:KT) hK | intro hcd | (refine go1 ?_ ?_ <;> try clear hK K) | fail)
  exact WS.drop (n := 0) rfl rfl
end Go.Proofs.YtonhglhdlgbcnabGreat.Calc
namespace Go.Proofs.YtonhglhdlgbcnabGreat.Calc
open Go Code
set_option linter.unusedSimpArgs false
set_option linter.unusedVariables false
set_option maxRecDepth 20000
set_option maxHeartbeats 2000000
attribute [local irreducible] WOpsT AW AK RK AKW
abbrev strB (l:List Int):Blk := ⟨1,1,[[.sl 1 (cells l)]]⟩
def sval (l:List Int) (n:Int):Int := if n < 1 then 0 else match l with
 | [] => 0
 | x :: _ => x % n
def srest (l:List Int) (n:Int):List Int := if n < 1 then l else l.tail
theorem next_ok (l:List Int) (n:Int) (hn:n < 4611686018427387904):FnE Tryz.prog 17 [.ptr 0 1 0 0,I n] [strB l] (I (sval l n)) [strB (srest l n)]:=by
 by_cases h:n < 1
 ·skip
  refine N.fnC Tryz.func17 k17 fun Q hQ hQN => ?_
  repeat' (first | exact ⟨⟩ | intro (K:KT) hK | intro hcd | (refine go1 ?_ ?_ <;> try clear hK K) | fail)
  exact WS.gc [0] 1 rfl (by rw [srest,if_pos h]; rfl) (by unfold sval; rw [if_pos h]; exact .rfl)
 ·cases l with
  | nil =>
   refine N.fnC Tryz.func17 k17 fun Q hQ hQN => ?_
   repeat' (first | exact ⟨⟩ | intro (K:KT) hK | intro hcd | (refine go1 ?_ ?_ <;> try clear hK K) | fail)
   exact WS.gc [0] 1 rfl (by rw [srest,if_neg h]; rfl) (by unfold sval; rw [if_neg h]; exact .rfl)
  | cons x t =>
   refine N.fnC Tryz.func17 k17 fun Q hQ hQN => ?_
   have e1:¬ ((cells (x :: t)).length:Int) = 0 := by rw [cells_len,List.length_cons]; omega
   have e3:(1:Int) ≤ ((cells (x :: t)).length:Int) := by rw [cells_len,List.length_cons]; omega
   have e2:(List.drop 1 (cells (x :: t))).take (((cells (x :: t)).length:Int).toNat - 1) = cells t:=by
    rw [cells_len,Int.toNat_natCast,List.length_cons,cells_drop,List.drop_one,List.tail_cons,cells_take,List.take_of_length_le (by omega)]
   repeat' (first | rw [e2] | refine T.call0 e6 rfl (below_ok x n (by omega) hn) ?_ | exact ⟨⟩ | intro (K:KT) hK | intro hcd | (refine go1 ?_ ?_ <;> try clear hK K) | fail)
   exact WS.gc [0] 1 rfl (by rw [srest,if_neg h]; rfl) (by unfold sval; rw [if_neg h]; exact .rfl)
theorem sval_range (l:List Int) (n:Int) (hn:0 < n):0 ≤ sval l n∧sval l n < n:=by
 unfold sval
 rw [if_neg (by omega)]
 cases l with
 | nil => exact ⟨Int.le_refl 0,hn⟩
 | cons x t => exact ⟨Int.emod_nonneg _ (by omega),Int.emod_lt_of_pos _ hn⟩
end Go.Proofs.YtonhglhdlgbcnabGreat.Calc
namespace Go.Proofs.YtonhglhdlgbcnabGreat.Calc
open Go Code
set_option linter.unusedSimpArgs false
set_option linter.unusedVariables false
set_option maxRecDepth 20000
set_option maxHeartbeats 4000000
attribute [local irreducible] WOpsT AW AK RK AKW UK UC
def mkStepD (b w d:Int) (l:List Int):Stp×List Int :=
 if d = 0 then (⟨0,0,0,0⟩,l)
 else if d = 1∨(4 ≤ d∧d ≤ 9) then (⟨d,b,sval l 7,0⟩,srest l 7)
 else if d = 2 then (⟨2,b,0,sval l 256⟩,srest l 256)
 else if d = 16∨d = 17 then (⟨d,0,0,sval l 256⟩,srest l 256)
 else if d = 18∨d = 19∨d = 22∨d = 23 then (⟨d,w,b,0⟩,l)
 else if d = 20∨d = 21 then (⟨d,b,w,0⟩,l)
 else if d = 24 then (⟨24,0,sval l 2,sval (srest l 2) 256⟩,srest (srest l 2) 256)
 else (⟨d,b,0,0⟩,l)
def mkStep (l:List Int):Stp×List Int := mkStepD (sval l 7) (7 + sval (srest l 7) 2) (sval (srest (srest l 7) 2) 25) (srest (srest (srest l 7) 2) 25)
end Go.Proofs.YtonhglhdlgbcnabGreat.Calc
namespace Go.Proofs.YtonhglhdlgbcnabGreat.Calc
open Go
def rdM (a r:Int) (ss:List Stp):Cyc := ⟨1,a,r,ss⟩
def wrM (a r:Int) (ss:List Stp):Cyc := ⟨2,a,r,ss⟩
def noM (ss:List Stp):Cyc := ⟨0,0,0,ss⟩
def oneM (d t:Int):Stp := ⟨d,t,0,0⟩
def twoM (d t f:Int):Stp := ⟨d,t,f,0⟩
def zeroM:Stp := ⟨2,8,0,0⟩
def jumpM (t:Int):List Stp := [twoM 18 t 5,twoM 19 t 6]
def pageM:Cyc := rdM 0 5 [zeroM,twoM 18 8 5]
def lowM:Cyc := rdM 0 5 [twoM 18 8 5]
def highM:Cyc := rdM 0 5 [twoM 19 8 5]
def leadM (m:Int):List Cyc :=
 if m = 2 then [pageM]
 else if m = 3 then [rdM 0 5 [zeroM,twoM 18 8 5,twoM 22 8 1],noM [twoM 20 5 8,zeroM,twoM 18 8 5]]
 else if m = 4 then [lowM,highM]
 else if m = 5 then [lowM,highM,noM [twoM 22 8 1]]
 else if m = 6 then [lowM,highM,noM [twoM 22 8 2]]
 else if m = 8 then [pageM,rdM 2 5 [],rdM 3 6 [twoM 18 8 5,twoM 19 8 6,twoM 22 8 2]]
 else []
def readsM (m:Int) (ss:List Stp):List Cyc := leadM m ++ [rdM (if m = 1 then 0 else 2) 5 ss]
abbrev Row := ByteArray×Int×List Cyc
def loadsM (n:ByteArray) (r:Int) (ms:List Int):List Row := ms.map fun m => (n,m,readsM m [twoM 1 r 5,oneM 3 r])
def storesM (n:ByteArray) (r:Int) (ms:List Int):List Row := ms.map fun m => (n,m,leadM m ++ [wrM 2 r []])
def joinsM (n:ByteArray) (d r:Int) (ms:List Int):List Row := ms.map fun m => (n,m,readsM m [twoM d r 5])
def turnsM (n:ByteArray) (d:Int) (ms:List Int):List Row := ms.map fun m => (n,m,if m = 0 then [noM [oneM d 0]] else leadM m ++ [rdM 2 5 [oneM d 5],wrM 2 5 []])
def memoryL:List (List (ByteArray×Int×List Cyc)) := [
 loadsM ⟨#[108,100,97]⟩ 0 [1,2,3,4,5,6,8],
 loadsM ⟨#[108,100,120]⟩ 1 [1,2,4],
 loadsM ⟨#[108,100,121]⟩ 2 [1,2,4],
 storesM ⟨#[115,116,97]⟩ 0 [2,3,4,5,6,8],
 storesM ⟨#[115,116,120]⟩ 1 [2,4],
 storesM ⟨#[115,116,121]⟩ 2 [2,4],
 joinsM ⟨#[97,100,99]⟩ 4 0 [1,2,4,5],
 joinsM ⟨#[115,98,99]⟩ 5 0 [1,2,4,5],
 joinsM ⟨#[97,110,100]⟩ 7 0 [1,2,4,5],
 joinsM ⟨#[111,114,97]⟩ 8 0 [1,2,4,5],
 joinsM ⟨#[101,111,114]⟩ 9 0 [1,2,4,5],
 joinsM ⟨#[99,109,112]⟩ 6 0 [1,2,4,5],
 joinsM ⟨#[99,112,120]⟩ 6 1 [1,2],
 joinsM ⟨#[99,112,121]⟩ 6 2 [1,2],
 turnsM ⟨#[105,110,99]⟩ 10 [2,4],
 turnsM ⟨#[100,101,99]⟩ 11 [2,4],
 turnsM ⟨#[97,115,108]⟩ 12 [0,2],
 turnsM ⟨#[108,115,114]⟩ 13 [0,2],
 turnsM ⟨#[114,111,108]⟩ 14 [0,2],
 turnsM ⟨#[114,111,114]⟩ 15 [0,2]]
def aloneL:List (ByteArray×Int×List Cyc) := [
 (⟨#[116,97,120]⟩,0,[noM [twoM 1 1 0,oneM 3 1]]),
 (⟨#[116,97,121]⟩,0,[noM [twoM 1 2 0,oneM 3 2]]),
 (⟨#[116,120,97]⟩,0,[noM [twoM 1 0 1,oneM 3 0]]),
 (⟨#[116,121,97]⟩,0,[noM [twoM 1 0 2,oneM 3 0]]),
 (⟨#[116,115,120]⟩,0,[noM [twoM 1 1 3,oneM 3 1]]),
 (⟨#[116,120,115]⟩,0,[noM [twoM 1 3 1]]),
 (⟨#[105,110,120]⟩,0,[noM [oneM 10 1]]),
 (⟨#[105,110,121]⟩,0,[noM [oneM 10 2]]),
 (⟨#[100,101,120]⟩,0,[noM [oneM 11 1]]),
 (⟨#[100,101,121]⟩,0,[noM [oneM 11 2]]),
 (⟨#[99,108,99]⟩,0,[noM [⟨17,0,0,1⟩]]),
 (⟨#[115,101,99]⟩,0,[noM [⟨16,0,0,1⟩]]),
 (⟨#[99,108,105]⟩,0,[noM [⟨17,0,0,4⟩]]),
 (⟨#[115,101,105]⟩,0,[noM [⟨16,0,0,4⟩]]),
 (⟨#[110,111,112]⟩,0,[noM []]),
 (⟨#[112,104,97]⟩,0,[wrM 4 0 []]),
 (⟨#[112,108,97]⟩,0,[rdM 5 0 [oneM 3 0]]),
 (⟨#[112,104,112]⟩,0,[wrM 4 4 []]),
 (⟨#[112,108,112]⟩,0,[rdM 5 4 []])]
def waysL:List (ByteArray×Int×List Cyc) := [
 (⟨#[106,109,112]⟩,4,[rdM 0 5 [],rdM 0 6 (jumpM 7)]),
 (⟨#[106,115,114]⟩,4,[rdM 0 5 [twoM 18 8 5],rdM 0 5 [twoM 19 8 5,twoM 21 5 7],wrM 4 5 [twoM 20 5 7],wrM 4 5 [twoM 1 7 8]]),
 (⟨#[114,116,115]⟩,0,[rdM 5 5 [],rdM 5 6 (jumpM 7)]),
 (⟨#[114,116,105]⟩,0,[rdM 5 4 [],rdM 5 5 [],rdM 5 6 (jumpM 7)]),
 (⟨#[98,101,113]⟩,7,[rdM 0 5 [⟨24,0,1,2⟩],noM [twoM 23 7 5]]),
 (⟨#[98,110,101]⟩,7,[rdM 0 5 [⟨24,0,0,2⟩],noM [twoM 23 7 5]]),
 (⟨#[98,99,115]⟩,7,[rdM 0 5 [⟨24,0,1,1⟩],noM [twoM 23 7 5]]),
 (⟨#[98,99,99]⟩,7,[rdM 0 5 [⟨24,0,0,1⟩],noM [twoM 23 7 5]]),
 (⟨#[98,109,105]⟩,7,[rdM 0 5 [⟨24,0,1,128⟩],noM [twoM 23 7 5]]),
 (⟨#[98,112,108]⟩,7,[rdM 0 5 [⟨24,0,0,128⟩],noM [twoM 23 7 5]])]
def number:Nat→List Row→List Ins
 | _,[] => []
 | n,(s,m,cy) :: l => ⟨(n:Int) + 1,s,m,cy⟩ :: number (n + 1) l
theorem number_len:∀ (l:List Row) (n:Nat),(number n l).length = l.length:=by
 intro l; induction l with
 | nil => intro n; rfl
 | cons a l ih => intro n; obtain ⟨s,m,cy⟩ := a; simp [number,ih]
theorem number_app:∀ (l l':List Row) (n:Nat),number n (l ++ l') = number n l ++ number (n + l.length) l':=by
 intro l; induction l with
 | nil => intro l' n; rfl
 | cons a l ih =>
  intro l' n; obtain ⟨s,m,cy⟩ := a
  simp only [List.cons_append,number,ih,List.length_cons]
  rw [show n + 1 + l.length = n + (l.length + 1) by omega]
def answersM (lo hi:Int):List Cyc := [noM [twoM 21 5 7],wrM 4 5 [twoM 20 5 7],wrM 4 5 [],wrM 4 4 [⟨16,0,0,4⟩],rdM lo 5 [],rdM hi 6 (jumpM 7)]
def stdL:List (List Row) := memoryL ++ aloneL.map (fun r => [r]) ++ waysL.map (fun r => [r])
def memR (k:Nat):List Row := (stdL.take k).flatten
theorem memR_succ (k:Nat) (c:List Row) (hc:stdL[k]? = some c):memR (k + 1) = memR k ++ c:=by
 obtain ⟨hk,rfl⟩ := List.getElem?_eq_some_iff.1 hc
 unfold memR
 rw [List.take_succ_eq_append_getElem hk,List.flatten_append]
 simp
theorem memR_len:∀ k,k < 50→1 ≤ k→0 < (memR k).length∧(memR k).length ≤ 92 := by decide +kernel
def stdRows:List Row := memR 49
def stdM:Cpu := ⟨⟨#[115,116,100]⟩,number 0 stdRows,[rdM 10 5 [],rdM 11 6 [twoM 18 7 5,twoM 19 7 6,⟨2,3,0,255⟩]],answersM 6 7,answersM 8 9⟩
end Go.Proofs.YtonhglhdlgbcnabGreat.Calc
namespace Go.Proofs.YtonhglhdlgbcnabGreat.Calc
open Go Code
set_option linter.unusedSimpArgs false
set_option linter.unusedVariables false
set_option maxRecDepth 20000
set_option maxHeartbeats 4000000
attribute [local irreducible] WOpsT AW AK RK AKW UK UC
theorem two_ok (d t f:Int):FnE Tryz.prog 90 [I d,I t,I f] [] (.agg (stC (twoM d t f))) []:=by
 refine N.fnC Tryz.func90 k90 fun Q hQ hQN => ?_
 repeat' (first | exact ⟨⟩ | intro (K:KT) hK | intro hcd | (refine go1 ?_ ?_ <;> try clear hK K) | fail)
 exact WS.drop (n := 0) rfl rfl
theorem one_ok (d t:Int):FnE Tryz.prog 91 [I d,I t] [] (.agg (stC (oneM d t))) []:=by
 refine N.fnC Tryz.func91 k91 fun Q hQ hQN => ?_
 repeat' (first | exact ⟨⟩ | intro (K:KT) hK | intro hcd | (refine go1 ?_ ?_ <;> try clear hK K) | fail)
 exact WS.drop (n := 0) rfl rfl
theorem zero_ok:FnE Tryz.prog 174 [] [] (.agg (stC zeroM)) []:=by
 refine N.fnC Tryz.func174 k174 fun Q hQ hQN => ?_
 repeat' (first | exact ⟨⟩ | intro (K:KT) hK | intro hcd | (refine go1 ?_ ?_ <;> try clear hK K) | fail)
 exact WS.drop (n := 0) rfl rfl
theorem jump_ok (t:Int):FnE Tryz.prog 39 [I t] [] (.psl 0 1 0 2) [⟨1,4,(jumpM t).map stC⟩]:=by
 refine N.fnC Tryz.func39 k39 fun Q hQ hQN => ?_
 repeat' (first | (show WC _ _ _ _ _ _ _ _ _; first | refine T.call0 e90 rfl ((two_ok 18 t 5)) ?_ | refine T.call0 e90 rfl ((two_ok 19 t 6)) ?_) | exact ⟨⟩ | intro (K:KT) hK | intro hcd | (refine go1 ?_ ?_ <;> try clear hK K) | fail)
 exact WS.gc [0] 1 rfl rfl .rfl
def cyP (b a r:Int) (p n:Nat):List V := [I b,I a,I r,.psl p 1 0 n]
theorem Sub.cyN (b a r:Int):Sub (.agg [I b,I a,I r,.c (.slice none 0 0)]) (.agg (cyC ⟨b,a,r,[]⟩)):=by
 refine .agg (Eq.refl _) fun i x y hx hy => ?_
 match i with
 | 0 => cases hx; cases hy; exact .rfl
 | 1 => cases hx; cases hy; exact .rfl
 | 2 => cases hx; cases hy; exact .rfl
 | 3 => cases hx; cases hy; exact .nil
 | i + 4 => cases hx
theorem rdP_ok (a r:Int) (ss:List Stp) (n:Nat):FnE Tryz.prog 38 [I a,I r,.psl 0 1 0 n] [⟨1,4,ss.map stC⟩] (.agg [I 1,I a,I r,.psl 0 1 0 n]) [⟨1,4,ss.map stC⟩]:=by
 refine N.fnC Tryz.func38 k38 fun Q hQ hQN => ?_
 repeat' (first | exact ⟨⟩ | intro (K:KT) hK | intro hcd | (refine go1 ?_ ?_ <;> try clear hK K) | fail)
 exact WS.gc [0] 1 rfl (by exact oO) .rfl
theorem rdQ_ok (a r:Int) (ss:List Stp) (n:Nat):FnE Tryz.prog 38 [I a,I r,.psl 0 2 0 n] [⟨2,4,ss.map stC⟩] (.agg [I 1,I a,I r,.psl 0 2 0 n]) [⟨2,4,ss.map stC⟩]:=by
 refine N.fnC Tryz.func38 k38 fun Q hQ hQN => ?_
 repeat' (first | exact ⟨⟩ | intro (K:KT) hK | intro hcd | (refine go1 ?_ ?_ <;> try clear hK K) | fail)
 exact WS.gc [0] 1 rfl (by exact oO) .rfl
theorem rdN_ok (a r:Int):FnE Tryz.prog 38 [I a,I r,.c (.slice none 0 0)] [] (.agg (cyC ⟨1,a,r,[]⟩)) []:=by
 refine N.fnC Tryz.func38 k38 fun Q hQ hQN => ?_
 repeat' (first | exact ⟨⟩ | intro (K:KT) hK | intro hcd | (refine go1 ?_ ?_ <;> try clear hK K) | fail)
 exact WS.gc [] 1 rfl rfl (Sub.cyN 1 a r)
theorem wrP_ok (a r:Int) (ss:List Stp) (n:Nat):FnE Tryz.prog 92 [I a,I r,.psl 0 1 0 n] [⟨1,4,ss.map stC⟩] (.agg [I 2,I a,I r,.psl 0 1 0 n]) [⟨1,4,ss.map stC⟩]:=by
 refine N.fnC Tryz.func92 k92 fun Q hQ hQN => ?_
 repeat' (first | exact ⟨⟩ | intro (K:KT) hK | intro hcd | (refine go1 ?_ ?_ <;> try clear hK K) | fail)
 exact WS.gc [0] 1 rfl (by exact oO) .rfl
theorem wrN_ok (a r:Int):FnE Tryz.prog 92 [I a,I r,.c (.slice none 0 0)] [] (.agg (cyC ⟨2,a,r,[]⟩)) []:=by
 refine N.fnC Tryz.func92 k92 fun Q hQ hQN => ?_
 repeat' (first | exact ⟨⟩ | intro (K:KT) hK | intro hcd | (refine go1 ?_ ?_ <;> try clear hK K) | fail)
 exact WS.gc [] 1 rfl rfl (Sub.cyN 2 a r)
theorem noP_ok (ss:List Stp) (n:Nat):FnE Tryz.prog 89 [.psl 0 1 0 n] [⟨1,4,ss.map stC⟩] (.agg [I 0,I 0,I 0,.psl 0 1 0 n]) [⟨1,4,ss.map stC⟩]:=by
 refine N.fnC Tryz.func89 k89 fun Q hQ hQN => ?_
 repeat' (first | exact ⟨⟩ | intro (K:KT) hK | intro hcd | (refine go1 ?_ ?_ <;> try clear hK K) | fail)
 exact WS.gc [0] 1 rfl (by exact oO) .rfl
theorem noN_ok:FnE Tryz.prog 89 [.c (.slice none 0 0)] [] (.agg (cyC ⟨0,0,0,[]⟩)) []:=by
 refine N.fnC Tryz.func89 k89 fun Q hQ hQN => ?_
 repeat' (first | exact ⟨⟩ | intro (K:KT) hK | intro hcd | (refine go1 ?_ ?_ <;> try clear hK K) | fail)
 exact WS.gc [] 1 rfl rfl (Sub.cyN 0 0 0)
theorem lead2_ok:FnE Tryz.prog 142 [I 2] [] (.psl 0 1 0 1) [⟨1,4,(leadM 2).map cyC⟩]:=by
 refine N.fnC Tryz.func142 k142 fun Q hQ hQN => ?_
 repeat' (first | (show WC _ _ _ _ _ _ _ _ _; first | refine T.call0 e174 rfl zero_ok ?_ | refine T.call0 e90 rfl ((two_ok 18 8 5)) ?_ | refine T.call0 e90 rfl ((two_ok 19 8 5)) ?_ | refine T.call0 e90 rfl ((two_ok 22 8 1)) ?_ | refine T.call0 e90 rfl ((two_ok 22 8 2)) ?_ | refine T.call0 e90 rfl ((two_ok 20 5 8)) ?_ | refine T.cP [0] e38 ((rdP_ok 0 5 [zeroM,twoM 18 8 5] 2)) ?_ | refine T.cP [2] e38 ((rdP_ok 0 5 [twoM 18 8 5] 1)) ?_ | refine T.cP [4] e38 ((rdP_ok 0 5 [twoM 19 8 5] 1)) ?_) | exact ⟨⟩ | intro (K:KT) hK | intro hcd | (refine go1 ?_ ?_ <;> try clear hK K) | fail)
 exact WS.gc [6] 2 rfl rfl .rfl
theorem lead3_ok:FnE Tryz.prog 142 [I 3] [] (.psl 0 1 0 2) [⟨1,4,(leadM 3).map cyC⟩]:=by
 refine N.fnC Tryz.func142 k142 fun Q hQ hQN => ?_
 repeat' (first | (show WOpsT _ (⟨_,.app _ _ _ _,none⟩ :: _) _ _ _ _; refine T.app rfl rfl rfl ⟨by decide,by decide⟩ ⟨rfl,rfl,rfl,by decide⟩ ?_) | (show WC _ _ _ _ _ _ _ _ _; first | refine T.call0 e174 rfl zero_ok ?_ | refine T.call0 e90 rfl ((two_ok 18 8 5)) ?_ | refine T.call0 e90 rfl ((two_ok 19 8 5)) ?_ | refine T.call0 e90 rfl ((two_ok 22 8 1)) ?_ | refine T.call0 e90 rfl ((two_ok 22 8 2)) ?_ | refine T.call0 e90 rfl ((two_ok 20 5 8)) ?_ | refine T.cP [0] e38 ((rdP_ok 0 5 [zeroM,twoM 18 8 5] 2)) ?_ | refine T.cP [2] e38 ((rdP_ok 0 5 [twoM 18 8 5] 1)) ?_ | refine T.cP [4] e38 ((rdP_ok 0 5 [twoM 19 8 5] 1)) ?_ | refine T.cP [7] e89 ((noP_ok [twoM 20 5 8,zeroM,twoM 18 8 5] 3)) ?_) | exact ⟨⟩ | intro (K:KT) hK | intro hcd | (refine go1 ?_ ?_ <;> try clear hK K) | fail)
 exact WS.gc [8] 2 rfl rfl .rfl
theorem lead4_ok:FnE Tryz.prog 142 [I 4] [] (.psl 0 1 0 2) [⟨1,4,(leadM 4).map cyC⟩]:=by
 refine N.fnC Tryz.func142 k142 fun Q hQ hQN => ?_
 repeat' (first | (show WC _ _ _ _ _ _ _ _ _; first | refine T.call0 e174 rfl zero_ok ?_ | refine T.call0 e90 rfl ((two_ok 18 8 5)) ?_ | refine T.call0 e90 rfl ((two_ok 19 8 5)) ?_ | refine T.call0 e90 rfl ((two_ok 22 8 1)) ?_ | refine T.call0 e90 rfl ((two_ok 22 8 2)) ?_ | refine T.call0 e90 rfl ((two_ok 20 5 8)) ?_ | refine T.cP [0] e38 ((rdP_ok 0 5 [zeroM,twoM 18 8 5] 2)) ?_ | refine T.cP [2] e38 ((rdP_ok 0 5 [twoM 18 8 5] 1)) ?_ | refine T.cP [4] e38 ((rdP_ok 0 5 [twoM 19 8 5] 1)) ?_) | exact ⟨⟩ | intro (K:KT) hK | intro hcd | (refine go1 ?_ ?_ <;> try clear hK K) | fail)
 exact WS.gc [6] 2 rfl rfl .rfl
theorem lead5_ok:FnE Tryz.prog 142 [I 5] [] (.psl 0 1 0 3) [⟨1,4,(leadM 5).map cyC⟩]:=by
 refine N.fnC Tryz.func142 k142 fun Q hQ hQN => ?_
 repeat' (first | (show WC _ _ _ _ _ _ _ _ _; first | refine T.call0 e174 rfl zero_ok ?_ | refine T.call0 e90 rfl ((two_ok 18 8 5)) ?_ | refine T.call0 e90 rfl ((two_ok 19 8 5)) ?_ | refine T.call0 e90 rfl ((two_ok 22 8 1)) ?_ | refine T.call0 e90 rfl ((two_ok 22 8 2)) ?_ | refine T.call0 e90 rfl ((two_ok 20 5 8)) ?_ | refine T.cP [0] e38 ((rdP_ok 0 5 [zeroM,twoM 18 8 5] 2)) ?_ | refine T.cP [2] e38 ((rdP_ok 0 5 [twoM 18 8 5] 1)) ?_ | refine T.cP [4] e38 ((rdP_ok 0 5 [twoM 19 8 5] 1)) ?_ | refine T.cP [6] e89 ((noP_ok [twoM 22 8 1] 1)) ?_) | exact ⟨⟩ | intro (K:KT) hK | intro hcd | (refine go1 ?_ ?_ <;> try clear hK K) | fail)
 exact WS.gc [7] 2 rfl rfl .rfl
theorem lead6_ok:FnE Tryz.prog 142 [I 6] [] (.psl 0 1 0 3) [⟨1,4,(leadM 6).map cyC⟩]:=by
 refine N.fnC Tryz.func142 k142 fun Q hQ hQN => ?_
 repeat' (first | (show WC _ _ _ _ _ _ _ _ _; first | refine T.call0 e174 rfl zero_ok ?_ | refine T.call0 e90 rfl ((two_ok 18 8 5)) ?_ | refine T.call0 e90 rfl ((two_ok 19 8 5)) ?_ | refine T.call0 e90 rfl ((two_ok 22 8 1)) ?_ | refine T.call0 e90 rfl ((two_ok 22 8 2)) ?_ | refine T.call0 e90 rfl ((two_ok 20 5 8)) ?_ | refine T.cP [0] e38 ((rdP_ok 0 5 [zeroM,twoM 18 8 5] 2)) ?_ | refine T.cP [2] e38 ((rdP_ok 0 5 [twoM 18 8 5] 1)) ?_ | refine T.cP [4] e38 ((rdP_ok 0 5 [twoM 19 8 5] 1)) ?_ | refine T.cP [6] e89 ((noP_ok [twoM 22 8 2] 1)) ?_) | exact ⟨⟩ | intro (K:KT) hK | intro hcd | (refine go1 ?_ ?_ <;> try clear hK K) | fail)
 exact WS.gc [7] 2 rfl rfl .rfl
theorem lead8_ok:FnE Tryz.prog 142 [I 8] [] (.psl 0 1 0 3) [⟨1,4,(leadM 8).map cyC⟩]:=by
 refine N.fnC Tryz.func142 k142 fun Q hQ hQN => ?_
 repeat' (first | (show WOpsT _ (⟨_,.app _ _ _ _,none⟩ :: _) _ _ _ _; refine T.app rfl rfl rfl ⟨by decide,by decide⟩ ⟨rfl,rfl,rfl,by decide⟩ ?_) | (show WC _ _ _ _ _ _ _ _ _; first | refine T.call0 e174 rfl zero_ok ?_ | refine T.call0 e90 rfl ((two_ok 18 8 5)) ?_ | refine T.call0 e90 rfl ((two_ok 19 8 5)) ?_ | refine T.call0 e90 rfl ((two_ok 22 8 1)) ?_ | refine T.call0 e90 rfl ((two_ok 22 8 2)) ?_ | refine T.call0 e90 rfl ((two_ok 20 5 8)) ?_ | refine T.cP [0] e38 ((rdP_ok 0 5 [zeroM,twoM 18 8 5] 2)) ?_ | refine T.cP [2] e38 ((rdP_ok 0 5 [twoM 18 8 5] 1)) ?_ | refine T.cP [4] e38 ((rdP_ok 0 5 [twoM 19 8 5] 1)) ?_ | refine T.call0 e38 rfl ((rdN_ok 2 5)) ?_ | refine T.callN e39 rfl ((jump_ok 8)) (by simp) ?_ | refine T.cP [6] e38 ((rdQ_ok 3 6 [twoM 18 8 5,twoM 19 8 6,twoM 22 8 2] 3)) ?_) | exact ⟨⟩ | intro (K:KT) hK | intro hcd | (refine go1 ?_ ?_ <;> try clear hK K) | fail)
 exact WS.gc [8] 2 rfl rfl .rfl
theorem lead1_ok:FnE Tryz.prog 142 [I 1] [] (.c (.slice none 0 0)) []:=by
 refine N.fnC Tryz.func142 k142 fun Q hQ hQN => ?_
 repeat' (first | (show WC _ _ _ _ _ _ _ _ _; first | refine T.call0 e174 rfl zero_ok ?_ | refine T.call0 e90 rfl ((two_ok 18 8 5)) ?_ | refine T.call0 e90 rfl ((two_ok 19 8 5)) ?_ | refine T.call0 e90 rfl ((two_ok 22 8 1)) ?_ | refine T.call0 e90 rfl ((two_ok 22 8 2)) ?_ | refine T.call0 e90 rfl ((two_ok 20 5 8)) ?_ | refine T.cP [0] e38 ((rdP_ok 0 5 [zeroM,twoM 18 8 5] 2)) ?_ | refine T.cP [2] e38 ((rdP_ok 0 5 [twoM 18 8 5] 1)) ?_ | refine T.cP [4] e38 ((rdP_ok 0 5 [twoM 19 8 5] 1)) ?_) | exact ⟨⟩ | intro (K:KT) hK | intro hcd | (refine go1 ?_ ?_ <;> try clear hK K) | fail)
 exact WS.drop (n := 0) rfl rfl
def Adr (m:Int):Prop := m = 2∨m = 3∨m = 4∨m = 5∨m = 6∨m = 8
theorem lead_ok (m:Int) (hm:Adr m):FnE Tryz.prog 142 [I m] [] (.psl 0 1 0 (leadM m).length) [⟨1,4,(leadM m).map cyC⟩]:=by
 rcases hm with rfl | rfl | rfl | rfl | rfl | rfl
 ·exact lead2_ok
 ·exact lead3_ok
 ·exact lead4_ok
 ·exact lead5_ok
 ·exact lead6_ok
 ·exact lead8_ok
theorem leadM_len (m:Int):(leadM m).length ≤ 3 := by unfold leadM; (repeat' split) <;> decide
theorem outB_flatA {α:Type} {f:α→List V} [Flat f] {h:List Blk} {ids:List Nat} {n v e:Nat} {l:List α} {rows:List (List V)}:outB h ids n ⟨v,e,l.map f ++ rows⟩ = ⟨v,e,l.map f ++ rows.map (·.map (out h ids n))⟩:=by
 simp only [outB,List.map_append]; rw [flat_rows (fun _ => out_c) (fun _ _ => out_sl)]
theorem vcells_psl {h:List Blk} {b ver off len:Nat} {k:Blk} (hb:h[b]? = some k) (hv:k.ver = ver):vcells (fun b => h[b]?) (.psl b ver off len) = some [.psl b ver off len]:=by
 simp only [vcells,hb]; rw [if_pos hv]
theorem out_cyc {h:List Blk} {ids:List Nat} {b v p n len:Nat} {cs:List Cyc} {x:Cyc} (hp:pos ids b = none) (hp2:pos ids p = none) (hb:h[b]? = some ⟨v,4,cs.map cyC ++ [[I x.bus,I x.at_,I x.reg,.psl p 1 0 n]]⟩) (hb2:h[p]? = some ⟨1,4,x.steps.map stC⟩) (hn:x.steps.length ≤ n) (hl:cs.length + 1 ≤ len) :
  out h ids 2 (.psl b v 0 len) = .sl 4 ((cs ++ [x]).map cyC):=by
 rw [out_pslK hp hb rfl,List.drop_zero,List.take_of_length_le (by simpa using hl),List.map_append,rows_frz,List.map_append]
 congr 2
 simp only [List.map_cons,List.map_nil,frz_c]
 rw [frz_psl hb2 rfl (show (fun b => (pos ids b).isSome) p = false by dsimp only; rw [hp2]; rfl),List.drop_zero,List.take_of_length_le (by simpa using hn),rows_frz]
 rfl
def wR (m:Int):Nat := if m = 1 then 0 else 1
theorem reads_ok (m:Int) (hm:m = 1∨Adr m) (ss:List Stp) (n:Nat):FnE Tryz.prog 141 [I m,.psl 0 1 0 n] [⟨1,4,ss.map stC⟩] (.psl 1 (wR m + 1) 0 ((leadM m).length + 1))
  [⟨1,4,ss.map stC⟩,⟨wR m + 1,4,(leadM m).map cyC ++ [[I 1,I (if m = 1 then 0 else 2),I 5,.psl 0 1 0 n]]⟩]:=by
 rcases hm with rfl | hm
 ·skip
  refine N.fnC Tryz.func141 k141 fun Q hQ hQN => ?_
  repeat' (first | rw [rows_ren] | (show WOpsT _ (⟨_,.app _ _ _ _,none⟩ :: _) _ _ _ _; refine T.appN rfl rfl ⟨by decide,by decide⟩ (by simp) (by simp) ?_) | (show WC _ _ _ _ _ _ _ _ _; first | refine T.call0 e142 rfl lead1_ok ?_ | refine T.cP [0] e38 ((rdP_ok 0 5 ss n)) ?_) | exact ⟨⟩ | intro (K:KT) hK | intro hcd | (refine go1 ?_ ?_ <;> try clear hK K) | fail)
  exact WS.gc [0,2] 0 rfl (by show [(⟨1,4,ss.map stC⟩:Blk),_] = [outB _ _ _ ⟨1,4,ss.map stC⟩,_]; rw [outB_flat]; rfl) .rfl
 ·have h1:m ≠ 1 := by unfold Adr at hm; omega
  have hl := lead_ok m hm
  have hn := leadM_len m
  have e:wR m = 1 := by unfold wR; rw [if_neg h1]
  rw [e,if_neg h1]
  refine N.fnC Tryz.func141 k141 fun Q hQ hQN => ?_
  repeat' (first | rw [rows_ren] | (show WOpsT _ (⟨_,.app _ _ _ _,none⟩ :: _) _ _ _ _; refine T.app rfl rfl rfl ⟨by decide,by decide⟩ ⟨rfl,rfl,by rw [List.length_map,Nat.zero_add],by simp; omega⟩ ?_) | (show WC _ _ _ _ _ _ _ _ _; first | refine T.callN e142 rfl (hl) (by simp) ?_ | refine T.cP [0] e38 ((rdP_ok 2 5 ss n)) ?_) | exact ⟨⟩ | intro (K:KT) hK | intro hcd | (refine go1 ?_ ?_ <;> try clear hK K) | fail)
  exact WS.gc [0,1] 0 rfl (by show [(⟨1,4,ss.map stC⟩:Blk),⟨2,4,(leadM m).map cyC ++ _⟩] = [outB _ _ _ ⟨1,4,ss.map stC⟩,outB _ _ _ ⟨2,4,(leadM m).map cyC ++ [[I 1,I 2,I 5,.psl 0 1 0 n]]⟩]; rw [outB_flat,outB_flatA]; rfl) .rfl
def mkA (p:Nat) (l:List Ins):Blk := ⟨1,1,[[.psl p l.length 0 l.length]]⟩
def mkB (l:List Ins):Blk := ⟨l.length,4,l.map inC⟩
def insN (l:List Ins) (s:ByteArray) (m:Int) (cy:List Cyc):Ins := ⟨(l.length:Int) + 1,s,m,cy⟩
theorem mkA_snoc (p:Nat) (l:List Ins) (x:Ins):mkA p (l ++ [x]) = ⟨1,1,[[.psl p (l.length + 1) 0 (l.length + 1)]]⟩ := by simp [mkA]
theorem mkB_snoc (l:List Ins) (x:Ins):mkB (l ++ [x]) = ⟨l.length + 1,4,l.map inC ++ [inC x]⟩ := by simp [mkB]
theorem add_ok (l:List Ins) (hl:0 < l.length∧l.length ≤ 250) (s:ByteArray) (m:Int) (cy:List Cyc):FnE Tryz.prog 88 [.ptr 0 1 0 0,.c (.string s),I m,.sl 4 (cy.map cyC)] [mkA 1 l,mkB l] (.tup []) [mkA 1 (l ++ [insN l s m cy]),mkB (l ++ [insN l s m cy])]:=by
 refine N.fnC Tryz.func88 k88 fun Q hQ hQN => ?_
 repeat' (first | (show WOpsT _ (⟨_,.app _ _ _ _,none⟩ :: _) _ _ _ _; refine T.app rfl rfl rfl ⟨by decide,by decide⟩ ⟨rfl,rfl,by rw [Nat.zero_add]; exact (List.length_map _).symm,by simp; omega⟩ ?_) | (show WOpsT _ (⟨_,.st _ _ _,none⟩ :: _) _ _ _ _; refine T.st rfl rfl (vcells_psl rfl rfl) ⟨rfl,rfl⟩ rfl (Nat.le_of_ble_eq_true rfl) ?_) | exact ⟨⟩ | intro (K:KT) hK | intro hcd | (refine go1 ?_ ?_ <;> try clear hK K) | fail)
 exact WS.gc [0,1] 0 rfl (by rw [mkA_snoc,mkB_snoc]; show [_,_] = [_,outB _ _ _ ⟨l.length + 1,4,l.map inC ++ [inC (insN l s m cy)]⟩]; rw [outB_flatA]; rfl) .rfl
theorem add0_ok (s:ByteArray) (m:Int) (cy:List Cyc):FnE Tryz.prog 88 [.ptr 0 1 0 0,.c (.string s),I m,.sl 4 (cy.map cyC)] [⟨1,1,[[.c (.slice none 0 0)]]⟩] (.tup []) [mkA 1 [insN [] s m cy],mkB [insN [] s m cy]]:=by
 refine N.fnC Tryz.func88 k88 fun Q hQ hQN => ?_
 repeat' (first | (show WOpsT _ (⟨_,.app _ _ _ _,none⟩ :: _) _ _ _ _; refine T.appN rfl rfl ⟨by decide,by decide⟩ (by simp) (by simp) ?_) | (show WOpsT _ (⟨_,.st _ _ _,none⟩ :: _) _ _ _ _; refine T.st rfl rfl (vcells_psl rfl rfl) ⟨rfl,rfl⟩ rfl (Nat.le_of_ble_eq_true rfl) ?_) | exact ⟨⟩ | intro (K:KT) hK | intro hcd | (refine go1 ?_ ?_ <;> try clear hK K) | fail)
 exact WS.gc [0,2] 0 rfl rfl .rfl
end Go.Proofs.YtonhglhdlgbcnabGreat.Calc
