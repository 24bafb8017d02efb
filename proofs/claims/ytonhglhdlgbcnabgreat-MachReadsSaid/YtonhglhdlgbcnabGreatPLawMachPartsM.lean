/- Several texts in one (FnBoard, FnMach, FnMachA, FnStepA, FnLawParts, FnDevOuts, PureQuiet), for the proof of LawMachParts. No condition beyond those in each lemma. -/
import Derived.Test.YtonhglhdlgbcnabGreatPLawMachPartsL
import Derived.Test.YtonhglhdlgbcnabGreatPLawMachPartsD
import Derived.Test.YtonhglhdlgbcnabGreatPLawMachPartsK
namespace Go.Proofs.YtonhglhdlgbcnabGreat.Calc
open Go Code
set_option linter.unusedSimpArgs false
set_option linter.unusedVariables false
set_option maxRecDepth 20000
set_option maxHeartbeats 4000000
attribute [local irreducible] WOpsT AW AK RK AKW UK UC
def Apart (c d:Chp):Prop := c.name ≠ d.name∧(c.base + c.size ≤ d.base∨d.base + d.size ≤ c.base)
structure VBoard (b:Brd):Prop where
 name:VName b.name
 cpu:VCpu b.cpu
 num:b.chips.length ≤ 12
 kinds:∀ c ∈ b.chips,VKind c
 places:∀ c ∈ b.chips,VPlace c
 apart:∀ i j (h:j < b.chips.length) (hij:i < j),Apart b.chips[i] b.chips[j]
 wnum:b.wires.length ≤ 40
theorem bcheck_ok (b:Brd) (hb:VBoard b) (hw:∀ w ∈ b.wires,FnE Tryz.prog 47 [.agg (boV b),.agg (wiV w)] [] (I 0) []) (hct:∀ i (h:i < b.wires.length),FnE Tryz.prog 48 [.sl 2 ((b.wires.take i).map wiV),.agg (wiV b.wires[i])] [] (.c (.bool false)) []):FnE Tryz.prog 20 [.agg (boV b)] [] (I 0) []:=by
 obtain ⟨hn,hcpu,hnum,hki,hpl,hap,hwn⟩ := hb
 obtain ⟨bn,⟨nm,ins,r1,r2,r3⟩,cs,ws⟩ := b
 dsimp only at hn hcpu hnum hki hpl hap hwn hw hct
 have hname := name_ok bn hn
 have htc := tcheck_ok _ hcpu
 have hks:∀ c ∈ cs,1 ≤ c.size∧c.size ≤ 4096 := fun c hc => by
  rcases hki c hc with ⟨z,hk,hs,h1,hd,hb⟩ | ⟨nb,hk,hs,h1,hd,hb⟩ | ⟨hk,hs,hd⟩ | ⟨nd,hk,hs,hn,hd,hb⟩
  ·omega
  ·omega
  ·rw [hs]
   rcases hk with h | h | h | h | h <;> rw [h] <;> decide
  ·omega
 unfold boV cpC at hw ⊢
 dsimp only [List.cons_append,List.nil_append] at hw ⊢
 dsimp only [cpC] at htc
 refine N.fnC Tryz.func20 k20 fun Q hQ hQN => ?_
 repeat' (first | rw [List.length_map] | rw [Bool.not_true] | (show WC _ _ _ _ _ _ _ _ _; first | refine T.call0 e44 rfl hname ?_ | refine T.call0 e45 rfl htc ?_) | exact ⟨⟩ | intro (K:KT) hK | intro hcd | (refine go1 ?_ ?_ <;> try clear hK K) | fail)
 all_goals first | (exfalso; omega) | skip
 refine N.loop (σ := Nat) (fun i => [(1,.ptr 0 1 0 0),(27,.sl 5 (cs.map chV)),(28,I cs.length),(29,I i)]) (fun i => [⟨1,8,[[.c (.string bn),.c (.string nm),.sl 4 (ins.map inC),.sl 4 (r1.map cyC),.sl 4 (r2.map cyC),.sl 4 (r3.map cyC),.sl 5 (cs.map chV),.sl 2 (ws.map wiV)]]⟩]) (fun i => i ≤ cs.length) (fun i => cs.length - i) 0 (Nat.zero_le _) (Weaks.sel (by exact sB) rfl) fun i hi R hC => ?_
 by_cases hil:i < cs.length
 ·have hm := mget chV cs i hil
  have hck := check_v _ (hki _ (List.getElem_mem hil)) (hpl _ (List.getElem_mem hil))
  have hsz := hks _ (List.getElem_mem hil)
  have hp := hpl _ (List.getElem_mem hil)
  have hap2 := fun j hj => hap j i hil hj
  generalize hx:cs[i] = x at *
  have e2:(List.drop (Int.toNat 0) (cs.map chV)).take ((i:Int).toNat - Int.toNat 0) = (cs.take i).map chV:=by
   rw [show Int.toNat 0 = 0 from rfl,List.drop_zero,Int.toNat_natCast,Nat.sub_zero,List.map_take]
  have e3:(cs.map chV).take i = (cs.take i).map chV := List.map_take.symm
  have e4:(cs.take i).length = i := by rw [List.length_take]; omega
  obtain ⟨xn,xk,xb,xs,xd⟩ := x
  obtain ⟨_,_,p1,p2⟩ := hp
  dsimp only [chV] at hm hck p1 p2 hsz
  repeat' (first | refine rI hm ?_ | rw [e2] | rw [e3] | rw [List.length_map] | rw [e4] | (show WOpsT _ (⟨_,.slc _ _ _ _,none⟩ :: _) _ _ _ _; refine T.slcS rfl rfl rfl rfl (by rw [List.length_map]; omega) ?_) | refine T.call0 e46 rfl hck ?_ | exact ⟨⟩ | intro (K:KT) hK | intro hcd | (refine go1 ?_ ?_ <;> try clear hK K) | fail)
  refine N.loop (σ := Nat) (fun k => [(1,.ptr 0 1 0 0),(5,.ptr 1 1 0 0),(27,.sl 5 (cs.map chV)),(28,I cs.length),(29,I i),(42,.sl 5 ((cs.take i).map chV)),(43,I i),(44,I k)]) (fun k => [⟨1,8,[[.c (.string bn),.c (.string nm),.sl 4 (ins.map inC),.sl 4 (r1.map cyC),.sl 4 (r2.map cyC),.sl 4 (r3.map cyC),.sl 5 (cs.map chV),.sl 2 (ws.map wiV)]]⟩,⟨1,5,[[.c (.string xn),I xk,I xb,I xs,.sl 1 (bcells xd)]]⟩]) (fun k => k ≤ i) (fun k => i - k) 0 (Nat.zero_le _) (Weaks.sel (by exact sB) rfl) fun k hk R2 hC2 => ?_
  by_cases hkl:k < i
  ·have hm2:((cs.take i).map chV)[((k:Nat):Int).toNat]? = some (chV cs[k]):=by
    rw [Int.toNat_natCast,List.getElem?_map,List.getElem?_take_of_lt hkl,List.getElem?_eq_getElem (by omega)]; rfl
   have ha := hap2 k hkl
   have hsz2 := hks _ (List.getElem_mem (show k < cs.length by omega))
   have hp2 := hpl _ (List.getElem_mem (show k < cs.length by omega))
   generalize cs[k] = y at *
   obtain ⟨yn,yk,yb,ys,yd⟩ := y
   obtain ⟨_,_,p3,p4⟩ := hp2
   obtain ⟨a1,a2⟩ := ha
   dsimp only [chV] at hm2 a1 a2 p3 p4 hsz2
   have hne:decide (yn = xn) = false := decide_eq_false a1
   repeat' (first | refine rI hm2 ?_ | rw [hne] | exact ⟨⟩ | intro (K:KT) hK | intro hcd | (refine go1 ?_ ?_ <;> try clear hK K) | fail)
   all_goals first | exact hC2 _ _ (k + 1) (by omega) (by omega) (by exact .G [0,1] 1) | (exfalso; omega) | trace_state
  ·obtain rfl:k = i := by omega
   repeat' (first | exact ⟨⟩ | intro (K:KT) hK | intro hcd | (refine go1 ?_ ?_ <;> try clear hK K) | fail)
   exact hC _ _ (k + 1) (by omega) (by omega) (by exact .G [0] 1)
 ·obtain rfl:i = cs.length := by omega
  clear hC
  repeat' (first | rw [List.length_map] | exact ⟨⟩ | intro (K:KT) hK | intro hcd | (refine go1 ?_ ?_ <;> try clear hK K) | fail)
  all_goals first | (exfalso; omega) | skip
  refine N.loop (σ := Nat) (fun i => [(1,.ptr 0 1 0 0),(80,.sl 2 (ws.map wiV)),(81,I ws.length),(82,I i)]) (fun i => [⟨1,8,[[.c (.string bn),.c (.string nm),.sl 4 (ins.map inC),.sl 4 (r1.map cyC),.sl 4 (r2.map cyC),.sl 4 (r3.map cyC),.sl 5 (cs.map chV),.sl 2 (ws.map wiV)]]⟩]) (fun i => i ≤ ws.length) (fun i => ws.length - i) 0 (Nat.zero_le _) (Weaks.sel (by exact sB) rfl) fun i hi R hC => ?_
  by_cases hil:i < ws.length
  ·have hm := mget wiV ws i hil
   have h1 := hw _ (List.getElem_mem hil)
   have h2 := hct i hil
   have e2:(List.drop (Int.toNat 0) (ws.map wiV)).take ((i:Int).toNat - Int.toNat 0) = (ws.take i).map wiV:=by
    rw [show Int.toNat 0 = 0 from rfl,List.drop_zero,Int.toNat_natCast,Nat.sub_zero,List.map_take]
   have e3:(ws.map wiV).take i = (ws.take i).map wiV := List.map_take.symm
   generalize ws[i] = w at *
   obtain ⟨w1,w2⟩ := w
   dsimp only [wiV] at hm h1 h2
   repeat' (first | refine rI hm ?_ | rw [e2] | rw [e3] | (show WOpsT _ (⟨_,.slc _ _ _ _,none⟩ :: _) _ _ _ _; refine T.slcS rfl rfl rfl rfl (by rw [List.length_map]; omega) ?_) | (show WC _ _ _ _ _ _ _ _ _; first | refine T.call0 e47 rfl h1 ?_ | refine T.call0 e48 rfl h2 ?_) | exact ⟨⟩ | intro (K:KT) hK | intro hcd | (refine go1 ?_ ?_ <;> try clear hK K) | fail)
   all_goals first | exact hC _ _ (i + 1) (by omega) (by omega) (by exact .G [0] 1) | (exfalso; omega) | trace_state
  ·obtain rfl:i = ws.length := by omega
   repeat' (first | exact ⟨⟩ | intro (K:KT) hK | intro hcd | (refine go1 ?_ ?_ <;> try clear hK K) | fail)
   exact WS.c rfl rfl
def hasA (a:Int) (c:Chp):Bool := decide (c.base ≤ a∧a < c.base + c.size)
def findC (cs:List Chp) (a:Int):Option Nat := cs.findIdx? (hasA a)
def findR (cs:List Chp) (a:Int):V := match findC cs a with
 | some i => .tup [I i,I (a - (cs.getD i ramC).base),.c (.bool true)]
 | none => .tup [I 0,I 0,.c (.bool false)]
theorem wrapU64 (n:Int) (h:0 ≤ n∧n < 9223372036854775808):IntKind.wrap .u64 n = n:=by
 simp only [IntKind.wrap,IntKind.signed,IntKind.bits]
 simp
 omega
theorem subU64 (a b:Int) (h:0 ≤ b∧b ≤ a∧a < 9223372036854775808):binV .sub (.int .u64 a) (.int .u64 b) = some (.int .u64 (a - b)):=by
 have := wrapU64 (a - b) (by omega)
 simp only [binV,this]
 rw [if_pos trivial]
theorem find_k (b:Brd) (a:Int) (hc:∀ c ∈ b.chips,0 ≤ c.base∧c.base ≤ 65536∧1 ≤ c.size∧c.size ≤ 65536) (hn:b.chips.length ≤ 1000) (ha:0 ≤ a∧a < 65536):FnE Tryz.prog 26 [.agg (boV b),I a] [] (findR b.chips a) []:=by
 obtain ⟨bn,⟨nm,ins,r1,r2,r3⟩,cs,ws⟩ := b
 dsimp only at hc hn
 unfold boV cpC
 dsimp only [List.cons_append,List.nil_append]
 generalize hF:findR cs a = F
 refine N.fnC Tryz.func26 k26 fun Q hQ hQN => ?_
 repeat' (first | rw [List.length_map] | exact ⟨⟩ | intro (K:KT) hK | intro hcd | (refine go1 ?_ ?_ <;> try clear hK K) | fail)
 refine N.loop (σ := Nat) (fun i => [(1,I a),(10,.sl 5 (cs.map chV)),(11,I cs.length),(12,I i)]) (fun i => []) (fun i => i ≤ cs.length∧∀ j,j < i→∀ hj:j < cs.length,hasA a cs[j] = false) (fun i => cs.length - i) 0 ⟨Nat.zero_le _,fun j hj => absurd hj (by omega)⟩ (by exact .G [] 1) fun i hi R hC => ?_
 obtain ⟨hi,hpre⟩ := hi
 by_cases hil:i < cs.length
 ·have hm := mget chV cs i hil
  have hx := hc _ (List.getElem_mem hil)
  have hyes:hasA a cs[i] = true→F = .tup [I i,I (a - cs[i].base),.c (.bool true)] := fun h => by
   rw [← hF]
   unfold findR findC
   rw [show cs.findIdx? (hasA a) = some i from List.findIdx?_eq_some_iff_getElem.2 ⟨hil,h,fun j hj => by rw [hpre j hj (by omega)]; decide⟩]
   simp [hil]
  have hno:hasA a cs[i] = false→∀ j,j < i + 1→∀ hj:j < cs.length,hasA a cs[j] = false := fun h j hj hjl => by
   by_cases hji:j = i
   ·subst hji; exact h
   ·exact hpre j (by omega) hjl
  generalize cs[i] = x at *
  obtain ⟨xn,xk,xb,xs,xd⟩ := x
  dsimp only [chV,hasA] at hm hx hyes hno
  have u1 := wrapU64 a (by omega)
  have u2 := wrapU64 xb (by omega)
  have u3 := wrapU64 xs (by omega)
  repeat' (first | refine rI hm ?_ | rw [u1] | rw [u2] | rw [u3] | (show WOpsT _ (⟨_,.bin _ _ _,none⟩ :: _) _ _ _ _; refine T.bin rfl rfl (subU64 a xb (by omega)) ?_) | exact ⟨⟩ | intro (K:KT) hK | intro hcd | (refine go1 ?_ ?_ <;> try clear hK K) | fail)
  all_goals first | (exfalso; omega) | (rw [hyes (decide_eq_true (by omega))]; exact WS.drop (n := 0) rfl rfl) | exact hC _ _ (i + 1) ⟨by omega,hno (decide_eq_false (by omega))⟩ (by omega) (by exact .G [] 1) | trace_state
 ·obtain rfl:i = cs.length := by omega
  have hF:F = .tup [I 0,I 0,.c (.bool false)]:=by
   rw [← hF]
   unfold findR findC
   rw [show cs.findIdx? (hasA a) = none from List.findIdx?_eq_none_iff.2 fun x hx => by obtain ⟨j,hj,rfl⟩ := List.getElem_of_mem hx; exact hpre j hj hj]
  subst hF
  repeat' (first | exact ⟨⟩ | intro (K:KT) hK | intro hcd | (refine go1 ?_ ?_ <;> try clear hK K) | fail)
  exact WS.drop (n := 0) rfl rfl
def maV (t:Int) (r:Nat→Int) (op a:Int) (b:Bool) (ds:List Dv) (x y z:Int):List V := [I t,I (r 0),I (r 1),I (r 2),I (r 3),I (r 4),I (r 5),I (r 6),I (r 7),I (r 8),I op,I a,.c (.bool b),.sl 2 (ds.map dvC),I x,I y,I z]
instance:Flat dvC := ⟨fun a x hx => by simp [dvC] at hx; rcases hx with rfl | rfl <;> exact .inr ⟨_,_,rfl⟩⟩
def rstR:Nat→Int := fun i => if i = 4 then 4 else 0
noncomputable def newV (c:Chp):Dv := open Classical in if h:VKind c then (chNew_ex c h).choose else ([],[])
theorem newV_ok (c:Chp) (h:VKind c):DvOk c (newV c)∧FnE Tryz.prog 22 [.agg (chV c)] [] (.agg (dvC (newV c))) []:=by
 unfold newV; rw [dif_pos h]; exact (chNew_ex c h).choose_spec
theorem coreN_ok:FnE Tryz.prog 21 [] [] (.agg [I 0,I 0,I 0,I 0,I 4,I 0,I 0,I 0,I 0,I 258,I 0,.c (.bool false)]) []:=by
 refine N.fnC Tryz.func21 k21 fun Q hQ hQN => ?_
 repeat' (first | exact ⟨⟩ | intro (K:KT) hK | intro hcd | (refine go1 ?_ ?_ <;> try clear hK K) | fail)
 exact WS.drop (n := 0) rfl rfl
instance:Flat (fun n:Int => [I n]) := ⟨fun a x hx => by simp at hx; subst hx; exact .inl ⟨_,rfl⟩⟩
instance:Flat (fun n:Int => [V.c (.int .u8 n)]) := ⟨fun a x hx => by simp at hx; subst hx; exact .inl ⟨_,rfl⟩⟩
theorem cloneI_ok (l:List Int) (hl:l.length ≤ 100000):FnE Tryz.prog 59 [.sl 1 (cells l)] [] (.sl 1 (cells l)) []:=by
 unfold cells
 refine N.fnC Tryz.func59 k59 fun Q hQ hQN => ?_
 cases l with
 | nil =>
  repeat' (first | refine T.eqnU rfl ?_ | (show WOpsT _ (⟨_,.app _ _ _ _,none⟩ :: _) _ _ _ _; refine T.app rfl rfl rfl ⟨by decide,by decide⟩ ⟨rfl,rfl,rfl,by decide⟩ ?_) | exact ⟨⟩ | intro (K:KT) hK | intro hcd | (refine go1 ?_ ?_ <;> try clear hK K) | fail)
  all_goals first | exact WS.nil | exact WS.rows (f := fun n:Int => [I n]) (l := []) rfl (by simp)
 | cons a l =>
  repeat' (first | refine T.eqnS rfl (Nat.succ_pos _) ?_ | (show WOpsT _ (⟨_,.app _ _ _ _,none⟩ :: _) _ _ _ _; refine T.app rfl rfl rfl ⟨by decide,by decide⟩ ⟨rfl,rfl,rfl,by simp at hl ⊢; omega⟩ ?_) | exact ⟨⟩ | intro (K:KT) hK | intro hcd | (refine go1 ?_ ?_ <;> try clear hK K) | fail)
  exact WS.rows (f := fun n:Int => [I n]) (l := a :: l) rfl (by simp)
theorem cloneB_ok (l:List Int) (hl:l.length ≤ 100000):FnE Tryz.prog 60 [.sl 1 (bcells l)] [] (.sl 1 (bcells l)) []:=by
 unfold bcells
 refine N.fnC Tryz.func60 k60 fun Q hQ hQN => ?_
 cases l with
 | nil =>
  repeat' (first | refine T.eqnU rfl ?_ | (show WOpsT _ (⟨_,.app _ _ _ _,none⟩ :: _) _ _ _ _; refine T.app rfl rfl rfl ⟨by decide,by decide⟩ ⟨rfl,rfl,rfl,by decide⟩ ?_) | exact ⟨⟩ | intro (K:KT) hK | intro hcd | (refine go1 ?_ ?_ <;> try clear hK K) | fail)
  all_goals first | exact WS.nil | exact WS.rows (f := fun n:Int => [V.c (.int .u8 n)]) (l := []) rfl (by simp)
 | cons a l =>
  repeat' (first | refine T.eqnS rfl (Nat.succ_pos _) ?_ | (show WOpsT _ (⟨_,.app _ _ _ _,none⟩ :: _) _ _ _ _; refine T.app rfl rfl rfl ⟨by decide,by decide⟩ ⟨rfl,rfl,rfl,by simp at hl ⊢; omega⟩ ?_) | exact ⟨⟩ | intro (K:KT) hK | intro hcd | (refine go1 ?_ ?_ <;> try clear hK K) | fail)
  exact WS.rows (f := fun n:Int => [V.c (.int .u8 n)]) (l := a :: l) rfl (by simp)
theorem cloneD_ok (a:Dv) (l:List Dv) (hl:(a :: l).length ≤ 1000):FnE Tryz.prog 58 [.sl 2 ((a :: l).map dvC)] [] (.psl 0 2 0 (a :: l).length) [⟨2,2,(a :: l).map dvC⟩]:=by
 refine N.fnC Tryz.func58 k58 fun Q hQ hQN => ?_
 have hl2:(List.map dvC (a :: l)).length ≤ 1000 := by rw [List.length_map]; exact hl
 repeat' (first | refine T.eqnS rfl (Nat.succ_pos _) ?_ | (show WOpsT _ (⟨_,.app _ _ _ _,none⟩ :: _) _ _ _ _; refine T.app rfl rfl rfl ⟨by decide,by decide⟩ ⟨rfl,rfl,rfl,by simp at hl ⊢; omega⟩ ?_) | exact ⟨⟩ | intro (K:KT) hK | intro hcd | (refine go1 ?_ ?_ <;> try clear hK K) | fail)
 exact WS.gc [0] 1 rfl (by show [(⟨2,2,(a :: l).map dvC⟩:Blk)] = [outB _ [0] 1 ⟨2,2,(a :: l).map dvC⟩]; rw [outB_flat]) (by show Sub (.psl 0 2 0 ((List.map dvC l).length + 1)) _; rw [List.length_map]; exact .rfl)
theorem machNew_ok (b:Brd) (hki:∀ c ∈ b.chips,VKind c) (hck:FnE Tryz.prog 20 [.agg (boV b)] [] (I 0) []) (h1:1 ≤ b.chips.length) (h2:b.chips.length ≤ 12):FnE Tryz.prog 7 [.agg (boV b)] [] (.tup [.agg (maV 0 rstR 258 0 false (b.chips.map newV) 0 0 0),I 0]) []:=by
 obtain ⟨bn,⟨nm,ins,r1,r2,r3⟩,cs,ws⟩ := b
 dsimp only at hki h1 h2
 unfold boV cpC at *
 dsimp only [List.cons_append,List.nil_append] at *
 show FnE Tryz.prog 7 _ _ (.tup [.agg [I 0,I 0,I 0,I 0,I 0,I 4,I 0,I 0,I 0,I 0,I 258,I 0,.c (.bool false),.sl 2 ((cs.map newV).map dvC),I 0,I 0,I 0],I 0]) []
 obtain ⟨n,hn⟩:∃ n,cs.length = n + 1 := ⟨cs.length - 1,by omega⟩
 have hco := coreN_ok
 refine N.fnC Tryz.func7 k7 fun Q hQ hQN => ?_
 repeat' (first | rw [List.length_map] | rw [hn] | (show WC _ _ _ _ _ _ _ _ _; first | refine T.call0 e20 rfl hck ?_ | refine T.call0 e21 rfl hco ?_) | exact ⟨⟩ | intro (K:KT) hK | intro hcd | (refine go1 ?_ ?_ <;> try clear hK K) | fail)
 all_goals first | (exfalso; omega) | skip
 refine N.loop (σ := Nat) (fun i => [(2,.ptr 0 1 0 0),(5,.ptr 1 1 0 0),(17,.sl 5 (cs.map chV)),(18,I (n + 1:Nat)),(19,I i)]) (fun i => match i with
  | 0 => [⟨1,17,[[I 0,I 0,I 0,I 0,I 0,I 0,I 0,I 0,I 0,I 0,I 0,I 0,.c (.bool false),.c (.slice none 0 0),I 0,I 0,I 0]]⟩,⟨1,17,[[I 0,I 0,I 0,I 0,I 0,I 4,I 0,I 0,I 0,I 0,I 258,I 0,.c (.bool false),.c (.slice none 0 0),I 0,I 0,I 0]]⟩]
  | i + 1 => [⟨1,17,[[I 0,I 0,I 0,I 0,I 0,I 0,I 0,I 0,I 0,I 0,I 0,I 0,.c (.bool false),.c (.slice none 0 0),I 0,I 0,I 0]]⟩,⟨1,17,[[I 0,I 0,I 0,I 0,I 0,I 4,I 0,I 0,I 0,I 0,I 258,I 0,.c (.bool false),.psl 2 (i + 1) 0 (i + 1),I 0,I 0,I 0]]⟩,⟨i + 1,2,((cs.take (i + 1)).map newV).map dvC⟩]) (fun i => i ≤ n + 1) (fun i => n + 1 - i) 0 (Nat.zero_le _) (by exact .G [1,2] 1) fun i hi R hC => ?_
 by_cases hil:i < n + 1
 ·have hm := mget chV cs i (by omega)
  have hnw := (newV_ok cs[i] (hki _ (List.getElem_mem (by omega)))).2
  have htk:((cs.take (i + 1)).map newV).map dvC = ((cs.take i).map newV).map dvC ++ [dvC (newV cs[i])]:=by
   rw [List.take_succ_eq_append_getElem (by omega),List.map_append,List.map_append]; rfl
  have hlen:((cs.take i).map newV).length = i := by rw [List.length_map,List.length_take]; omega
  generalize newV cs[i] = d at *
  generalize cs[i] = x at *
  obtain ⟨xn,xk,xb,xs,xd⟩ := x
  obtain ⟨d1,d2⟩ := d
  dsimp only [chV,dvC] at hm hnw
  have hbs:(List.replicate 1 [V.c (.slice none 0 0),V.c (.slice none 0 0)]).set 0 [V.sl 1 (cells d1),V.sl 1 (bcells d2)] = [[V.sl 1 (cells d1),V.sl 1 (bcells d2)]] := rfl
  cases i with
  | zero =>
   have next := fun fr h => hC fr h 1 (by omega) (by omega)
   clear hC
   dsimp only [Nat.zero_add] at next htk ⊢
   rw [htk] at next
   repeat' (first | refine rI hm ?_ | rw [hbs] | (show WOpsT _ (⟨_,.app _ _ _ _,none⟩ :: _) _ _ _ _; refine T.appN rfl rfl ⟨by decide,by decide⟩ (by simp) (by simp) ?_) | refine T.call0 e22 rfl hnw ?_ | exact ⟨⟩ | intro (K:KT) hK | intro hcd | (refine go1 ?_ ?_ <;> try clear hK K) | fail)
   all_goals exact next _ _ (by exact .G [0,1,4] 1)
  | succ i =>
   have next := fun fr h => hC fr h (i + 1 + 1) (by omega) (by omega)
   clear hC
   dsimp only at next ⊢
   rw [htk] at next
   have hlD:(((cs.take (i + 1)).map newV).map dvC).length = i + 1 := by rw [List.length_map]; exact hlen
   generalize (cs.take (i + 1)).map newV = D at *
   have o1:∀ (h:List Blk) (ids:List Nat) (k v:Nat) (w:List V),outB h ids k ⟨v,2,D.map dvC ++ [w]⟩ = ⟨v,2,D.map dvC ++ [w.map (out h ids k)]⟩ := fun h ids k v w => by
    simp only [outB,List.map_append]; rw [flat_rows (fun _ => out_c) (fun _ _ => out_sl)]; rfl
   repeat' (first | refine rI hm ?_ | rw [hbs] | (show WOpsT _ (⟨_,.app _ _ _ _,none⟩ :: _) _ _ _ _; refine T.app rfl rfl rfl ⟨by decide,by decide⟩ ⟨rfl,rfl,by rw [hlD,Nat.zero_add],by simp; omega⟩ ?_) | (show WOpsT _ (⟨_,.st _ _ _,none⟩ :: _) _ _ _ _; refine T.st rfl rfl (vcells_psl rfl rfl) ⟨rfl,rfl⟩ rfl lb ?_) | refine T.call0 e22 rfl hnw ?_ | exact ⟨⟩ | intro (K:KT) hK | intro hcd | (refine go1 ?_ ?_ <;> try clear hK K) | fail)
   all_goals exact next _ _ (Weaks.gc [0,1,2] 1 rfl (by exact sE) (by show [_,_,_] = [_,_,outB _ _ _ ⟨i + 1 + 1,2,D.map dvC ++ [_]⟩]; rw [o1]; rfl))
 ·obtain rfl:i = n + 1 := by omega
  have htake:cs.take (n + 1) = cs := List.take_of_length_le (by omega)
  clear hC
  dsimp only
  rw [htake]
  repeat' (first | exact ⟨⟩ | intro (K:KT) hK | intro hcd | (refine go1 ?_ ?_ <;> try clear hK K) | fail)
  exact WS.gc [] 1 rfl rfl (by
   show Sub (.tup [.agg [I 0,I 0,I 0,I 0,I 0,I 4,I 0,I 0,I 0,I 0,I 258,I 0,.c (.bool false),out _ [] 1 (.psl 2 (n + 1) 0 (n + 1)),I 0,I 0,I 0],I 0]) _
   rw [out_rowsK (f := dvC) (l := cs.map newV) rfl rfl (by rw [List.length_map]; omega)]
   exact .rfl)
def SmlD (d:Dv):Prop := d.1.length ≤ 100000∧d.2.length ≤ 100000
def maP (t:Int) (r:Nat→Int) (op a:Int) (b:Bool) (v n:Nat) (x y z:Int):List V := [I t,I (r 0),I (r 1),I (r 2),I (r 3),I (r 4),I (r 5),I (r 6),I (r 7),I (r 8),I op,I a,.c (.bool b),.psl 0 v 0 n,I x,I y,I z]
theorem mcopies_ok (t:Int) (r:Nat→Int) (op a:Int) (b:Bool) (ds:List Dv) (x y z:Int) (hd:∀ d ∈ ds,SmlD d) (h1:1 ≤ ds.length) (h2:ds.length ≤ 12):FnE Tryz.prog 24 [.agg (maV t r op a b ds x y z)] [] (.agg (maP t r op a b 2 ds.length x y z)) [⟨2,2,ds.map dvC⟩]:=by
 obtain ⟨d0,l,hdl⟩:∃ d0 l,ds = d0 :: l:=by
  cases ds with
  | nil => exact absurd h1 (by simp)
  | cons d0 l => exact ⟨d0,l,rfl⟩
 have hcl := cloneD_ok d0 l (by rw [← hdl]; omega)
 rw [← hdl] at hcl
 clear hdl
 dsimp only [maV,maP]
 refine N.fnC Tryz.func24 k24 fun Q hQ hQN => ?_
 repeat' (first | rw [rows_ren] | refine T.callN e58 rfl (hcl) (by simp) ?_ | exact ⟨⟩ | intro (K:KT) hK | intro hcd | (refine go1 ?_ ?_ <;> try clear hK K) | fail)
 refine N.loop (σ := Nat) (fun i => [(1,.ptr 0 1 0 0),(2,.ptr 1 1 0 0),(10,.psl 2 2 0 ds.length),(11,I ds.length),(12,I i)]) (fun i => [⟨1,17,[[I t,I (r 0),I (r 1),I (r 2),I (r 3),I (r 4),I (r 5),I (r 6),I (r 7),I (r 8),I op,I a,.c (.bool b),.psl 2 2 0 ds.length,I x,I y,I z]]⟩,⟨1,17,[[I 0,I 0,I 0,I 0,I 0,I 0,I 0,I 0,I 0,I 0,I 0,I 0,.c (.bool false),.c (.slice none 0 0),I 0,I 0,I 0]]⟩,⟨2,2,ds.map dvC⟩]) (fun i => i ≤ ds.length) (fun i => ds.length - i) 0 (Nat.zero_le _) (Weaks.sel (by exact sB) rfl) fun i hi R hC => ?_
 by_cases hil:i < ds.length
 ·have hg:(ds.map dvC)[i]? = some (dvC ds[i]) := by rw [List.getElem?_map,List.getElem?_eq_getElem hil]; rfl
  have hset:(ds.map dvC).set i (dvC ds[i]) = ds.map dvC:=by
   apply List.ext_getElem?
   intro j
   rw [List.getElem?_set,List.length_map]
   by_cases hij:i = j
   ·subst hij; rw [if_pos rfl,if_pos hil,hg]
   ·rw [if_neg hij]
  obtain ⟨s1,s2⟩ := hd _ (List.getElem_mem hil)
  have k1 := cloneI_ok _ s1
  have k2 := cloneB_ok _ s2
  generalize ds[i] = d at *
  obtain ⟨d1,d2⟩ := d
  dsimp only [dvC] at hg hset k1 k2
  have hg:(ds.map dvC)[(i:Int).toNat]? = some [.sl 1 (cells d1),.sl 1 (bcells d2)] := by rw [Int.toNat_natCast]; exact hg
  have hset:(ds.map dvC).set (i:Int).toNat (spl [.sl 1 (cells d1),.sl 1 (bcells d2)] 0 [.sl 1 (cells d1),.sl 1 (bcells d2)]) = ds.map dvC := by rw [Int.toNat_natCast]; exact hset
  repeat' (first | refine rL hg ?_ | refine rS hg ?_ | (show WC _ _ _ _ _ _ _ _ _; first | refine T.call0 e59 rfl k1 ?_ | refine T.call0 e60 rfl k2 ?_) | exact ⟨⟩ | intro (K:KT) hK | intro hcd | (refine go1 ?_ ?_ <;> try clear hK K) | fail)
  refine hC _ _ (i + 1) (by omega) (by omega) ?_
  refine Weaks.gc [0,1,2] 1 rfl (by exact sE) ?_
  show [_,_,_] = [_,_,outB _ _ _ ⟨2,2,(ds.map dvC).set (i:Int).toNat (spl [.sl 1 (cells d1),.sl 1 (bcells d2)] 0 [.sl 1 (cells d1),.sl 1 (bcells d2)])⟩]
  rw [hset,outB_flat]; rfl
 ·obtain rfl:i = ds.length := by omega
  repeat' (first | exact ⟨⟩ | intro (K:KT) hK | intro hcd | (refine go1 ?_ ?_ <;> try clear hK K) | fail)
  exact WS.gc [2] 1 rfl (by show [(⟨2,2,ds.map dvC⟩:Blk)] = [outB _ [2] 1 ⟨2,2,ds.map dvC⟩]; rw [outB_flat]) .rfl
def mrow (t:Int) (r:Nat→Int) (op a:Int) (b:Bool) (d:V) (x y z:Int):List V := [I t,I (r 0),I (r 1),I (r 2),I (r 3),I (r 4),I (r 5),I (r 6),I (r 7),I (r 8),I op,I a,.c (.bool b),d,I x,I y,I z]
theorem dev_get {ds:List Dv} {i:Nat} (h:i < ds.length) {d:Dv} (hd:ds[i] = d):(ds.map dvC)[(i:Int).toNat]? = some (dvC d):=by
 rw [Int.toNat_natCast,List.getElem?_map,List.getElem?_eq_getElem h,hd]; rfl
theorem outs_ok (B:Brd) (t:Int) (r:Nat→Int) (op a:Int) (b:Bool) (v:Nat) (ds:List Dv) (x y z:Int) (os:List Int) (h12:B.chips.length ≤ 12) (hl:ds.length = B.chips.length) (ho:os.length = B.chips.length) (hO:∀ i (h:i < B.chips.length),FnE Tryz.prog 68 [.agg (chV B.chips[i]),.agg (dvC ds[i])] [] (I os[i]) []):FnE Tryz.prog 61 [.agg (boV B),.agg (mrow t r op a b (.psl 0 v 0 ds.length) x y z)] [⟨v,2,ds.map dvC⟩] (.sl 1 (cells os)) [⟨v,2,ds.map dvC⟩]:=by
 refine N.fnC Tryz.func61 k61 fun Q hQ hQN => ?_
 repeat' (first | rw [List.length_map] | exact ⟨⟩ | intro (K:KT) hK | intro hcd | (refine go1 ?_ ?_ <;> try clear hK K) | fail)
 refine N.loop (σ := Nat) (fun i => [(3,.ptr 2 1 0 0),(5,.psl 3 (i + 1) 0 i),(9,.sl 5 (B.chips.map chV)),(10,I B.chips.length),(11,I i)]) (fun i => [⟨v,2,ds.map dvC⟩,⟨1,8,[boV B]⟩,⟨1,17,[mrow t r op a b (.psl 0 v 0 ds.length) x y z]⟩,⟨i + 1,1,cells (os.take i)⟩]) (fun i => i ≤ B.chips.length) (fun i => B.chips.length - i) 0 (Nat.zero_le _) (Weaks.nilAs 5 1 (by decide) rfl (Weaks.sel (by exact sB) rfl)) fun i hi R hC => ?_
 by_cases hil:i < B.chips.length
 ·have hm := mget chV B.chips i hil
  have hv := hO i hil
  have ht:cells (os.take (i + 1)) = cells (os.take i ++ [os[i]]) := by rw [List.take_succ_eq_append_getElem (by omega)]
  have hd := dev_get (ds := ds) (i := i) (by omega) rfl
  have hlt:(os.take i).length = i := by rw [List.length_take]; omega
  obtain ⟨c,hc⟩:∃ c,B.chips[i] = c := ⟨_,rfl⟩
  rw [hc] at hm hv
  generalize os[i] = o at *
  generalize ds[i] = d at *
  obtain ⟨xn,xk,xb,xs,xd⟩ := c
  obtain ⟨d1,d2⟩ := d
  dsimp only [chV,dvC] at hm hv hd
  repeat' (first | refine rI hm ?_ | refine rL hd ?_ | (show WOpsT _ (⟨_,.app _ _ _ _,none⟩ :: _) _ _ _ _; refine T.appI rfl rfl rfl (by rw [hlt]) (by omega) ?_) | refine T.call0 e68 rfl hv ?_ | exact ⟨⟩ | intro (K:KT) hK | intro hcd | (refine go1 ?_ ?_ <;> try clear hK K) | fail)
  refine hC _ _ (i + 1) (by omega) (by omega) ?_
  rw [ht]
  exact (by exact .G [0,1,2,3] 1)
 ·obtain rfl:i = B.chips.length := by omega
  rw [List.take_of_length_le (by omega)]
  repeat' (first | exact ⟨⟩ | intro (K:KT) hK | intro hcd | (refine go1 ?_ ?_ <;> try clear hK K) | fail)
  exact WS.gc [0] 1 rfl (by exact oO) (by show Sub (out _ [0] 1 (.psl 3 _ 0 _)) _; rw [out_intsK rfl rfl (by omega)]; exact .rfl)
def askK (k:Int):Bool := decide (k = 3∨k = 5∨k = 8)
theorem asks_ok (k:Int):FnE Tryz.prog 103 [I k] [] (.c (.bool (askK k))) []:=by
 unfold askK
 refine N.fnC Tryz.func103 k103 fun Q hQ hQN => ?_
 repeat' (first | exact ⟨⟩ | intro (K:KT) hK | intro hcd | (refine go1 ?_ ?_ <;> try clear hK K) | fail)
 all_goals first | exact WS.bool rfl (by simp only [decide_eq_true_eq,iff_true,true_iff,iff_false,false_iff,reduceCtorEq]; omega) | (exfalso; omega)
def fidx {α:Type} (p:α→Bool) (l:List α):Int := match l.findIdx? p with
 | some i => (i:Int)
 | none => -1
theorem fidx_at {α:Type} {p:α→Bool} {l:List α} {i:Nat} (hi:i < l.length) (hb:∀ j,j < i→∀ hj:j < l.length,p l[j] = false) (hp:p l[i] = true):fidx p l = i:=by
 unfold fidx
 rw [show l.findIdx? p = some i from List.findIdx?_eq_some_iff_getElem.2 ⟨hi,hp,fun j hj => by rw [hb j hj (by omega)]; decide⟩]
theorem fidx_no {α:Type} {p:α→Bool} {l:List α} (h:∀ j,∀ hj:j < l.length,p l[j] = false):fidx p l = -1:=by
 unfold fidx
 rw [show l.findIdx? p = none from List.findIdx?_eq_none_iff.2 fun x hx => by
  obtain ⟨j,hj,rfl⟩ := List.getElem_of_mem hx
  exact h j hj]
theorem fidx_any {α:Type} (p:α→Bool) (l:List α):decide (fidx p l ≥ 0) = l.any p:=by
 unfold fidx
 cases h:l.findIdx? p with
 | none =>
  have := List.findIdx?_eq_none_iff.1 h
  rw [show l.any p = false from by rw [List.any_eq_false]; exact fun x hx => by rw [this x hx]; decide]
  rfl
 | some i =>
  obtain ⟨hi,hp,_⟩ := List.findIdx?_eq_some_iff_getElem.1 h
  rw [show l.any p = true from List.any_eq_true.2 ⟨_,List.getElem_mem hi,hp⟩]
  exact decide_eq_true (by dsimp only; omega)
theorem ixFW_ok (f:Nat) (he:enters Tryz.prog f = true) (c:Chp) (p:Wir→Bool) (l:List Wir) (hl:l.length ≤ 256) (hp:∀ x:Wir,FnE Tryz.prog f [.agg (wiV x),.ptr 0 1 0 0] [⟨1,5,[chV c]⟩] (.c (.bool (p x))) [⟨1,5,[chV c]⟩]):FnE Tryz.prog 178 [.sl 2 (l.map wiV),.fn f [.ptr 0 1 0 0]] [⟨1,5,[chV c]⟩] (I (fidx p l)) [⟨1,5,[chV c]⟩]:=by
 obtain ⟨xn,xk,xb,xs,xd⟩ := c
 dsimp only [chV] at hp ⊢
 refine N.fnC Tryz.func178 k178 fun Q hQ hQN => ?_
 repeat' (first | rw [List.length_map] | exact ⟨⟩ | intro (K:KT) hK | intro hcd | (refine go1 ?_ ?_ <;> try clear hK K) | fail)
 refine N.loop (σ := Nat) (fun j => [(0,.sl 2 (l.map wiV)),(1,.fn f [.ptr 0 1 0 0]),(7,I l.length),(8,I j)]) (fun j => [⟨1,5,[[.c (.string xn),I xk,I xb,I xs,.sl 1 (bcells xd)]]⟩]) (fun j => j ≤ l.length∧∀ k,k < j→∀ hk:k < l.length,p l[k] = false) (fun j => l.length - j) 0 ⟨Nat.zero_le _,fun k hk => absurd hk (by omega)⟩ (Weaks.sel (by exact sB) rfl) fun j hj R hC => ?_
 obtain ⟨hj,hb⟩ := hj
 by_cases hjl:j < l.length
 ·have hm := mget wiV l j hjl
  have hv := hp l[j]
  have hx:p l[j] = true→fidx p l = j := fun h => fidx_at hjl hb h
  have hy:p l[j] = false→∀ k,k < j + 1→∀ hk:k < l.length,p l[k] = false := fun h k hk hkl => by
   by_cases hkj:k = j
   ·subst hkj; exact h
   ·exact hb k (by omega) hkl
  generalize p l[j] = q at *
  generalize l[j] = x at *
  obtain ⟨x1,x2⟩ := x
  dsimp only [wiV] at hm hv
  cases q
  ·have hy := hy rfl
   repeat' (first | refine rI hm ?_ | refine T.ofFn rfl (C.read [0] he rfl hv rfl rfl rfl rfl rfl ?_) | exact ⟨⟩ | intro (K:KT) hK | intro hcd | (refine go1 ?_ ?_ <;> try clear hK K) | fail)
   exact hC _ _ (j + 1) ⟨by omega,hy⟩ (by omega) (Weaks.sel (by exact sB) rfl)
  ·rw [hx rfl] at hQ hQN
   repeat' (first | refine rI hm ?_ | refine T.ofFn rfl (C.read [0] he rfl hv rfl rfl rfl rfl rfl ?_) | exact ⟨⟩ | intro (K:KT) hK | intro hcd | (refine go1 ?_ ?_ <;> try clear hK K) | fail)
   exact WS.gc [0] 1 rfl (by exact oO) .rfl
 ·obtain rfl:j = l.length := by omega
  rw [fidx_no fun k hk => hb k hk hk] at hQ hQN
  repeat' (first | exact ⟨⟩ | intro (K:KT) hK | intro hcd | (refine go1 ?_ ?_ <;> try clear hK K) | fail)
  exact WS.gc [0] 1 rfl (by exact oO) .rfl
theorem ctFW_ok (f:Nat) (he:enters Tryz.prog f = true) (c:Chp) (p:Wir→Bool) (l:List Wir) (hl:l.length ≤ 256) (hp:∀ x:Wir,FnE Tryz.prog f [.agg (wiV x),.ptr 0 1 0 0] [⟨1,5,[chV c]⟩] (.c (.bool (p x))) [⟨1,5,[chV c]⟩]):FnE Tryz.prog 152 [.sl 2 (l.map wiV),.fn f [.ptr 0 1 0 0]] [⟨1,5,[chV c]⟩] (.c (.bool (l.any p))) [⟨1,5,[chV c]⟩]:=by
 have hx := ixFW_ok f he c p l hl hp
 rw [← fidx_any]
 generalize fidx p l = q at *
 obtain ⟨xn,xk,xb,xs,xd⟩ := c
 dsimp only [chV] at hx ⊢
 refine N.fnC Tryz.func152 k152 fun Q hQ hQN => ?_
 repeat' (first | refine T.callQ [0] e178 rfl (hx) (by exact pA) rfl rfl rfl (by exact rN) ?_ | exact ⟨⟩ | intro (K:KT) hK | intro hcd | (refine go1 ?_ ?_ <;> try clear hK K) | fail)
 exact WS.gc [0] 1 rfl (by exact oO) .rfl
def hearW (c:Chp) (w:Wir):Bool := decide (w.src = c.name ++ sIrq) && decide (w.dst = sCpuIrq)
def hearC (B:Brd) (c:Chp):Bool := askK c.kind && B.wires.any (hearW c)
theorem heard1_ok (c:Chp) (hz:c.name.size ≤ 1000) (w:Wir):FnE Tryz.prog 153 [.agg (wiV w),.ptr 0 1 0 0] [⟨1,5,[chV c]⟩] (.c (.bool (hearW c w))) [⟨1,5,[chV c]⟩]:=by
 obtain ⟨xn,xk,xb,xs,xd⟩ := c
 obtain ⟨s,d⟩ := w
 have hcat := catV xn sIrq ⟨hz,by decide⟩
 unfold sIrq at hcat
 unfold hearW sIrq sCpuIrq
 dsimp only [chV,wiV] at hcat ⊢
 generalize xn ++ (⟨#[46,105,114,113]⟩:ByteArray) = y at *
 by_cases h1:s = y
 ·by_cases h2:d = ⟨#[99,112,117,46,105,114,113]⟩
  ·rw [decide_eq_true h1,decide_eq_true h2]
   refine N.fnC Tryz.func153 k153 fun Q hQ hQN => ?_
   repeat' (first | (show WOpsT _ (⟨_,.bin _ _ _,none⟩ :: _) _ _ _ _; refine T.bin rfl rfl hcat ?_) | exact ⟨⟩ | intro (K:KT) hK | intro hcd | (refine go1 ?_ ?_ <;> try clear hK K) | fail)
   rw [decide_eq_true h2]
   exact WS.gc [0] 1 rfl (by exact oO) .rfl
  ·rw [decide_eq_true h1,decide_eq_false h2]
   refine N.fnC Tryz.func153 k153 fun Q hQ hQN => ?_
   repeat' (first | (show WOpsT _ (⟨_,.bin _ _ _,none⟩ :: _) _ _ _ _; refine T.bin rfl rfl hcat ?_) | exact ⟨⟩ | intro (K:KT) hK | intro hcd | (refine go1 ?_ ?_ <;> try clear hK K) | fail)
   rw [decide_eq_false h2]
   exact WS.gc [0] 1 rfl (by exact oO) .rfl
 ·rw [decide_eq_false h1]
  refine N.fnC Tryz.func153 k153 fun Q hQ hQN => ?_
  repeat' (first | (show WOpsT _ (⟨_,.bin _ _ _,none⟩ :: _) _ _ _ _; refine T.bin rfl rfl hcat ?_) | exact ⟨⟩ | intro (K:KT) hK | intro hcd | (refine go1 ?_ ?_ <;> try clear hK K) | fail)
  exact WS.gc [0] 1 rfl (by exact oO) .rfl
def bls (l:List Bool):List (List V) := l.map fun b => [V.c (.bool b)]
instance:Flat (fun b:Bool => [V.c (.bool b)]) := ⟨fun a x hx => by simp at hx; subst hx; exact .inl ⟨_,rfl⟩⟩
def blk (l:List Bool) (i:Nat):List (List V) := bls (l.take i ++ List.replicate (l.length - i) false)
theorem blk_0 (l:List Bool):blk l 0 = List.replicate l.length [V.c (.bool false)] := by simp [blk,bls]
theorem blk_end (l:List Bool):blk l l.length = bls l := by simp [blk]
theorem blk_get (l:List Bool) (i:Nat) (h:i < l.length):(blk l i)[(i:Int).toNat]? = some [V.c (.bool false)]:=by
 rw [Int.toNat_natCast]
 unfold blk bls
 rw [List.getElem?_map,List.getElem?_append_right (by rw [List.length_take]; omega),List.getElem?_replicate,if_pos (by rw [List.length_take]; omega)]; rfl
theorem blk_set (l:List Bool) (i:Nat) (h:i < l.length):(blk l i).set (i:Int).toNat [V.c (.bool l[i])] = blk l (i + 1):=by
 rw [Int.toNat_natCast]
 unfold blk bls
 have h1:([V.c (.bool l[i])]:List V) = (fun b => [V.c (.bool b)]) l[i] := rfl
 rw [h1,← List.map_set]
 congr 1
 rw [List.set_append,if_neg (by rw [List.length_take]; omega),List.take_succ_eq_append_getElem h,List.append_assoc]
 congr 1
 have h2:i - (List.take i l).length = 0 := by rw [List.length_take]; omega
 rw [h2,show l.length - i = (l.length - (i + 1)) + 1 by omega,List.replicate_succ]
 rfl
theorem heard_go (B:Brd) (hs:List Bool) (h12:B.chips.length ≤ 12) (hw:B.wires.length ≤ 256) (hmem:∀ c ∈ B.chips,c.name.size ≤ 1000) (hlen:hs.length = B.chips.length) (hget:∀ i (h:i < B.chips.length) (h2:i < hs.length),hs[i] = hearC B B.chips[i]):FnE Tryz.prog 115 [.agg (boV B)] [] (.sl 1 (bls hs)) []:=by
 refine N.fnC Tryz.func115 k115 fun Q hQ hQN => ?_
 repeat' (first | rw [List.length_map] | (show WOpsT _ (⟨_,.mksl _ _ _ _,none⟩ :: _) _ _ _ _; refine T.mksl rfl rfl ⟨by decide,by decide,by omega,by omega,by omega⟩ ?_) | rw [Int.toNat_natCast] | exact ⟨⟩ | intro (K:KT) hK | intro hcd | (refine go1 ?_ ?_ <;> try clear hK K) | fail)
 refine N.loop (σ := Nat) (fun i => [(1,.ptr 0 1 0 0),(3,.psl 1 1 0 B.chips.length),(11,.sl 5 (B.chips.map chV)),(12,I B.chips.length),(13,I i)]) (fun i => [⟨1,8,[boV B]⟩,⟨1,1,blk hs i⟩]) (fun i => i ≤ B.chips.length) (fun i => B.chips.length - i) 0 (Nat.zero_le _) (Weaks.sel (by exact sB) (by rw [blk_0,hlen])) fun i hi R hC => ?_
 by_cases hil:i < B.chips.length
 ·have hm := mget chV B.chips i hil
  have hg := blk_get hs i (by omega)
  have hst := blk_set hs i (by omega)
  rw [hget i hil (by omega)] at hst
  have hzi := hmem _ (List.getElem_mem hil)
  have hct := ctFW_ok 153 e153 B.chips[i] (hearW B.chips[i]) B.wires hw (heard1_ok _ hzi)
  have hak := asks_ok B.chips[i].kind
  unfold hearC at hst
  generalize B.wires.any (hearW B.chips[i]) = w at *
  generalize B.chips[i] = c at *
  obtain ⟨xn,xk,xb,xs,xd⟩ := c
  dsimp only [chV] at hm hct hak hst
  cases hk:askK xk
  ·rw [hk] at hak hst
   rw [Bool.false_and] at hst
   repeat' (first | refine rI hm ?_ | refine rS hg ?_ | refine T.call0 e103 rfl hak ?_ | exact ⟨⟩ | intro (K:KT) hK | intro hcd | (refine go1 ?_ ?_ <;> try clear hK K) | fail)
   refine hC _ _ (i + 1) (by omega) (by omega) (Weaks.gc [0,1] 1 rfl (by exact sE) ?_)
   show [_,_] = [_,outB _ _ _ ⟨1,1,(blk hs i).set (i:Int).toNat [V.c (.bool false)]⟩]
   rw [hst]; unfold blk bls; rw [outB_flat]; rfl
  ·rw [hk] at hak hst
   rw [Bool.true_and] at hst
   repeat' (first | refine rI hm ?_ | refine rS hg ?_ | (show WC _ _ _ _ _ _ _ _ _; first | refine T.call0 e103 rfl hak ?_ | refine T.callQ [2] e152 rfl (hct) (by exact pA) rfl rfl rfl (by exact rN) ?_) | exact ⟨⟩ | intro (K:KT) hK | intro hcd | (refine go1 ?_ ?_ <;> try clear hK K) | fail)
   refine hC _ _ (i + 1) (by omega) (by omega) (Weaks.gc [0,1] 1 rfl (by exact sE) ?_)
   show [_,_] = [_,outB _ _ _ ⟨1,1,(blk hs i).set (i:Int).toNat [V.c (.bool w)]⟩]
   rw [hst]; unfold blk bls; rw [outB_flat]; rfl
 ·obtain rfl:i = B.chips.length := by omega
  rw [← hlen,blk_end]
  repeat' (first | exact ⟨⟩ | intro (K:KT) hK | intro hcd | (refine go1 ?_ ?_ <;> try clear hK K) | fail)
  exact WS.rows (f := fun b:Bool => [V.c (.bool b)]) rfl (Nat.le_refl _)
theorem heard_ok (B:Brd) (h12:B.chips.length ≤ 12) (hw:B.wires.length ≤ 256) (hz:∀ c ∈ B.chips,c.name.size ≤ 1000):FnE Tryz.prog 115 [.agg (boV B)] [] (.sl 1 (bls (B.chips.map (hearC B)))) [] :=
 heard_go B _ h12 hw hz (List.length_map ..) fun i h h2 => List.getElem_map ..
theorem blget (l:List Bool) (i:Nat) (h:i < l.length):(bls l)[(i:Int).toNat]? = some [V.c (.bool l[i])]:=by
 rw [Int.toNat_natCast]; unfold bls; rw [List.getElem?_map,List.getElem?_eq_getElem h]; rfl
def lineR (hs qs:List Bool):Bool := (hs.zip qs).any fun p => p.1 && p.2
theorem lineR_at {hs qs:List Bool} {i:Nat} (h1:i < hs.length) (h2:i < qs.length) (h3:hs[i] = true) (h4:qs[i] = true):lineR hs qs = true:=by
 unfold lineR
 refine List.any_eq_true.2 ⟨(hs[i],qs[i]),List.mem_iff_getElem.2 ⟨i,by rw [List.length_zip]; omega,List.getElem_zip⟩,?_⟩
 rw [h3,h4]; rfl
theorem lineR_no {hs qs:List Bool} (h:∀ j,∀ (h1:j < hs.length) (h2:j < qs.length),hs[j] = true→qs[j] = true→False):lineR hs qs = false:=by
 unfold lineR
 rw [List.any_eq_false]
 intro p hp
 obtain ⟨j,hj,rfl⟩ := List.mem_iff_getElem.1 hp
 rw [List.length_zip] at hj
 rw [List.getElem_zip]
 intro hx
 simp only [Bool.and_eq_true] at hx
 exact h j (by omega) (by omega) hx.1 hx.2
theorem line_ok (B:Brd) (t:Int) (r:Nat→Int) (op a:Int) (b:Bool) (v:Nat) (ds:List Dv) (x y z:Int) (hs qs:List Bool) (h12:B.chips.length ≤ 12) (hl:ds.length = B.chips.length) (hn:hs.length = B.chips.length) (hn2:qs.length = B.chips.length) (hH:FnE Tryz.prog 115 [.agg (boV B)] [] (.sl 1 (bls hs)) []) (hI:∀ i (h:i < B.chips.length),FnE Tryz.prog 116 [.agg (chV B.chips[i]),.agg (dvC ds[i])] [] (.c (.bool qs[i])) []):FnE Tryz.prog 64 [.agg (boV B),.agg (mrow t r op a b (.psl 0 v 0 ds.length) x y z)] [⟨v,2,ds.map dvC⟩] (.c (.bool (lineR hs qs))) [⟨v,2,ds.map dvC⟩]:=by
 have hbl:(bls hs).length = B.chips.length := by unfold bls; rw [List.length_map,hn]
 refine N.fnC Tryz.func64 k64 fun Q hQ hQN => ?_
 repeat' (first | rw [hbl] | refine T.call0 e115 rfl hH ?_ | exact ⟨⟩ | intro (K:KT) hK | intro hcd | (refine go1 ?_ ?_ <;> try clear hK K) | fail)
 refine N.loop (σ := Nat) (fun i => [(2,.ptr 1 1 0 0),(3,.ptr 2 1 0 0),(8,.sl 1 (bls hs)),(9,I B.chips.length),(10,I i)]) (fun i => [⟨v,2,ds.map dvC⟩,⟨1,8,[boV B]⟩,⟨1,17,[mrow t r op a b (.psl 0 v 0 ds.length) x y z]⟩]) (fun i => i ≤ B.chips.length∧∀ j,j < i→∀ (h1:j < hs.length) (h2:j < qs.length),hs[j] = true→qs[j] = true→False) (fun i => B.chips.length - i) 0 ⟨Nat.zero_le _,fun j hj => absurd hj (by omega)⟩ (Weaks.sel (by exact sB) rfl) fun i hi R hC => ?_
 obtain ⟨hi,hb⟩ := hi
 by_cases hil:i < B.chips.length
 ·have hm := mget chV B.chips i hil
  have hv := hI i hil
  have hd := dev_get (ds := ds) (i := i) (by omega) rfl
  have hg := blget hs i (by omega)
  have hat := @lineR_at hs qs i (by omega) (by omega)
  have hnx:(hs[i] = true→qs[i] = true→False)→∀ j,j < i + 1→∀ (h1:j < hs.length) (h2:j < qs.length),hs[j] = true→qs[j] = true→False := fun h j hj h1 h2 => by
   by_cases hji:j = i
   ·subst hji; exact h
   ·exact hb j (by omega) h1 h2
  generalize hs[i] = p at *
  generalize qs[i] = q at *
  generalize B.chips[i] = c at *
  generalize ds[i] = d at *
  obtain ⟨xn,xk,xb,xs,xd⟩ := c
  obtain ⟨d1,d2⟩ := d
  dsimp only [chV,dvC] at hm hv hd
  cases p
  ·have hnx := hnx (fun h => by cases h)
   repeat' (first | refine rI hg ?_ | exact ⟨⟩ | intro (K:KT) hK | intro hcd | (refine go1 ?_ ?_ <;> try clear hK K) | fail)
   exact hC _ _ (i + 1) ⟨by omega,hnx⟩ (by omega) (by exact .G [0,1,2] 1)
  ·cases q
   ·have hnx := hnx (fun _ h => by cases h)
    repeat' (first | refine rI hg ?_ | refine rI hm ?_ | refine rL hd ?_ | refine T.call0 e116 rfl hv ?_ | exact ⟨⟩ | intro (K:KT) hK | intro hcd | (refine go1 ?_ ?_ <;> try clear hK K) | fail)
    exact hC _ _ (i + 1) ⟨by omega,hnx⟩ (by omega) (by exact .G [0,1,2] 1)
   ·rw [hat rfl rfl] at hQ hQN
    repeat' (first | refine rI hg ?_ | refine rI hm ?_ | refine rL hd ?_ | refine T.call0 e116 rfl hv ?_ | exact ⟨⟩ | intro (K:KT) hK | intro hcd | (refine go1 ?_ ?_ <;> try clear hK K) | fail)
    exact WS.gc [0] 1 rfl (by exact oO) .rfl
 ·obtain rfl:i = B.chips.length := by omega
  rw [lineR_no fun j h1 h2 => hb j (by omega) h1 h2] at hQ hQN
  repeat' (first | exact ⟨⟩ | intro (K:KT) hK | intro hcd | (refine go1 ?_ ?_ <;> try clear hK K) | fail)
  exact WS.gc [0] 1 rfl (by exact oO) .rfl
theorem datB_kind (k i:Nat) (a:Int) (l:List Int) (h:2 ≤ k∧k ≤ 8):VKind (mkChp k i a (datB k i l).1):=by
 unfold mkChp datB
 by_cases h8:k = 8
 ·subst h8
  have r := sval_range l 2 (by decide)
  rw [if_pos rfl]
  exact .drive (1 + (sval l 2).toNat) rfl rfl (by omega) (drvD_len _ _ _) (drvD_bytes _ _ _)
 ·rw [if_neg h8]
  by_cases h2:k = 2
  ·subst h2
   have r := sval_range (srest (srest l 256) 256) 3 (by decide)
   rw [if_pos rfl]
   exact .bank (1 + (sval (srest (srest l 256) 256) 3).toNat) rfl rfl (by omega) (by rw [show 8 * (1 + (sval (srest (srest l 256) 256) 3).toNat) = 8 + 8 * (sval (srest (srest l 256) 256) 3).toNat by omega]; exact bytesOf_len _ _) (bytesOf_bytes _ _)
  ·rw [if_neg h2]
   exact .dev (by dsimp only; omega) (by dsimp only; rw [Int.toNat_natCast]) rfl
theorem goBd_kind:∀ (n i:Nat) (a:Int) (cs:List Chp) (ws:List Wir) (l:List Int),(∀ c ∈ cs,VKind c)→(∀ c ∈ (goBd n i a cs ws l).1,VKind c)∧(goBd n i a cs ws l).1.length = cs.length + n:=by
 intro n
 induction n with
 | zero => intro i a cs ws l h; exact ⟨h,rfl⟩
 | succ n ih =>
  intro i a cs ws l h
  have r := sval_range l 8 (by decide)
  have hk := kdN_r (sval l 8).toNat (by omega)
  unfold goBd
  obtain ⟨h1,h2⟩ := ih (i + 1) (a + ((szN (kdN (sval l 8).toNat):Int) + 15) / 16 * 16) (cs ++ [(stepBd (kdN (sval l 8).toNat) i a (srest l 8)).1]) (ws ++ (stepBd (kdN (sval l 8).toNat) i a (srest l 8)).2.1) (stepBd (kdN (sval l 8).toNat) i a (srest l 8)).2.2 (by
   intro c hc
   rcases List.mem_append.1 hc with hc | hc
   ·exact h c hc
   ·simp only [List.mem_singleton] at hc; subst hc
    exact datB_kind _ _ _ _ hk)
  exact ⟨h1,by rw [h2,List.length_append,List.length_singleton]; omega⟩
theorem mkBrd_kinds (l:List Int):(∀ c ∈ (mkBrd l).chips,VKind c)∧2 ≤ (mkBrd l).chips.length∧(mkBrd l).chips.length ≤ 6:=by
 have r := sval_range l 5 (by decide)
 obtain ⟨h1,h2⟩ := goBd_kind (sval l 5).toNat 0 57344 [ramC] [] (srest l 5) (by
  intro c hc; simp only [List.mem_singleton] at hc; subst hc
  exact .mem 768 (.inl rfl) rfl (by decide) (by decide) Bytes.nil)
 obtain ⟨g1,g2,_⟩ := romD_ok (bdOf l).2.2
 refine ⟨fun c hc => ?_,?_⟩
 ·rcases List.mem_append.1 hc with hc | hc
  ·exact h1 c hc
  ·simp only [List.mem_singleton] at hc; subst hc
   exact .mem 256 (.inr rfl) rfl (by decide) (by show (romD _).length ≤ 256; omega) g2
 ·have:(mkBrd l).chips.length = (bdOf l).1.length + 1 := by show ((bdOf l).1 ++ [_]).length = _; rw [List.length_append]; rfl
  rw [this]
  have h3:(bdOf l).1.length = 1 + (sval l 5).toNat := h2
  omega
theorem DvOk.small {c:Chp} {d:Dv} (h:DvOk c d):d.1.length ≤ 100000∧d.2.length ≤ 100000:=by
 rcases h with ⟨z,hk,hs,h1,m,hm,hb⟩ | ⟨nb,hk,hs,h1,hd,n,hn,m,hm,hb⟩ | ⟨hk,hs,x,y,e,f,h⟩ | ⟨hk,hs,x,y,z,h⟩ | ⟨hk,hs,s1,l,g,f,o,e,n,z,h⟩ | ⟨hk,hs,p,q,m,h⟩ | ⟨hk,hs,x,y,hx,hy⟩ | ⟨nd,hk,hs,e,m,h⟩
 ·exact ⟨Nat.zero_le _,by dsimp only; omega⟩
 ·exact ⟨lb,by dsimp only; omega⟩
 ·exact ⟨lb,lb⟩
 ·exact ⟨lb,lb⟩
 ·exact ⟨lb,lb⟩
 ·exact ⟨lb,by have := h.len; dsimp only; omega⟩
 ·exact ⟨lb,lb⟩
 ·exact ⟨lb,by have := h.len; have := h.nd; dsimp only; omega⟩
noncomputable def wrV (c:Chp) (a v:Int) (d:Dv):Dv := open Classical in if h:DvOk c d∧0 ≤ a∧a < c.size then (chWrite_ex c d h.1 a v h.2).choose else d
noncomputable def goUsed (c:Chp):Nat→Dv→List Int→Dv
 | 0,d,_ => d
 | n + 1,d,l => goUsed c n (skipV c (sval (srest (srest l c.size) 256) 70).toNat (wrV c (sval l c.size) (sval (srest l c.size) 256) d)) (srest (srest (srest l c.size) 256) 70)
theorem VKind.size {c:Chp} (h:VKind c):1 ≤ c.size∧c.size ≤ 4096:=by
 rcases h with ⟨z,hk,hs,h1,hd,hb⟩ | ⟨nb,hk,hs,h1,hd,hb⟩ | ⟨hk,hs,hd⟩ | ⟨nd,hk,hs,hn,hd,hb⟩
 ·omega
 ·omega
 ·rw [hs]
  rcases hk with h | h | h | h | h <;> rw [h] <;> decide
 ·omega
theorem sndout_ok (x y:Vo) (m:List Int) (hx:x.Ok) (hy:y.Ok):FnE Tryz.prog 125 [dev (vo2 x y) m] [] (I (x.v * x.f + y.v * y.f)) []:=by
 have hx' := hx
 have hy' := hy
 unfold Vo.Ok at hx' hy'
 have b1:0 ≤ x.v * x.f∧x.v * x.f ≤ 15:=by
  have:x.f = 0∨x.f = 1 := by omega
  rcases this with h | h <;> rw [h] <;> omega
 have b2:0 ≤ y.v * y.f∧y.v * y.f ≤ 15:=by
  have:y.f = 0∨y.f = 1 := by omega
  rcases this with h | h <;> rw [h] <;> omega
 refine N.fnC Tryz.func125 k125 fun Q hQ hQN => ?_
 repeat' (first | refine T.callN e134 rfl (sndfit x y m hx hy) (by simp) ?_ | exact ⟨⟩ | intro (K:KT) hK | intro hcd | (refine go1 ?_ ?_ <;> try clear hK K) | fail)
 exact WS.c rfl rfl
theorem drvirq_ok (a:Dr) (m:List Int) (nd:Nat) (H:a.Ok m nd):FnE Tryz.prog 156 [dev (dr10 a) m] [] (.c (.bool (decide (a.x = 1∧a.r = 1)))) []:=by
 refine N.fnC Tryz.func156 k156 fun Q hQ hQN => ?_
 repeat' (first | refine T.callN e136 rfl (drvfit a m nd H) (by simp) ?_ | exact ⟨⟩ | intro (K:KT) hK | intro hcd | (refine go1 ?_ ?_ <;> try clear hK K) | fail)
 all_goals (refine WS.bool rfl ?_; simp only [decide_eq_true_eq,Bool.false_eq_true,false_iff,true_iff] <;> omega)
end Go.Proofs.YtonhglhdlgbcnabGreat.Calc
namespace Go.Proofs.YtonhglhdlgbcnabGreat.Calc
open Go
set_option linter.unusedVariables false
set_option linter.unusedSimpArgs false
theorem Dr.keeps (a:Dr) (m:List Int) (hl:0 ≤ a.l) (j:Nat) (hj:(j:Int) ≤ (if a.c = 0 then 100000 else max 1 a.l - 1)) (hc:0 ≤ a.c):(Dr.skip j j a m).1.t = a.t∧(Dr.skip j j a m).1.x = a.x∧(Dr.skip j j a m).1.r = a.r:=by
 cases j with
 | zero => exact ⟨rfl,rfl,rfl⟩
 | succ j =>
  simp only [Dr.skip]
  by_cases h0:a.c ≤ 0
  ·rw [if_pos (.inr h0)]; exact ⟨rfl,rfl,rfl⟩
  ·rw [if_neg (by omega)] at hj
   rw [if_neg (by omega)]
   by_cases h3:3 ≤ a.c∧a.k = 0
   ·rw [if_pos h3]; exact ⟨rfl,rfl,rfl⟩
   ·rw [if_neg h3,if_pos (by omega)]; exact ⟨rfl,rfl,rfl⟩
end Go.Proofs.YtonhglhdlgbcnabGreat.Calc
