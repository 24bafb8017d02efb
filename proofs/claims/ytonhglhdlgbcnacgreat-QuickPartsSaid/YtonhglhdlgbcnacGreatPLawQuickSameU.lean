/- Several texts in one (FnWire, PureWire, FnWireB, FnPokes, FnMachL, FnQuickR, FnLawMParts, FnLawQuick), for the proof of LawQuickSame. No condition beyond those in each lemma. -/
import Derived.Test.YtonhglhdlgbcnacGreatPLawQuickSameO
import Derived.Test.YtonhglhdlgbcnacGreatPLawQuickSameD
import Derived.Test.YtonhglhdlgbcnacGreatPLawQuickSameE
import Derived.Laws.StandIn
import Derived.Test.YtonhglhdlgbcnacGreatPLawQuickSameT
namespace Go.Proofs.YtonhglhdlgbcnacGreat.Calc
open Go Code
set_option linter.unusedSimpArgs false
set_option linter.unusedVariables false
set_option maxRecDepth 20000
set_option maxHeartbeats 4000000
attribute [local irreducible] WOpsT AW AK RK AKW UK UC
theorem ibs_x (s:ByteArray) (c:Int):ExtE Tryz.prog 212 [.c (.string s),.c (.int .u8 c)] (I (firstIdx s c.toNat.toUInt8)):=by
 intro X w ι vs hn hr
 have e:vs = #[.string s,.int .u8 c]:=by
  obtain ⟨l⟩ := vs
  match l,hn with
  | [a,b],_ =>
   have h1 := hr 0 a _ rfl rfl
   have h2 := hr 1 b _ rfl rfl
   cases h1; cases h2; rfl
 subst e
 refine ⟨_,?_,.c⟩
 rw [run_callFunc_indexByte Tryz.func212 (by kernel_rfl) (by kernel_rfl) (by kernel_rfl) (by kernel_rfl),run_indexByte_string]
 rfl
theorem ib_ok (s:ByteArray) (c:Int):FnE Tryz.prog 206 [.c (.string s),.c (.int .u8 c)] [] (I (firstIdx s c.toNat.toUInt8)) []:=by
 refine N.fnC Tryz.func206 k206 fun Q hQ hQN => ?_
 repeat' (first | (show WOpsT _ (⟨_,.xcall _ _,none⟩ :: _) _ _ _ _; refine T.xcall rfl (ibs_x _ _) ?_) | exact ⟨⟩ | intro (K:KT) hK | intro hcd | (refine go1 ?_ ?_ <;> try clear hK K) | fail)
 exact WS.c rfl rfl
theorem dot_ok (s:ByteArray) (hs:s ≠ ⟨#[46]⟩):FnE Tryz.prog 194 [.c (.string s),.c (.string ⟨#[46]⟩)] [] (I (firstIdx s 46)) []:=by
 have hx := ib_ok s 46
 have e:decide ((⟨#[46]⟩:ByteArray) = s) = false := decide_eq_false fun h => hs h.symm
 refine N.fnC Tryz.func194 k194 fun Q hQ hQN => ?_
 repeat' (first | (show WOpsT _ (⟨_,.ixs _ _,none⟩ :: _) _ _ _ _; refine T.ixs rfl rfl (by decide) rfl ?_) | rw [e] | refine T.call0 e206 rfl hx ?_ | exact ⟨⟩ | intro (K:KT) hK | intro hcd | (refine go1 ?_ ?_ <;> try clear hK K) | fail)
 all_goals first | exact WS.c rfl rfl | (exfalso; omega) | trace_state
theorem cutL_ok (s a b:ByteArray) (k:Nat) (hk:k < s.size) (hz:s.size ≤ 1000) (hs:s ≠ ⟨#[46]⟩) (hi:firstIdx s 46 = k) (ha:s.extract 0 k = a) (hb:s.extract (k + 1) s.size = b):FnE Tryz.prog 158 [.c (.string s),.c (.string ⟨#[46]⟩)] [] (.tup [.c (.string a),.c (.string b),.c (.bool true)]) []:=by
 have hx := dot_ok s hs
 rw [hi] at hx
 have e1:((⟨#[46]⟩:ByteArray).size:Int) = 1 := rfl
 refine N.fnC Tryz.func158 k158 fun Q hQ hQN => ?_
 repeat' (first | rw [e1] | refine T.call0 e194 rfl hx ?_ | exact ⟨⟩ | intro (K:KT) hK | intro hcd | (refine go1 ?_ ?_ <;> try clear hK K) | fail)
 all_goals first | (exfalso; omega) | skip
 rw [show ((k:Int) + 1).toNat = k + 1 by omega,Int.toNat_natCast,Int.toNat_natCast,ha,hb]
 exact WS.drop (n := 0) rfl rfl
theorem cut_ok (s a b:ByteArray) (k:Nat) (hk:k < s.size) (hz:s.size ≤ 1000) (hs:s ≠ ⟨#[46]⟩) (hi:firstIdx s 46 = k) (ha:s.extract 0 k = a) (hb:s.extract (k + 1) s.size = b):FnE Tryz.prog 99 [.c (.string s),.c (.string ⟨#[46]⟩)] [] (.tup [.c (.string a),.c (.string b),.c (.bool true)]) []:=by
 have hx := cutL_ok s a b k hk hz hs hi ha hb
 refine N.fnC Tryz.func99 k99 fun Q hQ hQN => ?_
 repeat' (first | refine T.call0 e158 rfl hx ?_ | exact ⟨⟩ | intro (K:KT) hK | intro hcd | (refine go1 ?_ ?_ <;> try clear hK K) | fail)
 exact WS.drop (n := 0) rfl rfl
theorem idx1_ok (s:ByteArray) (c:Chp):FnE Tryz.prog 159 [.agg (chV c),.ptr 0 1 0 0] [⟨1,1,[[.c (.string s)]]⟩] (.c (.bool (decide (c.name = s)))) [⟨1,1,[[.c (.string s)]]⟩]:=by
 obtain ⟨nm,k,b,z,dat⟩ := c
 dsimp only [chV]
 refine N.fnC Tryz.func159 k159 fun Q hQ hQN => ?_
 repeat' (first | exact ⟨⟩ | intro (K:KT) hK | intro hcd | (refine go1 ?_ ?_ <;> try clear hK K) | fail)
 exact WS.gc [0] 1 rfl (by exact oO) .rfl
theorem idxC_ok (f:Nat) (he:enters Tryz.prog f = true) (s:ByteArray) (l:List Chp) (i:Nat) (hi:i < l.length) (hn:l[i].name = s) (hb:∀ j,j < i→∀ hj:j < l.length,l[j].name ≠ s) (hl:l.length ≤ 256) (hp:∀ x:Chp,FnE Tryz.prog f [.agg (chV x),.ptr 0 1 0 0] [⟨1,1,[[.c (.string s)]]⟩] (.c (.bool (decide (x.name = s)))) [⟨1,1,[[.c (.string s)]]⟩]):FnE Tryz.prog 106 [.sl 5 (l.map chV),.fn f [.ptr 0 1 0 0]] [⟨1,1,[[.c (.string s)]]⟩] (I i) [⟨1,1,[[.c (.string s)]]⟩]:=by
 refine N.fnC Tryz.func106 k106 fun Q hQ hQN => ?_
 repeat' (first | rw [List.length_map] | exact ⟨⟩ | intro (K:KT) hK | intro hcd | (refine go1 ?_ ?_ <;> try clear hK K) | fail)
 refine N.loop (σ := Nat) (fun j => [(0,.sl 5 (l.map chV)),(1,.fn f [.ptr 0 1 0 0]),(7,I l.length),(8,I j)]) (fun j => [⟨1,1,[[.c (.string s)]]⟩]) (fun j => j ≤ i) (fun j => i - j) 0 (Nat.zero_le _) (Weaks.sel (by exact sB) rfl) fun j hj R hC => ?_
 have hjl:j < l.length := by omega
 have hm := mget chV l j hjl
 have hv := hp l[j]
 by_cases hji:j = i
 ·subst hji
  rw [hn,decide_eq_true rfl] at hv
  generalize l[j] = x at *
  obtain ⟨xn,xk,xb,xs,xd⟩ := x
  dsimp only [chV] at hm hv
  repeat' (first | refine rI hm ?_ | refine T.ofFn rfl (C.read [0] he rfl hv rfl rfl rfl rfl rfl ?_) | exact ⟨⟩ | intro (K:KT) hK | intro hcd | (refine go1 ?_ ?_ <;> try clear hK K) | fail)
  exact WS.gc [0] 1 rfl (by exact oO) .rfl
 ·have h1 := hb j (by omega) hjl
  rw [decide_eq_false h1] at hv
  generalize l[j] = x at *
  obtain ⟨xn,xk,xb,xs,xd⟩ := x
  dsimp only [chV] at hm hv
  repeat' (first | refine rI hm ?_ | refine T.ofFn rfl (C.read [0] he rfl hv rfl rfl rfl rfl rfl ?_) | exact ⟨⟩ | intro (K:KT) hK | intro hcd | (refine go1 ?_ ?_ <;> try clear hK K) | fail)
  exact hC _ _ (j + 1) (by omega) (by omega) (Weaks.sel (by exact sB) rfl)
theorem bindex_ok (b:Brd) (s:ByteArray) (i:Nat) (hi:i < b.chips.length) (hn:b.chips[i].name = s) (hb:∀ j,j < i→∀ hj:j < b.chips.length,b.chips[j].name ≠ s) (hl:b.chips.length ≤ 256):FnE Tryz.prog 100 [.agg (boV b),.c (.string s)] [] (I i) []:=by
 have hx := idxC_ok 159 e159 s b.chips i hi hn hb hl fun x => idx1_ok s x
 obtain ⟨bn,⟨nm,ins,r1,r2,r3⟩,cs,ws⟩ := b
 unfold boV cpC
 dsimp only [List.cons_append,List.nil_append] at hx ⊢
 refine N.fnC Tryz.func100 k100 fun Q hQ hQN => ?_
 repeat' (first | refine T.cP [1] e106 (hx) ?_ | exact ⟨⟩ | intro (K:KT) hK | intro hcd | (refine go1 ?_ ?_ <;> try clear hK K) | fail)
 exact WS.drop (n := 0) rfl rfl
theorem wire_ok (b:Brd) (w:Wir) (s:ByteArray) (k i:Nat) (hk:k < w.src.size) (hz:w.src.size ≤ 1000) (hs:w.src ≠ ⟨#[46]⟩) (hf:firstIdx w.src 46 = k) (ha:w.src.extract 0 k = s) (hp:w.src.extract (k + 1) w.src.size = ⟨#[105,114,113]⟩) (hd:w.dst = sCpuIrq) (hi:i < b.chips.length) (hn:b.chips[i].name = s) (hb:∀ j,j < i→∀ hj:j < b.chips.length,b.chips[j].name ≠ s) (hl:b.chips.length ≤ 256) (hkd:b.chips[i].kind = 3∨b.chips[i].kind = 5∨b.chips[i].kind = 8):FnE Tryz.prog 47 [.agg (boV b),.agg (wiV w)] [] (I 0) []:=by
 have hc := cut_ok w.src s _ k hk hz hs hf ha hp
 have hx := bindex_ok b s i hi hn hb hl
 have hm := mget chV b.chips i hi
 have has:FnE Tryz.prog 101 [I b.chips[i].kind] [] (.c (.bool true)) []:=by
  refine N.fnC Tryz.func101 k101 fun Q hQ hQN => ?_
  repeat' (first | exact ⟨⟩ | intro (K:KT) hK | intro hcd | (refine go1 ?_ ?_ <;> try clear hK K) | fail)
  all_goals first | exact WS.c rfl rfl | exact WS.bool rfl (by simp; omega) | (exfalso; omega) | trace_state
 generalize b.chips[i] = x at *
 obtain ⟨xn,xk,xb,xs,xd⟩ := x
 obtain ⟨w1,w2⟩ := w
 obtain ⟨bn,⟨nm,ins,r1,r2,r3⟩,cs,ws⟩ := b
 dsimp only at hd hc has hl
 subst hd
 unfold boV cpC at *
 dsimp only [List.cons_append,List.nil_append,chV,wiV,sCpuIrq] at *
 refine N.fnC Tryz.func47 k47 fun Q hQ hQN => ?_
 repeat' (first | refine rI hm ?_ | rw [Bool.not_true] | (show WC _ _ _ _ _ _ _ _ _; first | refine T.call0 e99 rfl hc ?_ | refine T.call0 e100 rfl hx ?_ | refine T.call0 e101 rfl has ?_) | exact ⟨⟩ | intro (K:KT) hK | intro hcd | (refine go1 ?_ ?_ <;> try clear hK K) | fail)
 all_goals first | exact WS.drop (n := 0) rfl rfl | exact WS.c rfl rfl | (exfalso; omega) | trace_state
end Go.Proofs.YtonhglhdlgbcnacGreat.Calc
namespace Go.Proofs.YtonhglhdlgbcnacGreat.Calc
open Go
set_option linter.unusedVariables false
set_option linter.unusedSimpArgs false
instance (a b:Int):Decidable (fitsP a b) := by unfold fitsP; infer_instance
instance (s:Stp):Decidable (VStep s) := by unfold VStep; infer_instance
instance (c:Cyc):Decidable (VCyc c) := by unfold VCyc; infer_instance
instance (l:List Cyc):Decidable (VCycs l) := by unfold VCycs; infer_instance
def insB (x:Ins):Bool := decide (0 ≤ x.op∧x.op ≤ 255) && vnmB x.name && decide (0 ≤ sizeM x.mode) && decide (VCycs x.cy) && decide (opnd x.cy = sizeM x.mode)
theorem ins_of (x:Ins) (h:insB x = true):VIns x:=by
 unfold insB at h
 simp only [Bool.and_eq_true,decide_eq_true_eq] at h
 obtain ⟨⟨⟨⟨h1,h2⟩,h3⟩,h4⟩,h5⟩ := h
 exact ⟨h1,vnm_of _ h2,h3,h4,h5⟩
theorem std_ins:stdM.ins.all insB = true := by decide +kernel
def insD:Ins := ⟨0,⟨#[]⟩,0,[]⟩
theorem std_order:(List.range (stdM.ins.length - 1)).all (fun i => decide ((stdM.ins.getD i insD).op < (stdM.ins.getD (i + 1) insD).op)) = true := by decide +kernel
def keyI (x:Ins):List Nat×Int := (x.name.data.toList.map (·.toNat),x.mode)
theorem std_once:(stdM.ins.map keyI).Nodup := by decide +kernel
theorem std_v:VCpu stdM:=by
 refine ⟨vnm_of _ (by decide +kernel),by decide +kernel,fun x hx => ins_of x (List.all_eq_true.1 std_ins x hx),?_,?_,by decide +kernel,by decide +kernel,by decide +kernel⟩
 ·intro i h
  have h1 := List.all_eq_true.1 std_order i (List.mem_range.2 (by omega))
  have h1 := of_decide_eq_true h1
  rw [List.getD_eq_getElem?_getD,List.getD_eq_getElem?_getD,List.getElem?_eq_getElem (by omega),List.getElem?_eq_getElem h] at h1
  exact h1
 ·intro i j h hij ⟨e1,e2⟩
  have h1 := List.pairwise_iff_getElem.1 std_once i j (by rw [List.length_map]; omega) (by rw [List.length_map]; exact h) hij
  rw [List.getElem_map,List.getElem_map] at h1
  exact h1 (by unfold keyI; rw [e1,e2])
theorem src_v:∀ j:Nat,j < 5→6 < (chipN j ++ sIrq).size∧(chipN j ++ sIrq).size ≤ 1000∧firstIdx (chipN j ++ sIrq) 46 = 6∧(chipN j ++ sIrq) ≠ ⟨#[46]⟩∧(chipN j ++ sIrq).extract 0 6 = chipN j∧(chipN j ++ sIrq).extract (6 + 1) (chipN j ++ sIrq).size = ⟨#[105,114,113]⟩ := by decide +kernel
theorem src_inj:∀ j:Nat,j < 5→∀ k:Nat,k < j→chipN k ++ sIrq ≠ chipN j ++ sIrq := by decide +kernel
structure WInv (i:Nat) (cs:List Chp) (ws:List Wir):Prop where
 len:cs.length = i + 1
 num:ws.length ≤ i
 wr:∀ w ∈ ws,∃ j,j < i∧w = ⟨chipN j ++ sIrq,sCpuIrq⟩∧∃ c,cs[j + 1]? = some c∧(c.kind = 3∨c.kind = 5∨c.kind = 8)
 pw:ws.Pairwise fun a b => a.src ≠ b.src
theorem goBd_wires:∀ (n i:Nat) (a:Int) (cs:List Chp) (ws:List Wir) (l:List Int),i + n ≤ 4→WInv i cs ws→WInv (i + n) (goBd n i a cs ws l).1 (goBd n i a cs ws l).2.1:=by
 intro n
 induction n with
 | zero => intro i a cs ws l _ h; exact h
 | succ n ih =>
  intro i a cs ws l hn h
  unfold goBd
  generalize kdN (sval l 8).toNat = k at *
  have hc:(stepBd k i a (srest l 8)).1.kind = k := rfl
  have hw:(stepBd k i a (srest l 8)).2.1 = []∨((stepBd k i a (srest l 8)).2.1 = [⟨chipN i ++ sIrq,sCpuIrq⟩]∧((k:Int) = 3∨(k:Int) = 5∨(k:Int) = 8)):=by
   show (wirB k (chipN i) _).1 = []∨((wirB k (chipN i) _).1 = _∧_)
   unfold wirB
   by_cases h1:k = 3∨k = 5∨k = 8
   ·rw [if_pos h1]
    dsimp only
    split
    ·exact .inr ⟨rfl,by omega⟩
    ·exact .inl rfl
   ·rw [if_neg h1]; exact .inl rfl
  generalize (stepBd k i a (srest l 8)).1 = c at *
  generalize (stepBd k i a (srest l 8)).2.1 = nw at *
  rw [show i + (n + 1) = i + 1 + n by omega]
  apply ih _ _ _ _ _ (by omega)
  have old:∀ w ∈ ws,∃ j,j < i + 1∧w = ⟨chipN j ++ sIrq,sCpuIrq⟩∧∃ c',(cs ++ [c])[j + 1]? = some c'∧(c'.kind = 3∨c'.kind = 5∨c'.kind = 8) := fun w hw => by
   obtain ⟨j,h1,h2,c',h3,h4⟩ := h.wr w hw
   exact ⟨j,by omega,h2,c',by rw [List.getElem?_append_left (by rw [h.len]; omega)]; exact h3,h4⟩
  rcases hw with hw | ⟨hw,hk⟩
  ·subst hw
   rw [List.append_nil]
   exact ⟨by rw [List.length_append,h.len]; rfl,by have := h.num; omega,old,h.pw⟩
  ·subst hw
   refine ⟨by rw [List.length_append,h.len]; rfl,by have := h.num; rw [List.length_append,List.length_singleton]; omega,?_,?_⟩
   ·intro w hw
    rcases List.mem_append.1 hw with hw | hw
    ·exact old w hw
    ·simp only [List.mem_singleton] at hw; subst hw
     exact ⟨i,by omega,rfl,c,by rw [← h.len]; simp,by rw [hc]; exact hk⟩
   ·rw [List.pairwise_append]
    refine ⟨h.pw,List.pairwise_singleton ..,fun x hx y hy => ?_⟩
    simp only [List.mem_singleton] at hy; subst hy
    obtain ⟨j,h1,h2,_⟩ := h.wr x hx
    subst h2
    exact src_inj i (by omega) j h1
theorem mkBrd_wires (l:List Int):∃ n,n ≤ 4∧(mkBrd l).chips.length = n + 2∧(mkBrd l).wires.length ≤ n∧(∀ w ∈ (mkBrd l).wires,∃ j,j < n∧w = ⟨chipN j ++ sIrq,sCpuIrq⟩∧∃ c,(mkBrd l).chips[j + 1]? = some c∧c.name = chipN j∧(c.kind = 3∨c.kind = 5∨c.kind = 8))∧(mkBrd l).wires.Pairwise fun a b => a.src ≠ b.src:=by
 have r := sval_range l 5 (by decide)
 have h := goBd_wires (sval l 5).toNat 0 57344 [ramC] [] (srest l 5) (by omega) ⟨rfl,Nat.zero_le _,fun w hw => absurd hw (by simp),List.Pairwise.nil⟩
 obtain ⟨a',_,h2⟩ := goBd_place (sval l 5).toNat 0 57344 [ramC] [] (srest l 5) (by omega) (by decide) ⟨rfl,by
  intro c hc; simp only [List.mem_singleton] at hc; subst hc; decide,fun j k h hjk => absurd h (by simp; omega),fun j h => by
   have:j = 0 := by simp at h; omega
   subst this; rfl⟩
 rw [Nat.zero_add] at h h2
 refine ⟨(sval l 5).toNat,by omega,?_,h.num,?_,h.pw⟩
 ·show ((goBd (sval l 5).toNat 0 57344 [ramC] [] (srest l 5)).1 ++ [_]).length = _
  rw [List.length_append,h.len]; rfl
 ·intro w hw
  obtain ⟨j,h1,h3,c,h4,h5⟩ := h.wr w hw
  refine ⟨j,h1,h3,c,?_,?_,h5⟩
  ·show ((goBd (sval l 5).toNat 0 57344 [ramC] [] (srest l 5)).1 ++ [_])[j + 1]? = _
   rw [List.getElem?_append_left (by rw [h.len]; omega)]; exact h4
  ·obtain ⟨hj,e⟩ := List.getElem?_eq_some_iff.1 h4
   rw [← e,h2.names (j + 1) hj,if_neg (by omega)]; rfl
theorem mkBrd_v (l:List Int):VBoard (mkBrd l):=by
 obtain ⟨hv,hn2,hn6⟩ := mkBrd_kinds l
 obtain ⟨hpl,hap⟩ := mkBrd_places l
 obtain ⟨n,h1,h2,h3,_⟩ := mkBrd_wires l
 exact ⟨vnm_of _ (by show vnmB ⟨#[98,111,97,114,100]⟩ = true; decide +kernel),std_v,by omega,hv,hpl,fun i j h hij => (hap i j h hij).1,by omega⟩
end Go.Proofs.YtonhglhdlgbcnacGreat.Calc
namespace Go.Proofs.YtonhglhdlgbcnacGreat.Calc
open Go Code
set_option linter.unusedSimpArgs false
set_option linter.unusedVariables false
set_option maxRecDepth 20000
set_option maxHeartbeats 4000000
attribute [local irreducible] WOpsT AW AK RK AKW UK UC
theorem ixW_ok (l:List Wir) (w:Wir) (hl:l.length ≤ 256) (hn:∀ x ∈ l,x.src ≠ w.src):FnE Tryz.prog 102 [.sl 2 (l.map wiV),.agg (wiV w)] [] (I (-1)) []:=by
 obtain ⟨w1,w2⟩ := w
 dsimp only [wiV] at hn ⊢
 refine N.fnC Tryz.func102 k102 fun Q hQ hQN => ?_
 repeat' (first | rw [List.length_map] | exact ⟨⟩ | intro (K:KT) hK | intro hcd | (refine go1 ?_ ?_ <;> try clear hK K) | fail)
 refine N.loop (σ := Nat) (fun j => [(0,.sl 2 (l.map wiV)),(3,.ptr 0 1 0 0),(7,I l.length),(8,I j)]) (fun j => [⟨1,2,[[.c (.string w1),.c (.string w2)]]⟩]) (fun j => j ≤ l.length) (fun j => l.length - j) 0 (Nat.zero_le _) (by exact .G [0] 1) fun j hj R hC => ?_
 by_cases hjl:j < l.length
 ·have hm := mget wiV l j hjl
  have h1 := hn _ (List.getElem_mem hjl)
  generalize l[j] = x at *
  obtain ⟨x1,x2⟩ := x
  dsimp only [wiV] at hm h1
  have h2:¬ w1 = x1 := fun h => h1 h.symm
  repeat' (first | refine rI hm ?_ | (show WOpsT _ (⟨_,.eqs _ _ _ _,none⟩ :: _) _ _ _ _; refine T.eqs (b := false) rfl rfl (by simp [eqLv,eqC,h2]) ?_) | exact ⟨⟩ | intro (K:KT) hK | intro hcd | (refine go1 ?_ ?_ <;> try clear hK K) | fail)
  all_goals first | exact hC _ _ (j + 1) (by omega) (by omega) (by exact .G [0] 1) | trace_state
 ·obtain rfl:j = l.length := by omega
  repeat' (first | exact ⟨⟩ | intro (K:KT) hK | intro hcd | (refine go1 ?_ ?_ <;> try clear hK K) | fail)
  exact WS.c rfl rfl
theorem ctW_ok (l:List Wir) (w:Wir) (hl:l.length ≤ 256) (hn:∀ x ∈ l,x.src ≠ w.src):FnE Tryz.prog 48 [.sl 2 (l.map wiV),.agg (wiV w)] [] (.c (.bool false)) []:=by
 have hx := ixW_ok l w hl hn
 obtain ⟨w1,w2⟩ := w
 dsimp only [wiV] at hx ⊢
 refine N.fnC Tryz.func48 k48 fun Q hQ hQN => ?_
 repeat' (first | refine T.call0 e102 rfl hx ?_ | exact ⟨⟩ | intro (K:KT) hK | intro hcd | (refine go1 ?_ ?_ <;> try clear hK K) | fail)
 all_goals first | exact WS.bool rfl (by decide) | exact WS.c rfl rfl
theorem mkcheck_ok (l:List Int):FnE Tryz.prog 19 [.agg (boV (mkBrd l))] [] (I 0) []:=by
 obtain ⟨n,h1,h2,h3,h4,h5⟩ := mkBrd_wires l
 have hap := (mkBrd_places l).2
 refine bcheck_ok _ (mkBrd_v l) (fun w hw => ?_) (fun i hi => ?_)
 ·obtain ⟨j,g1,g2,c,g3,g4,g5⟩ := h4 w hw
  obtain ⟨q1,q2,q3,q4,q5,q6⟩ := src_v j (by omega)
  obtain ⟨hj,e⟩ := List.getElem?_eq_some_iff.1 g3
  have hs:w.src = chipN j ++ sIrq := by rw [g2]
  refine wire_ok (mkBrd l) w (chipN j) 6 (j + 1) ?_ ?_ ?_ ?_ ?_ ?_ ?_ hj ?_ ?_ ?_ ?_
  ·rw [hs]; exact q1
  ·rw [hs]; exact q2
  ·rw [hs]; exact q4
  ·rw [hs]; exact q3
  ·rw [hs]; exact q5
  ·rw [hs]; exact q6
  ·rw [g2]
  ·rw [e]; exact g4
  ·intro k hk hkl
   rw [← g4,← e]
   exact (hap k (j + 1) hj hk).1.1
  ·omega
  ·rw [e]; exact g5
 ·refine ctW_ok _ _ (by rw [List.length_take]; omega) fun x hx => ?_
  obtain ⟨k,hk,rfl⟩ := List.getElem_of_mem hx
  rw [List.length_take] at hk
  rw [List.getElem_take]
  exact List.pairwise_iff_getElem.1 h5 k i (by omega) hi (by omega)
theorem machines_go (B:Brd) (ds:List Dv) (hlen:ds.length = B.chips.length) (hbd:FnE Tryz.prog 5 [.c (.slice none 0 0)] [] (.agg (boV B)) []) (hnew:FnE Tryz.prog 8 [.agg (boV B)] [] (.tup [.agg (maV 0 rstR 258 0 false ds 0 0 0),I 0]) []) (hs:FnE Tryz.prog 12 [.agg (maV 0 rstR 258 0 false ds 0 0 0),.agg (maV 0 rstR 258 0 false ds 0 0 0)] [] (.c (.bool true)) []):FnE Tryz.prog 11 [] [] (.c (.bool true)) []:=by
 obtain ⟨bn,⟨nm,ins,r1,r2,r3⟩,cs,ws⟩ := B
 dsimp only at hlen
 unfold boV cpC at hbd hnew
 dsimp only [List.cons_append,List.nil_append,maV] at hbd hnew hs
 generalize rstR = r at *
 have z1:spl [V.c (.string ⟨#[]⟩),.c (.string ⟨#[]⟩),.c (.slice none 0 0),.c (.slice none 0 0),.c (.slice none 0 0),.c (.slice none 0 0),.c (.slice none 0 0),.c (.slice none 0 0)] 0 [V.c (.string bn),.c (.string nm),.sl 4 (ins.map inC),.sl 4 (r1.map cyC),.sl 4 (r2.map cyC),.sl 4 (r3.map cyC),.sl 5 (cs.map chV),.sl 2 (ws.map wiV)] = [V.c (.string bn),.c (.string nm),.sl 4 (ins.map inC),.sl 4 (r1.map cyC),.sl 4 (r2.map cyC),.sl 4 (r3.map cyC),.sl 5 (cs.map chV),.sl 2 (ws.map wiV)] := rfl
 have z2:List.take 8 [V.c (.string bn),.c (.string nm),.sl 4 (ins.map inC),.sl 4 (r1.map cyC),.sl 4 (r2.map cyC),.sl 4 (r3.map cyC),.sl 5 (cs.map chV),.sl 2 (ws.map wiV)] = [V.c (.string bn),.c (.string nm),.sl 4 (ins.map inC),.sl 4 (r1.map cyC),.sl 4 (r2.map cyC),.sl 4 (r3.map cyC),.sl 5 (cs.map chV),.sl 2 (ws.map wiV)] := rfl
 have z3:spl [I 0,I 0,I 0,I 0,I 0,I 0,I 0,I 0,I 0,I 0,I 0,I 0,.c (.bool false),.c (.slice none 0 0),I 0,I 0,I 0] 0 [I 0,I (r 0),I (r 1),I (r 2),I (r 3),I (r 4),I (r 5),I (r 6),I (r 7),I (r 8),I 258,I 0,.c (.bool false),.sl 2 (ds.map dvC),I 0,I 0,I 0] = [I 0,I (r 0),I (r 1),I (r 2),I (r 3),I (r 4),I (r 5),I (r 6),I (r 7),I (r 8),I 258,I 0,.c (.bool false),.sl 2 (ds.map dvC),I 0,I 0,I 0] := rfl
 have z4:List.take 17 [I 0,I (r 0),I (r 1),I (r 2),I (r 3),I (r 4),I (r 5),I (r 6),I (r 7),I (r 8),I 258,I 0,.c (.bool false),.sl 2 (ds.map dvC),I 0,I 0,I 0] = [I 0,I (r 0),I (r 1),I (r 2),I (r 3),I (r 4),I (r 5),I (r 6),I (r 7),I (r 8),I 258,I 0,.c (.bool false),.sl 2 (ds.map dvC),I 0,I 0,I 0] := rfl
 refine N.fnC Tryz.func11 k11 fun Q hQ hQN => ?_
 repeat' (first | rw [z1] | rw [z2] | rw [z3] | rw [z4] | rw [List.length_map] | rw [hlen] | (show WC _ _ _ _ _ _ _ _ _; first | refine T.call0 e5 rfl hbd ?_ | refine T.call0 e8 rfl hnew ?_ | refine T.call0 e12 rfl hs ?_) | exact ⟨⟩ | intro (K:KT) hK | intro hcd | (refine go1 ?_ ?_ <;> try clear hK K) | fail)
 all_goals first | exact WS.c rfl rfl | (exfalso; omega) | trace_state
theorem DvOk.sml {c:Chp} {d:Dv} (h:DvOk c d):SmlD d := h.small
theorem newDs_sml (l:List Int):∀ d ∈ (mkBrd l).chips.map newV,SmlD d:=by
 intro d hd
 obtain ⟨c,hc,rfl⟩ := List.mem_map.1 hd
 exact (newV_ok c ((mkBrd_kinds l).1 c hc)).1.sml
theorem mkNew_ok (l:List Int):FnE Tryz.prog 8 [.agg (boV (mkBrd l))] [] (.tup [.agg (maV 0 rstR 258 0 false ((mkBrd l).chips.map newV) 0 0 0),I 0]) []:=by
 obtain ⟨hv,hn2,hn6⟩ := mkBrd_kinds l
 exact machNew_ok _ hv (mkcheck_ok l) (by omega) (by omega)
theorem machines_ok:FnE Tryz.prog 11 [] [] (.c (.bool true)) []:=by
 obtain ⟨hv,hn2,hn6⟩ := mkBrd_kinds []
 exact machines_go (mkBrd []) _ (List.length_map ..) (FnE.arg0 (mkBrd_ok []) .nil) (mkNew_ok []) (msame_ok _ _ _ _ _ _ _ _ _ (newDs_sml []) (by rw [List.length_map]; omega))
end Go.Proofs.YtonhglhdlgbcnacGreat.Calc
namespace Go.Proofs.YtonhglhdlgbcnacGreat.Calc
open Go Code
set_option linter.unusedSimpArgs false
set_option linter.unusedVariables false
set_option maxRecDepth 20000
set_option maxHeartbeats 8000000
attribute [local irreducible] WOpsT AW AK RK AKW UK UC
theorem FnE.drop {P:Program} {f:FuncId} {args:List V} {h':List Blk} {r:V} (n:Nat) (hF:FnE P f args [] r h'):FnE P f args [] (out h' [] n r) []:=by
 intro X w ι vs H hsz hargs
 refine (hF X w ι vs H hsz hargs).mono ?_
 rintro e w' ⟨v,ι',rfl,H',hr,hFr,hR⟩
 obtain ⟨ι2,he,H2,hrel,hown⟩ := reindex H' [] (by simp) (by simp) n
 have hι:ι = [] := List.eq_nil_of_length_eq_zero H.len
 subst hι
 exact ⟨v,ι2,rfl,H2,hrel _ _ hr,⟨hFr.size,hFr.same,fun r hr => hFr.own r (hown r hr),hFr.os,hFr.tape,hFr.output⟩,Refs.nil _⟩
theorem stdM_sml':SmlP stdM:=by
 unfold SmlP SmlC
 decide +kernel
theorem mkMac_ok (l:List Int):MacOk (mkBrd l):=by
 obtain ⟨hv,hn2,hn6⟩ := mkBrd_kinds l
 obtain ⟨hpl,_⟩ := mkBrd_places l
 have hb := mkBrd_v l
 refine ⟨by omega,by omega,?_,?_,?_,stdM_sml'⟩
 ·have := hb.wnum; omega
 ·intro c hc
  have := (hb.places c hc).name.1
  omega
 ·intro c hc
  have h1 := (hv c hc).size
  have h2 := (hpl c hc).lo
  have h3 := (hpl c hc).hi
  omega
noncomputable def mac0 (l:List Int):Mac := ⟨0,⟨rstR,258,0,false⟩,(mkBrd l).chips.map newV,⟨0,0,0⟩⟩
theorem mac0_st (l:List Int):MacSt (mkBrd l) (mac0 l):=by
 obtain ⟨hv,hn2,hn6⟩ := mkBrd_kinds l
 refine ⟨⟨List.length_map ..,fun i h1 h2 => ?_⟩,Int.le_refl _,by show (0:Int) ≤ 1099511627776; decide⟩
 simp only [mac0,List.getElem_map]
 exact (newV_ok _ (hv _ (List.getElem_mem h1))).1
theorem mac0_new (l:List Int):FnE Tryz.prog 8 [.agg (boV (mkBrd l))] [] (.tup [.agg (maS (mac0 l)),I 0]) [] := mkNew_ok l
theorem maS_out (s:Mac) (n:Nat) (o x:V) (ho:∀ h,out h [] 1 o = o) (hx:∀ h,out h [] 1 x = x):out [⟨2,2,s.ds.map dvC⟩] [] 1 (.tup [.agg (maB s 0 2),o,x]) = .tup [.agg (maS s),o,x]:=by
 show V.tup [.agg (mrow _ _ _ _ _ (out _ [] 1 (.psl 0 2 0 s.ds.length)) _ _ _),out _ [] 1 o,out _ [] 1 x] = _
 rw [out_rowsK (f := dvC) rfl rfl (Nat.le_refl _),ho,hx]; rfl
theorem run_ok (l:List Int) (s:Mac) (ins:List Ev) (n:Nat) (hn:n ≤ 100000) (h:MacSt (mkBrd l) s) (hi:InsOk (mkBrd l) ins):FnE Tryz.prog 9 [.agg (boV (mkBrd l)),.agg (maS s),.sl 3 (ins.map evV),I n] [] (.tup [.agg (maS (runS (mkBrd l) ins s n)),.sl 3 ((runO (mkBrd l) ins s n).map evV),I 0]) []:=by
 have := FnE.drop 1 (runz_ok (mkBrd l) (mkMac_ok l) s ins n hn (by have := hi.len; omega) h (check_ok _ (mkMac_ok l) s ins h hi (mkcheck_ok l)))
 rw [maS_out _ 1 _ _ (fun _ => rfl) (fun _ => rfl)] at this
 exact this
theorem msameS (l:List Int) (s:Mac) (h:MacSt (mkBrd l) s):FnE Tryz.prog 12 [.agg (maS s),.agg (maS s)] [] (.c (.bool true)) [] :=
 msame_ok _ _ _ _ _ _ _ _ _ h.1.sml (by rw [h.1.1]; have := (mkMac_ok l).n12; omega)
theorem boV_zero (B:Brd):spl [V.c (.string ⟨#[]⟩),.c (.string ⟨#[]⟩),.c (.slice none 0 0),.c (.slice none 0 0),.c (.slice none 0 0),.c (.slice none 0 0),.c (.slice none 0 0),.c (.slice none 0 0)] 0 (boV B) = boV B := rfl
theorem boV_ren (B:Brd) (ks:List Nat):(boV B).map (ren ks) = boV B := rfl
theorem maS_zero (s:Mac):spl [I 0,I 0,I 0,I 0,I 0,I 0,I 0,I 0,I 0,I 0,I 0,I 0,.c (.bool false),.c (.slice none 0 0),I 0,I 0,I 0] 0 (maS s) = maS s := rfl
theorem maS_ren (s:Mac) (ks:List Nat):(maS s).map (ren ks) = maS s := rfl
theorem maS_t17 (s:Mac):(maS s).take 17 = maS s := rfl
theorem runS_t (B:Brd) (ins:List Ev) (s:Mac) (h:0 ≤ s.t):∀ n:Nat,s.t + n ≤ 1099511627776→(runS B ins s n).t = s.t + n:=by
 intro n
 induction n with
 | zero => intro _; exact (Int.add_zero _).symm
 | succ n ih =>
  intro hn
  show tNext (runS B ins s n).t = _
  rw [ih (by omega)]
  unfold tNext
  omega
theorem runn_ok (B:Brd) (hB:MacOk B) (s:Mac) (ins:List Ev) (hin:ins.length ≤ 100000) (h:MacSt B s) (hck:FnE Tryz.prog 22 [.agg (boV B),.agg (maS s),.sl 3 (ins.map evV)] [] (I 0) []):FnE Tryz.prog 9 [.agg (boV B),.agg (maS s),.sl 3 (ins.map evV),I 0] [] (.tup [.agg (maB s 0 2),.c (.slice none 0 0),I 0]) [⟨2,2,s.ds.map dvC⟩]:=by
 have hcp := copiesS B hB s h
 unfold maB maS at *
 refine N.fnC Tryz.func9 k9 fun Q hQ hQN => ?_
 repeat' (first | rw [mrow_ren] | rw [rows_ren] | rw [mrow_all] | rw [mrow_zero] | rw [mrow_t17] | rw [boV_t8] | (show WC _ _ _ _ _ _ _ _ _; first | refine T.call0 e22 rfl hck ?_ | refine T.callN e23 rfl (hcp) (by simp) ?_) | exact ⟨⟩ | intro (K:KT) hK | intro hcd | (refine go1 ?_ ?_ <;> try clear hK K) | fail)
 all_goals first | (exfalso; omega) | skip
 refine N.loop (σ := Unit) (fun i => [(2,.sl 3 (ins.map evV)),(4,.ptr 0 1 0 0),(5,.ptr 1 1 0 0),(8,.ptr 2 1 0 0),(12,.c (.slice none 0 0)),(31,I 0),(32,I 0)]) (fun i => [⟨1,8,[boV B]⟩,⟨1,17,[mrow s.t s.k.r s.k.op s.k.a s.k.nmi (.psl 3 2 0 s.ds.length) s.bus.d s.bus.addr s.bus.data]⟩,⟨1,17,[[I 0,I 0,I 0,I 0,I 0,I 0,I 0,I 0,I 0,I 0,I 0,I 0,.c (.bool false),.c (.slice none 0 0),I 0,I 0,I 0]]⟩,⟨2,2,s.ds.map dvC⟩]) (fun i => True) (fun i => 0) () trivial (Weaks.sel (by exact sB) rfl) fun i hi R hC => ?_
 repeat' (first | rw [mrow_all] | rw [mrow_zero] | rw [mrow_t17] | exact ⟨⟩ | intro (K:KT) hK | intro hcd | (refine go1 ?_ ?_ <;> try clear hK K) | fail)
 exact WS.gc [3] 1 rfl (by show [_] = [outB _ [3] 1 ⟨2,2,s.ds.map dvC⟩]; rw [outB_flat]) .rfl
noncomputable def quickK (B:Brd) (ins:List Ev) (s:Mac) (n:Int):Int := min (min n (safeN B.chips s.ds B.chips.length)) (calmN s.t ins 100000)
noncomputable def quickG (B:Brd) (ins:List Ev) (s:Mac) (n:Int):Nat×Core×List Dv×Bus := glG B (lineM B s.ds) (quickK B ins s n).toNat s.k s.ds s.bus
theorem quickG_run {B:Brd} {ins:List Ev} {s:Mac} (h:MacSt B s) {n:Int} (hn:0 ≤ n) (hT:s.t + n ≤ 1099511627776):0 ≤ quickK B ins s n∧quickK B ins s n ≤ n∧quickK B ins s n ≤ 100000∧((quickG B ins s n).1:Int) ≤ n∧GlI B ins s (quickG B ins s n).1 (quickG B ins s n).2.1 (quickG B ins s n).2.2.1 (quickG B ins s n).2.2.2:=by
 have h1 := safeN_r h.1 B.chips.length
 have h2 := calmN_r s.t ins 100000 (by omega)
 have h0:0 ≤ quickK B ins s n∧quickK B ins s n ≤ n∧quickK B ins s n ≤ 100000∧quickK B ins s n ≤ safeN B.chips s.ds B.chips.length∧quickK B ins s n ≤ calmN s.t ins 100000 := by unfold quickK; omega
 have := glG_run (B := B) (ins := ins) (s := s) h (K := (quickK B ins s n).toNat) (fun i c d hc hd => by
  have hi:i < B.chips.length := (List.getElem?_eq_some_iff.1 hc).1
  have := safeN_le B.chips.length i hi c d hc hd
  omega) (fun x hx => by
  by_cases ht:s.t ≤ x.at_
  ·have := calmN_le s.t ins 100000 (by omega) x hx ht
   omega
  ·omega) (by omega) (quickK B ins s n).toNat 0 s.k s.ds s.bus (by omega) ⟨by
   show s = _
   rw [skL_zero h.1]
   obtain ⟨t,k,ds,b⟩ := s
   simp,rfl,h.1,fun i c hc hm => rfl⟩
 rw [Nat.zero_add] at this
 refine ⟨h0.1,h0.2.1,h0.2.2.1,?_,this.2⟩
 have := this.1
 unfold quickG
 omega
theorem quickrun_ok (B:Brd) (hB:MacOk B) (s:Mac) (ins:List Ev) (n:Nat) (hn:n ≤ 5000) (hin:ins.length ≤ 500) (hr:∀ x ∈ ins,0 ≤ x.at_∧x.at_ ≤ 1000000) (h:MacSt B s) (hT:s.t + n ≤ 1099511627776) (hck:FnE Tryz.prog 22 [.agg (boV B),.agg (maS s),.sl 3 (ins.map evV)] [] (I 0) []):FnE Tryz.prog 10 [.agg (boV B),.agg (maS s),.sl 3 (ins.map evV),I n] [] (.tup [.agg (maB (runS B ins s n) 0 2),.sl 3 ((runO B ins s n).map evV),I 0]) [⟨2,2,(runS B ins s n).ds.map dvC⟩]:=by
 have hcp := runn_ok B hB s ins (by omega) h hck
 have hn12 := hB.n12
 have hl := h.1.1
 unfold maB maS at *
 rw [hl] at hcp
 have hmin:min (n:Int) 0 = 0 := by omega
 refine N.fnC Tryz.func10 k10 fun Q hQ hQN => ?_
 repeat' (first | rw [hmin] | rw [mrow_ren] | rw [rows_ren] | rw [mrow_all] | rw [mrow_zero] | rw [mrow_t17] | rw [boV_t8] | refine T.callN e9 rfl (hcp) (by simp) ?_ | exact ⟨⟩ | intro (K:KT) hK | intro hcd | (refine go1 ?_ ?_ <;> try clear hK K) | fail)
 all_goals first | (exfalso; omega) | skip
 refine N.loop (σ := Nat×Nat) (fun w => [(2,.sl 3 (ins.map evV)),(3,I ((n:Int) - w.1)),(4,.ptr 0 1 0 0),(5,.ptr 1 1 0 0),(8,.ptr 2 1 0 0),(11,.psl 4 (w.2 + 1) 0 (runO B ins s w.1).length)]) (fun w => [⟨1,8,[boV B]⟩,⟨1,17,[mrow (runS B ins s w.1).t (runS B ins s w.1).k.r (runS B ins s w.1).k.op (runS B ins s w.1).k.a (runS B ins s w.1).k.nmi (.psl 3 2 0 B.chips.length) (runS B ins s w.1).bus.d (runS B ins s w.1).bus.addr (runS B ins s w.1).bus.data]⟩,⟨1,17,[[I 0,I 0,I 0,I 0,I 0,I 0,I 0,I 0,I 0,I 0,I 0,I 0,.c (.bool false),.c (.slice none 0 0),I 0,I 0,I 0]]⟩,⟨2,2,(runS B ins s w.1).ds.map dvC⟩,⟨w.2 + 1,3,(runO B ins s w.1).map evV⟩]) (fun w => w.1 ≤ n) (fun w => n - w.1) (0,0) (Nat.zero_le _) (Weaks.nilAs 11 3 (by decide) rfl (Weaks.sel (by dsimp only; rw [show (n:Int) - ((0:Nat):Int) = n by omega]; exact (by exact sB)) rfl)) fun w hw R hC => ?_
 obtain ⟨j,v⟩ := w
 dsimp only at hw hC ⊢
 by_cases hjn:j < n
 ·have hs1 := runS_st B ins s h j
  have ht1 := runS_t B ins s h.2.1 j (by omega)
  obtain ⟨hk0,hk1,hk2,hk3,hg1,hg2,hg3,hg4⟩ := quickG_run (ins := ins) hs1 (n := (n:Int) - j) (by omega) (by omega)
  have hsf := safe_ok B hB (runS B ins s j).t (runS B ins s j).k.r (runS B ins s j).k.op (runS B ins s j).k.a (runS B ins s j).k.nmi 2 (runS B ins s j).ds (runS B ins s j).bus.d (runS B ins s j).bus.addr (runS B ins s j).bus.data hs1.1
  have hcm := calm_ok (runS B ins s j).t hs1.2 (runS B ins s j).k.r (runS B ins s j).k.op (runS B ins s j).k.a (runS B ins s j).k.nmi (runS B ins s j).bus.d (runS B ins s j).bus.addr (runS B ins s j).bus.data ins hin hr
  have hgl := glide_ok B hB (runS B ins s j).t (runS B ins s j).k 2 (runS B ins s j).ds (runS B ins s j).bus (quickK B ins (runS B ins s j) ((n:Int) - j)).toNat (by omega) hs1.1 (lineM B (runS B ins s j).ds) rfl _ rfl
  have hKK:min (min ((n:Int) - j) (safeN B.chips (runS B ins s j).ds B.chips.length)) (calmN (runS B ins s j).t ins 100000) = (((quickK B ins (runS B ins s j) ((n:Int) - j)).toNat:Nat):Int):=by
   rw [Int.toNat_of_nonneg hk0]; rfl
  have hG:glG B (lineM B (runS B ins s j).ds) (quickK B ins (runS B ins s j) ((n:Int) - j)).toNat (runS B ins s j).k (runS B ins s j).ds (runS B ins s j).bus = quickG B ins (runS B ins s j) ((n:Int) - j) := rfl
  rw [hG] at hgl
  have hrS:runS B ins s (j + (quickG B ins (runS B ins s j) ((n:Int) - j)).1) = _ := (runS_add B ins s j _).trans hg1
  have hrO:runO B ins s (j + (quickG B ins (runS B ins s j) ((n:Int) - j)).1) = runO B ins s j := by rw [runO_add,hg2,List.append_nil]
  have nx := fun fr h i w h1 => hC fr h (i,w) h1
  dsimp only at nx
  clear hC hg1 hg2 hG hg4
  have hol := runO_len B ins s j
  have hl1 := hs1.1.1
  generalize quickG B ins (runS B ins s j) ((n:Int) - j) = GG at *
  generalize (quickK B ins (runS B ins s j) ((n:Int) - j)).toNat = K at *
  generalize safeN B.chips (runS B ins s j).ds B.chips.length = sN at *
  generalize calmN (runS B ins s j).t ins 100000 = cN at *
  generalize runS B ins s j = s1 at *
  generalize hE:runO B ins s j = E at *
  obtain ⟨t1,⟨r1,op1,a1,b1⟩,ds1,⟨x1,y1,z1⟩⟩ := s1
  obtain ⟨k,⟨r2,op2,a2,b2⟩,ds2,⟨x2,y2,z2⟩⟩ := GG
  dsimp only at *
  rw [hl1] at hsf
  repeat' (first | refine T.min3 rfl rfl rfl ?_ | rw [hKK] | rw [mrow_ren] | rw [rows_ren] | rw [mrow_t17] | rw [boV_t8] | (show WC _ _ _ _ _ _ _ _ _; first | refine T.callQ [3] e26 rfl (hsf) (by exact pA) rfl rfl rfl (by exact rN) ?_ | refine T.call0 e27 rfl hcm ?_ | refine T.cP [1,3] e25 (hgl) ?_) | exact ⟨⟩ | intro (K:KT) hK | intro hcd | (refine go1 ?_ ?_ <;> try clear hK K) | fail)
  have hld := hg3.1
  have ht0:0 ≤ t1∧t1 ≤ 1099511627776 := hs1.2
  have hls:(skL B.chips k ds2).length = ds2.length := by rw [skL_len hld,hld]
  rw [List.length_map]
  refine N.loop (σ := Nat) (fun i => [(2,.sl 3 (ins.map evV)),(3,I ((n:Int) - j)),(4,.ptr 0 1 0 0),(5,.ptr 1 1 0 0),(8,.ptr 2 1 0 0),(11,.psl 4 (v + 1) 0 E.length),(13,I k),(50,.sl 5 (B.chips.map chV)),(51,I B.chips.length),(52,I i)]) (fun i => [⟨1,8,[boV B]⟩,⟨1,17,[mrow t1 r2 op2 a2 b2 (.psl 3 2 0 B.chips.length) x2 y2 z2]⟩,⟨1,17,[[I 0,I 0,I 0,I 0,I 0,I 0,I 0,I 0,I 0,I 0,I 0,I 0,.c (.bool false),.c (.slice none 0 0),I 0,I 0,I 0]]⟩,⟨2,2,(mix (skL B.chips k ds2) ds2 i).map dvC⟩,⟨v + 1,3,E.map evV⟩]) (fun i => i ≤ B.chips.length) (fun i => B.chips.length - i) 0 (Nat.zero_le _) (Weaks.sel (by exact sB) (by rw [mix_0])) fun i hi R2 hC2 => ?_
  by_cases hil:i < B.chips.length
  ·have hm := mget chV B.chips i hil
   have hi4:i < ds2.length := by omega
   have hi5:i < (skL B.chips k ds2).length := by omega
   have hd := dev_get (ds := mix (skL B.chips k ds2) ds2 i) (i := i) (by rw [mix_len hls]; exact hi4) (mix_get hls hi4)
   have hst:((mix (skL B.chips k ds2) ds2 i).map dvC).set (i:Int).toNat (dvC (skL B.chips k ds2)[i]) = (mix (skL B.chips k ds2) ds2 (i + 1)).map dvC := by rw [← mix_set hls hi4,Int.toNat_natCast,List.map_set]
   have hsk := (chSkip_ok _ _ (hg3.2 i hil hi4) k (by omega)).2
   have hske:skipV B.chips[i] k ds2[i] = (skL B.chips k ds2)[i] := by simp only [skL,List.getElem_zipWith]
   rw [hske] at hsk
   have nx2 := fun fr h => hC2 fr h (i + 1) (by omega) (by omega)
   clear hC2 hske
   generalize mix (skL B.chips k ds2) ds2 (i + 1) = m2 at *
   generalize mix (skL B.chips k ds2) ds2 i = m1 at *
   generalize (skL B.chips k ds2)[i] = e at *
   generalize B.chips[i] = c at *
   generalize ds2[i] = d at *
   obtain ⟨cn,ck,cb,cs,cd⟩ := c
   obtain ⟨d1,d2⟩ := d
   obtain ⟨e1,e2⟩ := e
   dsimp only [chV,dvC] at hm hd hst hsk
   have hst2:(m1.map dvC).set (i:Int).toNat (spl [.sl 1 (cells d1),.sl 1 (bcells d2)] 0 [.sl 1 (cells e1),.sl 1 (bcells e2)]) = m2.map dvC := hst
   repeat' (first | refine rI hm ?_ | refine rL hd ?_ | refine rS hd ?_ | rw [hst2] | refine T.call0 e28 rfl hsk ?_ | exact ⟨⟩ | intro (K:KT) hK | intro hcd | (refine go1 ?_ ?_ <;> try clear hK K) | fail)
   exact nx2 _ _ (by exact .G [0,1,2,3,4] 1)
  ·obtain rfl:i = B.chips.length := by omega
   have hmt:min (t1 + (k:Int)) 1099511627776 = t1 + k := by omega
   have hme:mix (skL B.chips k ds2) ds2 B.chips.length = skL B.chips k ds2 := by rw [← hld]; exact mix_end hls
   rw [hme]
   clear hC2
   by_cases hz:j + k = n
   ·rw [hz] at hrS hrO
    have hl2 := (runS_st B ins s h n).1.1
    rw [hl2,hrO] at hQ hQN
    rw [hrS] at hQ hQN
    dsimp only at hQ hQN
    repeat' (first | rw [hmt] | rw [mrow_t] | rw [mrow_all] | rw [mrow_zero] | rw [mrow_t17] | exact ⟨⟩ | intro (K:KT) hK | intro hcd | (refine go1 ?_ ?_ <;> try clear hK K) | fail)
    all_goals first | (exfalso; omega) | skip
    exact WS.gc [3] 1 rfl (by show [_] = [outB _ [3] 1 ⟨2,2,(skL B.chips k ds2).map dvC⟩]; rw [outB_flat]) (by
     show Sub (.tup [.agg (mrow _ _ _ _ _ (out _ [3] 1 (.psl 3 2 0 _)) _ _ _),out _ [3] 1 (.psl 4 _ 0 _),I 0]) _
     rw [out_rowsK (f := evV) rfl rfl (Nat.le_refl _)]
     exact .rfl)
   ·have hs2 := runS_st B ins s h (j + k)
    have hcy := mcycle_ok B hB (runS B ins s (j + k)) ins (by omega) hs2
    have hs3 := (runS_st B ins s h (j + k + 1)).1.1
    have nx := fun fr h => nx fr h (j + k + 1) (v + 1) (by omega) (by omega)
    rw [show (n:Int) - ((j + k + 1:Nat):Int) = (n:Int) - j - k - 1 by omega] at nx
    have eO:runO B ins s (j + k + 1) = E ++ stepO B ins (runS B ins s (j + k)) := by rw [← hrO]; rfl
    rw [eO] at nx
    have eS:runS B ins s (j + k + 1) = stepM B ins (runS B ins s (j + k)) := rfl
    rw [eS] at nx hs3
    have hsl:(stepO B ins (runS B ins s (j + k))).length ≤ 12 := Nat.le_trans (evN_len _ _ _ _ _) hB.n12
    have hE2:E.length ≤ 60000:=by
     have := Nat.mul_le_mul hn12 (show j ≤ 5000 by omega)
     omega
    clear eO eS hs2
    generalize stepM B ins (runS B ins s (j + k)) = s3 at *
    generalize stepO B ins (runS B ins s (j + k)) = o3 at *
    rw [hrS] at hcy
    unfold maB maS at hcy
    rw [hs3] at hcy
    obtain ⟨t3,⟨r3,op3,a3,b3⟩,ds3,⟨x3,y3,z3⟩⟩ := s3
    dsimp only at hcy nx
    have hh:[⟨1,8,[boV B]⟩,⟨1,17,[mrow (t1 + k) r2 op2 a2 b2 (.sl 2 ((skL B.chips k ds2).map dvC)) x2 y2 z2]⟩,⟨1,17,[[I 0,I 0,I 0,I 0,I 0,I 0,I 0,I 0,I 0,I 0,I 0,I 0,.c (.bool false),.c (.slice none 0 0),I 0,I 0,I 0]]⟩,⟨v + 1,3,E.map evV⟩] = outH [⟨1,8,[boV B]⟩,⟨1,17,[mrow (t1 + k) r2 op2 a2 b2 (.psl 3 2 0 B.chips.length) x2 y2 z2]⟩,⟨1,17,[[I 0,I 0,I 0,I 0,I 0,I 0,I 0,I 0,I 0,I 0,I 0,I 0,.c (.bool false),.c (.slice none 0 0),I 0,I 0,I 0]]⟩,⟨2,2,(skL B.chips k ds2).map dvC⟩,⟨v + 1,3,E.map evV⟩] [0,1,2,4] 1:=by
     show [_,_,_,_] = [_,⟨1,17,[mrow (t1 + k) r2 op2 a2 b2 (out _ [0,1,2,4] 1 (.psl 3 2 0 B.chips.length)) x2 y2 z2]⟩,_,outB _ _ _ ⟨v + 1,3,E.map evV⟩]
     rw [out_rowsK (f := dvC) rfl rfl (by omega),outB_flat]; rfl
    repeat' (first | (show AKW _ _ (.seq (.reg (⟨some 82,_,_⟩ :: _) _) _) _ _ _ _; refine N.weak (fr1 := [(2,.sl 3 (ins.map evV)),(3,I ((n:Int) - j - k)),(4,.ptr 0 1 0 0),(5,.ptr 1 1 0 0),(8,.ptr 2 1 0 0),(11,.psl 3 (v + 1) 0 E.length)]) (Weaks.gc [0,1,2,4] 1 rfl (by exact sE) hh) ?_; refine N.now ?_) | rw [hmt] | rw [mrow_t] | rw [mrow_all] | rw [mrow_zero] | rw [mrow_t17] | rw [boV_t8] | rw [mrow_ren] | rw [rows_ren] | (show WOpsT _ (⟨_,.app _ _ _ _,none⟩ :: _) _ _ _ _; refine T.app rfl rfl rfl ⟨by decide,by decide⟩ ⟨rfl,rfl,by rw [List.length_map,Nat.zero_add],by simp; omega⟩ ?_) | refine T.callN e29 rfl (hcy) (by simp) ?_ | exact ⟨⟩ | intro (K:KT) hK | intro hcd | (refine go1 ?_ ?_ <;> try clear hK K) | fail)
    rw [List.length_map,← List.length_append,← List.map_append]
    exact nx _ _ (by exact .G [0,1,2,4,3] 1)
 ·obtain rfl:j = n := by omega
  have hl2 := (runS_st B ins s h j).1.1
  rw [hl2] at hQ hQN
  repeat' (first | rw [mrow_all] | rw [mrow_zero] | rw [mrow_t17] | exact ⟨⟩ | intro (K:KT) hK | intro hcd | (refine go1 ?_ ?_ <;> try clear hK K) | fail)
  exact WS.gc [3] 1 rfl (by show [_] = [outB _ [3] 1 ⟨2,2,(runS B ins s j).ds.map dvC⟩]; rw [outB_flat]) (by
   show Sub (.tup [.agg (mrow _ _ _ _ _ (out _ [3] 1 (.psl 3 2 0 _)) _ _ _),out _ [3] 1 (.psl 4 _ 0 _),I 0]) _
   rw [out_rowsK (f := evV) rfl rfl (Nat.le_refl _)]
   exact .rfl)
theorem runO_le (l:List Int) (ins:List Ev) (s:Mac) (n k:Nat) (h:n ≤ k):(runO (mkBrd l) ins s n).length ≤ 6 * k:=by
 have h1 := runO_len (mkBrd l) ins s n
 have h2 := (mkBrd_kinds l).2.2
 exact Nat.le_trans h1 (Nat.mul_le_mul h2 h)
theorem quick_ok (l:List Int) (s:Mac) (ins:List Ev) (n:Nat) (hn:n ≤ 5000) (h:MacSt (mkBrd l) s) (hi:InsOk (mkBrd l) ins) (hT:s.t + n ≤ 1099511627776):FnE Tryz.prog 10 [.agg (boV (mkBrd l)),.agg (maS s),.sl 3 (ins.map evV),I n] [] (.tup [.agg (maS (runS (mkBrd l) ins s n)),.sl 3 ((runO (mkBrd l) ins s n).map evV),I 0]) []:=by
 have := FnE.drop 1 (quickrun_ok (mkBrd l) (mkMac_ok l) s ins n hn hi.len hi.rng h hT (check_ok _ (mkMac_ok l) s ins h hi (mkcheck_ok l)))
 rw [maS_out _ 1 _ _ (fun _ => rfl) (fun _ => rfl)] at this
 exact this
theorem qsame_go (l inn:List Int) (n0:Int) (n:Nat) (hn:n0 % 500 = n) (B:Brd) (s0 s1:Mac) (ins o1:List Ev) (hm:FnE Tryz.prog 11 [] [] (.c (.bool true)) []) (hbd:FnE Tryz.prog 5 [.sl 1 (cells l)] [] (.agg (boV B)) []) (hin:FnE Tryz.prog 6 [.agg (boV B),.sl 1 (cells inn)] [] (.sl 3 (ins.map evV)) []) (hnew:FnE Tryz.prog 8 [.agg (boV B)] [] (.tup [.agg (maS s0),I 0]) [])
  (hr1:FnE Tryz.prog 9 [.agg (boV B),.agg (maS s0),.sl 3 (ins.map evV),I n] [] (.tup [.agg (maS s1),.sl 3 (o1.map evV),I 0]) [])
  (hq1:FnE Tryz.prog 10 [.agg (boV B),.agg (maS s0),.sl 3 (ins.map evV),I n] [] (.tup [.agg (maS s1),.sl 3 (o1.map evV),I 0]) [])
  (hsm:FnE Tryz.prog 12 [.agg (maS s1),.agg (maS s1)] [] (.c (.bool true)) []) (h1:o1.length ≤ 3000) (ht:s1.t = n):FnE Tryz.prog 3 [.sl 1 (cells l),.sl 1 (cells inn),I n0] [] (.c (.bool true)) []:=by
 have b1 := below_ok n0 500 (by decide) (by decide)
 rw [hn] at b1
 have heq := eqE_ok o1 (by omega)
 refine N.fnC Tryz.func3 k3 fun Q hQ hQN => ?_
 repeat' (first | rw [boV_zero] | rw [boV_t8] | rw [boV_ren] | rw [maS_zero] | rw [maS_ren] | rw [maS_t17] | (show WC _ _ _ _ _ _ _ _ _; first | refine T.call0 e5 rfl hbd ?_ | refine T.call0 e6 rfl hin ?_ | refine T.call0 e8 rfl hnew ?_ | refine T.call0 e7 rfl b1 ?_ | refine T.call0 e9 rfl hr1 ?_ | refine T.call0 e10 rfl hq1 ?_ | refine T.call0 e11 rfl hm ?_ | refine T.call0 e12 rfl hsm ?_ | refine T.call0 e13 rfl heq ?_) | exact ⟨⟩ | intro (K:KT) hK | intro hcd | (refine go1 ?_ ?_ <;> try clear hK K) | fail)
 rw [decide_eq_true ht]
 exact WS.c rfl rfl
theorem mac0_rt (l:List Int) (ins:List Ev) (n:Nat) (hn:n ≤ 10000):(runS (mkBrd l) ins (mac0 l) n).t = n:=by
 have e1:(mac0 l).t = 0 := rfl
 rw [runS_t _ _ _ (by rw [e1]; decide) _ (by rw [e1]; omega),e1]
 omega
theorem qsame_ok (l inn:List Int) (n0:Int):FnE Tryz.prog 3 [.sl 1 (cells l),.sl 1 (cells inn),I n0] [] (.c (.bool true)) []:=by
 obtain ⟨n,hn⟩:∃ n:Nat,n0 % 500 = n := ⟨(n0 % 500).toNat,by omega⟩
 have h0 := mac0_st l
 have e1:(mac0 l).t = 0 := rfl
 have hio := inpM_ok (mkBrd l) inn
 refine qsame_go l inn n0 n hn (mkBrd l) (mac0 l) _ _ _ machines_ok (mkBrd_ok l) (inputs_ok _ (mkMac_ok l) inn) (mac0_new l) (run_ok l _ _ n (by omega) h0 hio) (quick_ok l _ _ n (by omega) h0 hio (by rw [e1]; omega)) (msameS l _ (runS_st _ _ _ h0 n)) ?_ (mac0_rt l _ n (by omega))
 have := runO_le l (inpM (mkBrd l) inn) (mac0 l) n 500 (by omega); omega
end Go.Proofs.YtonhglhdlgbcnacGreat.Calc
