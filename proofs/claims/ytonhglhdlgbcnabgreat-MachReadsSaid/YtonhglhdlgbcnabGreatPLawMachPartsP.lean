/- Several texts in one (FnDo, FnCore, FnCoreB), for the proof of LawMachParts. No condition beyond those in each lemma. -/
import Derived.Test.YtonhglhdlgbcnabGreatPLawMachPartsO
import Derived.Test.YtonhglhdlgbcnabGreatPLawMachPartsN
import Derived.Test.YtonhglhdlgbcnabGreatPLawMachPartsF
import Derived.Test.YtonhglhdlgbcnabGreatPLawMachPartsD
namespace Go.Proofs.YtonhglhdlgbcnabGreat.Calc
open Go Code
set_option linter.unusedSimpArgs false
set_option linter.unusedVariables false
set_option maxRecDepth 20000
set_option maxHeartbeats 8000000
attribute [local irreducible] WOpsT AW AK RK AKW UK UC
theorem doX_ok (d t f n:Int) (r:Nat→Int) (hd:d < 1∨24 < d):FnE Tryz.prog 119 [.agg [I d,I t,I f,I n],.agg (ri r)] [] (.tup [.agg (ri (doR d t f n r).1),.c (.bool (doR d t f n r).2)]) []:=by
 have iT := index_ok t
 have iF := index_ok f
 have kF := Fit_ok r
 have hs:doR d t f n r = (fitR (fitR r),false):=by
  unfold doR midR
  repeat rw [if_neg (by omega)]
 rw [hs]
 refine N.fnC Tryz.func119 k119 fun Q hQ hQN => ?_
 repeat' (first | rw [ri_ren] | rw [ri_spl0] | rw [ri_splz] | (show WC _ _ _ _ _ _ _ _ _; first | refine T.call0 e159 rfl iT ?_ | refine T.call0 e159 rfl iF ?_ | refine T.call0 e111 rfl kF ?_ | refine T.call0 e111 rfl (Fit_ok _) ?_) | exact ⟨⟩ | intro (K:KT) hK | intro hcd | (refine go1 ?_ ?_ <;> try clear hK K) | fail)
 exact WS.drop (n := 0) rfl rfl
theorem do24_ok (t f n:Int) (r:Nat→Int):FnE Tryz.prog 119 [.agg [I 24,I t,I f,I n],.agg (ri r)] [] (.tup [.agg (ri (doR 24 t f n r).1),.c (.bool (doR 24 t f n r).2)]) []:=by
 have iT := index_ok t
 have iF := index_ok f
 have kF := Fit_ok r
 have hs:doR 24 t f n r = (fitR r,xor (decide (bits .and .i64 (fitR r 4) (n % 256) ≠ 0)) (decide (f = 1))) := rfl
 rw [hs]
 obtain ⟨q,hq⟩:∃ q,fitR r = q := ⟨_,rfl⟩
 rw [hq] at kF ⊢
 refine N.fnC Tryz.func119 k119 fun Q hQ hQN => ?_
 repeat' (first | rw [ri_ren] | rw [ri_spl0] | rw [ri_splz] | (show WC _ _ _ _ _ _ _ _ _; first | refine T.call0 e159 rfl iT ?_ | refine T.call0 e159 rfl iF ?_ | refine T.call0 e111 rfl kF ?_ | refine T.call0 e27 rfl (low8 _) ?_) | exact ⟨⟩ | intro (K:KT) hK | intro hcd | (refine go1 ?_ ?_ <;> try clear hK K) | fail)
 have e:decide (¬(bits .and .i64 (q 4) (n % 256) ≠ 0 ↔ f = 1)) = xor (decide (bits .and .i64 (q 4) (n % 256) ≠ 0)) (decide (f = 1)):=by
  by_cases h1:bits .and .i64 (q 4) (n % 256) ≠ 0 <;> by_cases h2:f = 1 <;> simp [h1,h2]
 rw [← e]
 exact WS.drop (n := 0) rfl rfl
theorem do_ok (d t f n:Int) (r:Nat→Int):FnE Tryz.prog 119 [.agg [I d,I t,I f,I n],.agg (ri r)] [] (.tup [.agg (ri (doR d t f n r).1),.c (.bool (doR d t f n r).2)]) []:=by
 by_cases hd:d < 1∨24 < d
 ·exact doX_ok d t f n r hd
 ·by_cases h24:d = 24
  ·subst h24; exact do24_ok t f n r
  by_cases h10:d = 10∨d = 11
  ·exact doI_ok d t f n r h10
  by_cases ha:d = 1∨d = 2∨d = 3∨d = 16∨d = 17∨d = 18
  ·exact doGa_ok d t f n r ha
  by_cases hb:d = 19∨d = 20∨d = 21∨d = 22∨d = 23
  ·exact doGb_ok d t f n r hb
  by_cases hc:d = 12∨d = 13∨d = 14∨d = 15
  ·exact doGd_ok d t f n r hc
  ·exact doGc_ok d t f n r (by omega)
end Go.Proofs.YtonhglhdlgbcnabGreat.Calc
namespace Go.Proofs.YtonhglhdlgbcnabGreat.Calc
open Go Code
set_option linter.unusedSimpArgs false
set_option linter.unusedVariables false
set_option maxRecDepth 20000
set_option maxHeartbeats 4000000
attribute [local irreducible] WOpsT AW AK RK AKW UK UC
theorem co_r (r q:Nat→Int) (op a:Int) (b:Bool):spl (coA r op a b) 0 (ri q) = coA q op a b := rfl
theorem co_op (r:Nat→Int) (op a v:Int) (b:Bool):spl (coA r op a b) 9 [I v] = coA r v a b := rfl
theorem co_at (r:Nat→Int) (op a v:Int) (b:Bool):spl (coA r op a b) 10 [I v] = coA r op v b := rfl
theorem co_nmi (r:Nat→Int) (op a:Int) (b v:Bool):spl (coA r op a b) 11 [.c (.bool v)] = coA r op a v := rfl
theorem co_mren (r:Nat→Int) (op a:Int) (b:Bool) (ks:List Nat):(coA r op a b).map (ren ks) = coA r op a b := rfl
theorem co_co (r r':Nat→Int) (op a op' a':Int) (b b':Bool):spl (coA r op a b) 0 (coA r' op' a' b') = coA r' op' a' b' := rfl
theorem co_t12 (r:Nat→Int) (op a:Int) (b:Bool):(coA r op a b).take 12 = coA r op a b := rfl
theorem co_t9 (r:Nat→Int) (op a:Int) (b:Bool):(coA r op a b).take 9 = ri r := rfl
theorem ri_t9 (r:Nat→Int):(ri r).take 9 = ri r := rfl
theorem cp_t5 (c:Cpu):(cpC c).take 5 = cpC c := rfl
theorem co_z (r:Nat→Int) (op a:Int) (b:Bool):spl [I 0,I 0,I 0,I 0,I 0,I 0,I 0,I 0,I 0,I 0,I 0,.c (.bool false)] 0 (coA r op a b) = coA r op a b := rfl
theorem cycM_at (c:Cpu) (op:Int) (i:Nat) (hi:i < c.ins.length) (h:∀ j,j < i→∀ hj:j < c.ins.length,c.ins[j].op ≠ op) (ho:c.ins[i].op = op) (hr:0 ≤ op∧op ≤ 255):cycM c op = c.ins[i].cy:=by
 unfold cycM
 rw [if_neg (by omega),if_neg (by omega),if_neg (by omega),if_pos hr,show c.ins.findIdx? (fun x => decide (x.op = op)) = some i from List.findIdx?_eq_some_iff_getElem.2 ⟨hi,by simpa using ho,fun j hj => by simpa using h j hj (by omega)⟩]
 simp only [List.getElem?_eq_getElem hi]
theorem cycM_none (c:Cpu) (op:Int) (hn:op ≠ 256∧op ≠ 257∧op ≠ 258) (h:∀ j,∀ hj:j < c.ins.length,c.ins[j].op ≠ op∨¬ (0 ≤ op∧op ≤ 255)):cycM c op = []:=by
 unfold cycM
 rw [if_neg hn.1,if_neg hn.2.1,if_neg hn.2.2]
 split
 ·rename_i hr
  rw [show c.ins.findIdx? (fun x => decide (x.op = op)) = none from List.findIdx?_eq_none_iff.2 fun x hx => by
   obtain ⟨j,hj,rfl⟩ := List.getElem_of_mem hx
   rcases h j hj with h | h
   ·simpa using h
   ·exact absurd hr h]
 ·rfl
theorem cycles_c (c:Cpu) (op:Int) (hl:c.ins.length ≤ 256):FnE Tryz.prog 120 [.agg (cpC c),I op] [] (.sl 4 ((cycM c op).map cyC)) []:=by
 refine N.fnC Tryz.func120 k120 fun Q hQ hQN => ?_
 by_cases h6:op = 256
 ·subst h6
  repeat' (first | exact ⟨⟩ | intro (K:KT) hK | intro hcd | (refine go1 ?_ ?_ <;> try clear hK K) | fail)
  exact WS.drop (n := 0) rfl rfl
 by_cases h7:op = 257
 ·subst h7
  repeat' (first | exact ⟨⟩ | intro (K:KT) hK | intro hcd | (refine go1 ?_ ?_ <;> try clear hK K) | fail)
  exact WS.drop (n := 0) rfl rfl
 by_cases h8:op = 258
 ·subst h8
  repeat' (first | exact ⟨⟩ | intro (K:KT) hK | intro hcd | (refine go1 ?_ ?_ <;> try clear hK K) | fail)
  exact WS.drop (n := 0) rfl rfl
 repeat' (first | rw [List.length_map] | exact ⟨⟩ | intro (K:KT) hK | intro hcd | (refine go1 ?_ ?_ <;> try clear hK K) | fail)
 refine N.loop (σ := Nat) (fun i => [(1,I op),(21,.sl 4 (c.ins.map inC)),(22,I c.ins.length),(23,I i)]) (fun i => []) (fun i => i ≤ c.ins.length∧∀ j,j < i→∀ hj:j < c.ins.length,c.ins[j].op ≠ op∨¬ (0 ≤ op∧op ≤ 255)) (fun i => c.ins.length - i) 0 ⟨by omega,fun j hj => absurd hj (by omega)⟩ (by exact .G [] 1) fun i hi R hC => ?_
 obtain ⟨hi,hn⟩ := hi
 by_cases hil:i < c.ins.length
 ·have hm := mget inC c.ins i hil
  obtain ⟨x,hx⟩:∃ x,c.ins[i] = x := ⟨_,rfl⟩
  have hx2 := hx
  rw [hx] at hm
  obtain ⟨o,s,m,cy⟩ := x
  by_cases hf:o = op∧0 ≤ op∧op ≤ 255
  ·have hc := cycM_at c op i hil (fun j hj hjl => by
    rcases hn j hj hjl with h | h
    ·exact h
    ·exact absurd hf.2 h) (by rw [hx]; exact hf.1) hf.2
   rw [hx] at hc
   rw [hc] at hQ hQN
   repeat' (first | refine rI hm ?_ | exact ⟨⟩ | intro (K:KT) hK | intro hcd | (refine go1 ?_ ?_ <;> try clear hK K) | fail)
   all_goals first | exact WS.drop (n := 0) rfl rfl | (exfalso; omega)
  ·have hd:∀ j,j < i + 1→∀ hj:j < c.ins.length,c.ins[j].op ≠ op∨¬ (0 ≤ op∧op ≤ 255):=by
    intro j hj hjl
    by_cases hji:j = i
    ·subst hji
     rw [hx]
     by_cases h1:o = op
     ·exact .inr fun h => hf ⟨h1,h⟩
     ·exact .inl h1
    ·exact hn j (by omega) hjl
   repeat' (first | refine rI hm ?_ | exact ⟨⟩ | intro (K:KT) hK | intro hcd | (refine go1 ?_ ?_ <;> try clear hK K) | fail)
   all_goals first | exact hC _ _ (i + 1) ⟨by omega,hd⟩ (by omega) (by exact .G [] 1) | (exfalso; omega)
 ·obtain rfl:i = c.ins.length := by omega
  rw [cycM_none c op ⟨h6,h7,h8⟩ fun j hj => hn j hj hj] at hQ hQN
  repeat' (first | exact ⟨⟩ | intro (K:KT) hK | intro hcd | (refine go1 ?_ ?_ <;> try clear hK K) | fail)
  exact WS.nil
theorem doing_some (c:Cpu) (r:Nat→Int) (op a:Int) (b:Bool) (hl:c.ins.length ≤ 256) (x:Cyc) (hx:doingM c op a = some x):FnE Tryz.prog 114 [.agg (cpC c),.agg (coA r op a b)] [] (.tup [.agg (cyC x),.c (.bool true)]) []:=by
 have hc := cycles_c c op hl
 unfold doingM at hx
 split at hx
 ·cases hx
 rename_i hn
 obtain ⟨l,hle⟩:∃ l,cycM c op = l := ⟨_,rfl⟩
 rw [hle] at hc hx
 obtain ⟨hil,hxe⟩ := List.getElem?_eq_some_iff.1 hx
 have hm:(l.map cyC)[a.toNat]? = some (cyC x) := by rw [List.getElem?_map,hx]; rfl
 refine N.fnC Tryz.func114 k114 fun Q hQ hQN => ?_
 repeat' (first | rw [List.length_map] | refine rI hm ?_ | refine T.call0 e120 rfl hc ?_ | exact ⟨⟩ | intro (K:KT) hK | intro hcd | (refine go1 ?_ ?_ <;> try clear hK K) | fail)
 all_goals first | exact WS.drop (n := 0) rfl rfl | (exfalso; omega)
def cycZ:Cyc := ⟨0,0,0,[]⟩
theorem doing_none (c:Cpu) (r:Nat→Int) (op a:Int) (b:Bool) (hl:c.ins.length ≤ 256) (hx:doingM c op a = none):FnE Tryz.prog 114 [.agg (cpC c),.agg (coA r op a b)] [] (.tup [.agg (cyC cycZ),.c (.bool false)]) []:=by
 have hc := cycles_c c op hl
 have hx2:op = -1∨a < 0∨((cycM c op).length:Int) ≤ a:=by
  unfold doingM at hx
  split at hx
  ·omega
  ·rename_i hn
   have := List.getElem?_eq_none_iff.1 hx
   omega
 obtain ⟨l,hle⟩:∃ l,cycM c op = l := ⟨_,rfl⟩
 rw [hle] at hc hx2
 have hz:Sub (.agg [I 0,I 0,I 0,.c (.slice none 0 0)]) (.agg (cyC cycZ)):=by
  refine .agg (Eq.refl _) fun i x y hx hy => ?_
  match i with
  | 0 => cases hx; cases hy; exact .rfl
  | 1 => cases hx; cases hy; exact .rfl
  | 2 => cases hx; cases hy; exact .rfl
  | 3 => cases hx; cases hy; exact .nil
  | i + 4 => cases hx
 refine N.fnC Tryz.func114 k114 fun Q hQ hQN => ?_
 repeat' (first | rw [List.length_map] | refine T.call0 e120 rfl hc ?_ | exact ⟨⟩ | intro (K:KT) hK | intro hcd | (refine go1 ?_ ?_ <;> try clear hK K) | fail)
 all_goals first | exact WS.gc [] 1 rfl rfl (Sub.tup2 hz .rfl) | (exfalso; omega)
theorem low16 (v:Int):FnE Tryz.prog 27 [I v,I 16] [] (I (v % 65536)) [] := low_lit v 16 16 rfl (by decide)
theorem fixed_c (a:Int) (ha:6 ≤ a∧a < 12):FnE Tryz.prog 151 [I a] [] (I (fixM a)) []:=by
 have:a = 6∨a = 7∨a = 8∨a = 9∨a = 10∨a = 11 := by omega
 rcases this with rfl | rfl | rfl | rfl | rfl | rfl
 all_goals
  refine N.fnC Tryz.func151 k151 fun Q hQ hQN => ?_
  repeat' (first | exact ⟨⟩ | intro (K:KT) hK | intro hcd | (refine go1 ?_ ?_ <;> try clear hK K) | fail)
  exact WS.c rfl rfl
theorem place_c (a:Int) (r:Nat→Int) (hr:Fits r):FnE Tryz.prog 113 [I a,.agg (ri r)] [] (.tup [I (placeM a r).1,.agg (ri (placeM a r).2)]) []:=by
 have r7 := hr 7 (by decide)
 have r8 := hr 8 (by decide)
 have r3 := hr 3 (by decide)
 simp at r7 r8 r3
 unfold placeM
 refine N.fnC Tryz.func113 k113 fun Q hQ hQN => ?_
 by_cases h0:a = 0
 ·subst h0
  repeat' (first | rw [ri_spl _ _ _ (by decide)] | (show WC _ _ _ _ _ _ _ _ _; first | refine T.call0 e27 rfl (low16 _) ?_ | refine T.call0 e27 rfl (low8 _) ?_) | exact ⟨⟩ | intro (K:KT) hK | intro hcd | (refine go1 ?_ ?_ <;> try clear hK K) | fail)
  exact WS.drop (n := 0) rfl rfl
 by_cases h1:a = 1
 ·subst h1
  repeat' (first | exact ⟨⟩ | intro (K:KT) hK | intro hcd | (refine go1 ?_ ?_ <;> try clear hK K) | fail)
  exact WS.drop (n := 0) rfl rfl
 by_cases h2:a = 2
 ·subst h2
  repeat' (first | exact ⟨⟩ | intro (K:KT) hK | intro hcd | (refine go1 ?_ ?_ <;> try clear hK K) | fail)
  exact WS.drop (n := 0) rfl rfl
 by_cases h3:a = 3
 ·subst h3
  repeat' (first | rw [ri_spl _ _ _ (by decide)] | (show WC _ _ _ _ _ _ _ _ _; first | refine T.call0 e27 rfl (low16 _) ?_ | refine T.call0 e27 rfl (low8 _) ?_) | exact ⟨⟩ | intro (K:KT) hK | intro hcd | (refine go1 ?_ ?_ <;> try clear hK K) | fail)
  exact WS.drop (n := 0) rfl rfl
 by_cases h4:a = 4
 ·subst h4
  repeat' (first | rw [ri_spl _ _ _ (by decide)] | (show WC _ _ _ _ _ _ _ _ _; first | refine T.call0 e27 rfl (low16 _) ?_ | refine T.call0 e27 rfl (low8 _) ?_) | exact ⟨⟩ | intro (K:KT) hK | intro hcd | (refine go1 ?_ ?_ <;> try clear hK K) | fail)
  exact WS.drop (n := 0) rfl rfl
 by_cases h5:a = 5
 ·subst h5
  repeat' (first | rw [show upd r 3 ((r 3 + 1) % 256) 3 = (r 3 + 1) % 256 from rfl] | rw [ri_spl _ _ _ (by decide)] | (show WC _ _ _ _ _ _ _ _ _; first | refine T.call0 e27 rfl (low16 _) ?_ | refine T.call0 e27 rfl (low8 _) ?_) | exact ⟨⟩ | intro (K:KT) hK | intro hcd | (refine go1 ?_ ?_ <;> try clear hK K) | fail)
  exact WS.drop (n := 0) rfl rfl
 rw [if_neg h0,if_neg h1,if_neg h2,if_neg h3,if_neg h4,if_neg h5] at hQ hQN
 by_cases h6:a < 0∨12 ≤ a
 ·rw [if_pos h6] at hQ hQN
  repeat' (first | exact ⟨⟩ | intro (K:KT) hK | intro hcd | (refine go1 ?_ ?_ <;> try clear hK K) | fail)
  all_goals first | exact WS.drop (n := 0) rfl rfl | (exfalso; omega)
 ·rw [if_neg h6] at hQ hQN
  have hf := fixed_c a (by omega)
  repeat' (first | refine T.call0 e151 rfl hf ?_ | exact ⟨⟩ | intro (K:KT) hK | intro hcd | (refine go1 ?_ ?_ <;> try clear hK K) | fail)
  all_goals first | exact WS.drop (n := 0) rfl rfl | (exfalso; omega)
theorem ended_c (c:Cpu) (r:Nat→Int) (op a:Int) (b:Bool):FnE Tryz.prog 118 [.agg (cpC c),.agg (coA r op a b)] [] (.agg (if op = 259 then coA r op a b else coA r (-1) 0 b)) []:=by
 refine N.fnC Tryz.func118 k118 fun Q hQ hQN => ?_
 by_cases h:op = 259
 ·rw [if_pos h] at hQ hQN
  repeat' (first | exact ⟨⟩ | intro (K:KT) hK | intro hcd | (refine go1 ?_ ?_ <;> try clear hK K) | fail)
  all_goals first | exact WS.drop (n := 0) rfl rfl | (exfalso; omega)
 ·rw [if_neg h] at hQ hQN
  repeat' (first | rw [co_op] | rw [co_at] | exact ⟨⟩ | intro (K:KT) hK | intro hcd | (refine go1 ?_ ?_ <;> try clear hK K) | fail)
  all_goals first | exact WS.drop (n := 0) rfl rfl | (exfalso; omega)
def zeroR:Nat→Int := fun _ => 0
theorem start_c (c:Cpu) (k:Core) (irq:Bool) (hl:c.ins.length ≤ 256):FnE Tryz.prog 112 [.agg (cpC c),.agg (coC k),.c (.bool irq)] [] (.agg (coC (startM c k irq))) []:=by
 obtain ⟨r,op,a,nmi⟩ := k
 have c7:FnE Tryz.prog 120 [.agg (cpC c),I 257] [] (.sl 4 (c.nmi.map cyC)) [] := cycles_c c 257 hl
 have c6:FnE Tryz.prog 120 [.agg (cpC c),I 256] [] (.sl 4 (c.irq.map cyC)) [] := cycles_c c 256 hl
 unfold startM
 dsimp only [coC]
 by_cases h1:nmi = true∧0 < c.nmi.length
 ·rw [if_pos h1]
  obtain ⟨rfl,h1⟩ := h1
  refine N.fnC Tryz.func112 k112 fun Q hQ hQN => ?_
  repeat' (first | (show AK _ _ (.loop _) _ _ _ _; refine N.unroll 3 ?_) | rw [List.length_map] | rw [co_op] | rw [co_at] | rw [co_nmi] | rw [co_mren] | rw [co_co] | rw [co_t12] | rw [co_t9] | rw [ri_t9] | rw [cp_t5] | rw [co_z] | (show WC _ _ _ _ _ _ _ _ _; first | refine T.call0 e120 rfl c7 ?_ | refine T.call0 e120 rfl c6 ?_) | exact ⟨⟩ | intro (K:KT) hK | intro hcd | (refine go1 ?_ ?_ <;> try clear hK K) | fail)
  all_goals first | exact WS.drop (n := 0) rfl rfl | (exfalso; omega)
 rw [if_neg h1]
 by_cases h2:irq = true∧bits .and .i64 (r 4) 4 = 0∧0 < c.irq.length
 ·rw [if_pos h2]
  obtain ⟨rfl,h2,h3⟩ := h2
  cases nmi
  ·skip
   refine N.fnC Tryz.func112 k112 fun Q hQ hQN => ?_
   repeat' (first | (show AK _ _ (.loop _) _ _ _ _; refine N.unroll 3 ?_) | rw [List.length_map] | rw [co_op] | rw [co_at] | rw [co_nmi] | rw [co_mren] | rw [co_co] | rw [co_t12] | rw [co_t9] | rw [ri_t9] | rw [cp_t5] | rw [co_z] | (show WC _ _ _ _ _ _ _ _ _; first | refine T.call0 e120 rfl c7 ?_ | refine T.call0 e120 rfl c6 ?_) | exact ⟨⟩ | intro (K:KT) hK | intro hcd | (refine go1 ?_ ?_ <;> try clear hK K) | fail)
   all_goals first | exact WS.drop (n := 0) rfl rfl | (exfalso; omega) | (exfalso; contradiction)
  ·have h1:¬ 0 < c.nmi.length := fun h => h1 ⟨rfl,h⟩
   refine N.fnC Tryz.func112 k112 fun Q hQ hQN => ?_
   repeat' (first | (show AK _ _ (.loop _) _ _ _ _; refine N.unroll 3 ?_) | rw [List.length_map] | rw [co_op] | rw [co_at] | rw [co_nmi] | rw [co_mren] | rw [co_co] | rw [co_t12] | rw [co_t9] | rw [ri_t9] | rw [cp_t5] | rw [co_z] | (show WC _ _ _ _ _ _ _ _ _; first | refine T.call0 e120 rfl c7 ?_ | refine T.call0 e120 rfl c6 ?_) | exact ⟨⟩ | intro (K:KT) hK | intro hcd | (refine go1 ?_ ?_ <;> try clear hK K) | fail)
   all_goals first | exact WS.drop (n := 0) rfl rfl | (exfalso; omega) | (exfalso; contradiction)
 ·rw [if_neg h2]
  cases nmi <;> cases irq
  all_goals
   refine N.fnC Tryz.func112 k112 fun Q hQ hQN => ?_
   repeat' (first | (show AK _ _ (.loop _) _ _ _ _; refine N.unroll 3 ?_) | rw [List.length_map] | rw [co_op] | rw [co_at] | rw [co_nmi] | rw [co_mren] | rw [co_co] | rw [co_t12] | rw [co_t9] | rw [ri_t9] | rw [cp_t5] | rw [co_z] | (show WC _ _ _ _ _ _ _ _ _; first | refine T.call0 e120 rfl c7 ?_ | refine T.call0 e120 rfl c6 ?_) | exact ⟨⟩ | intro (K:KT) hK | intro hcd | (refine go1 ?_ ?_ <;> try clear hK K) | fail)
   all_goals first | exact WS.drop (n := 0) rfl rfl | (exfalso; omega) | (exfalso; simp_all; done) | trace_state
theorem co_get (r:Nat→Int) (op a:Int) (b:Bool) (k:Nat) (hk:k < 9):(coA r op a b)[k]? = some (I (r k)):=by
 match k,hk with
 | 0,_ => rfl
 | 1,_ => rfl
 | 2,_ => rfl
 | 3,_ => rfl
 | 4,_ => rfl
 | 5,_ => rfl
 | 6,_ => rfl
 | 7,_ => rfl
 | 8,_ => rfl
theorem co_reg (r:Nat→Int) (op a v:Int) (b:Bool) (k:Nat) (hk:k < 9):spl (coA r op a b) k [I v] = coA (upd r k v) op a b:=by
 match k,hk with
 | 0,_ => rfl
 | 1,_ => rfl
 | 2,_ => rfl
 | 3,_ => rfl
 | 4,_ => rfl
 | 5,_ => rfl
 | 6,_ => rfl
 | 7,_ => rfl
 | 8,_ => rfl
theorem startM_r (c:Cpu) (k:Core) (irq:Bool):(startM c k irq).r = k.r:=by
 unfold startM; (repeat' split) <;> rfl
theorem ask_c (c:Cpu) (k:Core) (irq:Bool) (hl:c.ins.length ≤ 256):FnE Tryz.prog 63 [.agg (cpC c),.agg (coC k),.c (.bool irq)] [] (.tup [.agg (coC (askM c k irq).1),.agg (buC (askM c k irq).2)]) []:=by
 obtain ⟨r,op,a,nmi⟩ := k
 have hfit := Fit_ok r
 have hfr := fitR_fits r
 have hs:op = -1→FnE Tryz.prog 112 [.agg (cpC c),.agg (coA (fitR r) op a nmi),.c (.bool irq)] [] (.agg (coC (askA c ⟨r,op,a,nmi⟩ irq))) []:=by
  intro h
  have := start_c c ⟨fitR r,op,a,nmi⟩ irq hl
  unfold askA; rw [if_pos h]; exact this
 have hno:op ≠ -1→askA c ⟨r,op,a,nmi⟩ irq = ⟨fitR r,op,a,nmi⟩:=by
  intro h
  unfold askA; rw [if_neg h]
 have hr2:(askA c ⟨r,op,a,nmi⟩ irq).r = fitR r:=by
  unfold askA; split
  ·exact startM_r _ _ _
  ·rfl
 unfold askM
 generalize askA c ⟨r,op,a,nmi⟩ irq = k2 at *
 generalize fitR r = q at *
 obtain ⟨q',op2,a2,n2⟩ := k2
 dsimp only at hr2
 subst hr2
 unfold coC at hs
 dsimp only at hs
 have hpl:∀ at_,∃ ad q2,placeM at_ q' = (ad,q2)∧FnE Tryz.prog 113 [I at_,.agg (ri q')] [] (.tup [I ad,.agg (ri q2)]) [] := fun at_ => ⟨_,_,rfl,place_c at_ _ hfr⟩
 dsimp only [coC,buC]
 by_cases h1:op = -1
 ·have hs := hs h1
  subst h1
  by_cases h2:op2 = -1
  ·subst h2
   obtain ⟨ad,q2,e1,hp⟩ := hpl 0
   rw [show askB c ⟨q',-1,a2,n2⟩ = (⟨q2,-1,a2,n2⟩,⟨1,ad,0⟩) by unfold askB; dsimp only; rw [if_pos rfl,e1]]
   dsimp only
   clear hpl e1 hno hfr
   refine N.fnC Tryz.func63 k63 fun Q hQ hQN => ?_
   repeat' (first | rw [co_mren] | rw [co_co] | rw [co_t12] | rw [co_t9] | rw [ri_t9] | rw [cp_t5] | rw [co_z] | rw [ri_mren] | rw [co_r] | rw [co_op] | rw [co_at] | rw [co_nmi] | rw [ri_splz] | (show WC _ _ _ _ _ _ _ _ _; first | refine T.call0 e111 rfl hfit ?_ | refine T.call0 e112 rfl hs ?_ | refine T.call0 e113 rfl hp ?_) | exact ⟨⟩ | intro (K:KT) hK | intro hcd | (refine go1 ?_ ?_ <;> try clear hK K) | fail)
   exact WS.drop (n := 0) rfl rfl
  ·skip
   cases hd:doingM c op2 a2 with
   | none =>
    have hdo := doing_none c q' op2 a2 n2 hl hd
    rw [show askB c ⟨q',op2,a2,n2⟩ = (⟨q',op2,a2,n2⟩,⟨0,0,0⟩) by unfold askB; dsimp only; rw [if_neg h2,hd]]
    dsimp only
    clear hpl hno hfr
    refine N.fnC Tryz.func63 k63 fun Q hQ hQN => ?_
    repeat' (first | rw [co_mren] | rw [co_co] | rw [co_t12] | rw [co_t9] | rw [ri_t9] | rw [cp_t5] | rw [co_z] | rw [ri_mren] | rw [co_r] | rw [co_op] | rw [co_at] | rw [co_nmi] | (show WC _ _ _ _ _ _ _ _ _; first | refine T.call0 e111 rfl hfit ?_ | refine T.call0 e112 rfl hs ?_ | refine T.call0 e114 rfl hdo ?_) | exact ⟨⟩ | intro (K:KT) hK | intro hcd | (refine go1 ?_ ?_ <;> try clear hK K) | fail)
    all_goals first | exact WS.drop (n := 0) rfl rfl | (exfalso; omega)
   | some x =>
    have hdo := doing_some c q' op2 a2 n2 hl x hd
    obtain ⟨xb,xa,xr,xs⟩ := x
    by_cases hb0:xb = 0
    ·rw [show askB c ⟨q',op2,a2,n2⟩ = (⟨q',op2,a2,n2⟩,⟨0,0,0⟩) by unfold askB; dsimp only; rw [if_neg h2,hd]; dsimp only; rw [if_pos hb0]]
     dsimp only
     clear hpl hno hfr hd
     subst hb0
     refine N.fnC Tryz.func63 k63 fun Q hQ hQN => ?_
     repeat' (first | rw [co_mren] | rw [co_co] | rw [co_t12] | rw [co_t9] | rw [ri_t9] | rw [cp_t5] | rw [co_z] | rw [ri_mren] | rw [co_r] | rw [co_op] | rw [co_at] | rw [co_nmi] | (show WC _ _ _ _ _ _ _ _ _; first | refine T.call0 e111 rfl hfit ?_ | refine T.call0 e112 rfl hs ?_ | refine T.call0 e114 rfl hdo ?_) | exact ⟨⟩ | intro (K:KT) hK | intro hcd | (refine go1 ?_ ?_ <;> try clear hK K) | fail)
     all_goals first | exact WS.drop (n := 0) rfl rfl | (exfalso; omega)
    obtain ⟨ad,q2,e1,hp⟩ := hpl xa
    rw [show askB c ⟨q',op2,a2,n2⟩ = (⟨q2,op2,a2,n2⟩,⟨xb,ad,dataM ⟨xb,xa,xr,xs⟩ q'⟩) by unfold askB; dsimp only; rw [if_neg h2,hd]; dsimp only; rw [if_neg hb0,e1]]
    dsimp only
    clear hpl hno hfr hd e1
    unfold dataM
    dsimp only
    by_cases hw:xb = 2∧0 ≤ xr∧xr < 9
    ·rw [if_pos hw]
     have e5:0 + xr.toNat * 1 = xr.toNat := by omega
     have hx9:xr.toNat < 9 := by omega
     refine N.fnC Tryz.func63 k63 fun Q hQ hQN => ?_
     repeat' (first | rw [co_mren] | rw [co_co] | rw [co_t12] | rw [co_t9] | rw [ri_t9] | rw [cp_t5] | rw [co_z] | rw [ri_mren] | rw [co_r] | rw [co_op] | rw [co_at] | rw [co_nmi] | rw [e5] | (show WOpsT _ (⟨_,.ld _ _,none⟩ :: _) _ _ _ _; refine T.ld rfl rfl rfl rfl (co_get _ _ _ _ _ hx9) ?_) | (show WC _ _ _ _ _ _ _ _ _; first | refine T.call0 e111 rfl hfit ?_ | refine T.call0 e112 rfl hs ?_ | refine T.call0 e114 rfl hdo ?_ | refine T.call0 e113 rfl hp ?_ | refine T.call0 e27 rfl (low8 _) ?_) | exact ⟨⟩ | intro (K:KT) hK | intro hcd | (refine go1 ?_ ?_ <;> try clear hK K) | fail)
     all_goals first | exact WS.drop (n := 0) rfl rfl | (exfalso; omega)
    ·rw [if_neg hw]
     refine N.fnC Tryz.func63 k63 fun Q hQ hQN => ?_
     repeat' (first | rw [co_mren] | rw [co_co] | rw [co_t12] | rw [co_t9] | rw [ri_t9] | rw [cp_t5] | rw [co_z] | rw [ri_mren] | rw [co_r] | rw [co_op] | rw [co_at] | rw [co_nmi] | (show WC _ _ _ _ _ _ _ _ _; first | refine T.call0 e111 rfl hfit ?_ | refine T.call0 e112 rfl hs ?_ | refine T.call0 e114 rfl hdo ?_ | refine T.call0 e113 rfl hp ?_) | exact ⟨⟩ | intro (K:KT) hK | intro hcd | (refine go1 ?_ ?_ <;> try clear hK K) | fail)
     all_goals first | exact WS.drop (n := 0) rfl rfl | (exfalso; omega)
 ·have e := hno h1
  rw [Core.mk.injEq] at e
  obtain ⟨-,e2,e3,e4⟩ := e
  subst e2 e3 e4
  have h2 := h1
  clear hs
  cases hd:doingM c op2 a2 with
  | none =>
   have hdo := doing_none c q' op2 a2 n2 hl hd
   rw [show askB c ⟨q',op2,a2,n2⟩ = (⟨q',op2,a2,n2⟩,⟨0,0,0⟩) by unfold askB; dsimp only; rw [if_neg h2,hd]]
   dsimp only
   clear hpl hno hfr
   refine N.fnC Tryz.func63 k63 fun Q hQ hQN => ?_
   repeat' (first | rw [co_mren] | rw [co_co] | rw [co_t12] | rw [co_t9] | rw [ri_t9] | rw [cp_t5] | rw [co_z] | rw [ri_mren] | rw [co_r] | rw [co_op] | rw [co_at] | rw [co_nmi] | (show WC _ _ _ _ _ _ _ _ _; first | refine T.call0 e111 rfl hfit ?_ | refine T.call0 e114 rfl hdo ?_) | exact ⟨⟩ | intro (K:KT) hK | intro hcd | (refine go1 ?_ ?_ <;> try clear hK K) | fail)
   all_goals first | exact WS.drop (n := 0) rfl rfl | (exfalso; omega)
  | some x =>
   have hdo := doing_some c q' op2 a2 n2 hl x hd
   obtain ⟨xb,xa,xr,xs⟩ := x
   by_cases hb0:xb = 0
   ·rw [show askB c ⟨q',op2,a2,n2⟩ = (⟨q',op2,a2,n2⟩,⟨0,0,0⟩) by unfold askB; dsimp only; rw [if_neg h2,hd]; dsimp only; rw [if_pos hb0]]
    dsimp only
    clear hpl hno hfr hd
    subst hb0
    refine N.fnC Tryz.func63 k63 fun Q hQ hQN => ?_
    repeat' (first | rw [co_mren] | rw [co_co] | rw [co_t12] | rw [co_t9] | rw [ri_t9] | rw [cp_t5] | rw [co_z] | rw [ri_mren] | rw [co_r] | rw [co_op] | rw [co_at] | rw [co_nmi] | (show WC _ _ _ _ _ _ _ _ _; first | refine T.call0 e111 rfl hfit ?_ | refine T.call0 e114 rfl hdo ?_) | exact ⟨⟩ | intro (K:KT) hK | intro hcd | (refine go1 ?_ ?_ <;> try clear hK K) | fail)
    all_goals first | exact WS.drop (n := 0) rfl rfl | (exfalso; omega)
   obtain ⟨ad,q2,e1,hp⟩ := hpl xa
   rw [show askB c ⟨q',op2,a2,n2⟩ = (⟨q2,op2,a2,n2⟩,⟨xb,ad,dataM ⟨xb,xa,xr,xs⟩ q'⟩) by unfold askB; dsimp only; rw [if_neg h2,hd]; dsimp only; rw [if_neg hb0,e1]]
   dsimp only
   clear hpl hno hfr hd e1
   unfold dataM
   dsimp only
   by_cases hw:xb = 2∧0 ≤ xr∧xr < 9
   ·rw [if_pos hw]
    have e5:0 + xr.toNat * 1 = xr.toNat := by omega
    have hx9:xr.toNat < 9 := by omega
    refine N.fnC Tryz.func63 k63 fun Q hQ hQN => ?_
    repeat' (first | rw [co_mren] | rw [co_co] | rw [co_t12] | rw [co_t9] | rw [ri_t9] | rw [cp_t5] | rw [co_z] | rw [ri_mren] | rw [co_r] | rw [co_op] | rw [co_at] | rw [co_nmi] | rw [e5] | (show WOpsT _ (⟨_,.ld _ _,none⟩ :: _) _ _ _ _; refine T.ld rfl rfl rfl rfl (co_get _ _ _ _ _ hx9) ?_) | (show WC _ _ _ _ _ _ _ _ _; first | refine T.call0 e111 rfl hfit ?_ | refine T.call0 e114 rfl hdo ?_ | refine T.call0 e113 rfl hp ?_ | refine T.call0 e27 rfl (low8 _) ?_) | exact ⟨⟩ | intro (K:KT) hK | intro hcd | (refine go1 ?_ ?_ <;> try clear hK K) | fail)
    all_goals first | exact WS.drop (n := 0) rfl rfl | (exfalso; omega)
   ·rw [if_neg hw]
    refine N.fnC Tryz.func63 k63 fun Q hQ hQN => ?_
    repeat' (first | rw [co_mren] | rw [co_co] | rw [co_t12] | rw [co_t9] | rw [ri_t9] | rw [cp_t5] | rw [co_z] | rw [ri_mren] | rw [co_r] | rw [co_op] | rw [co_at] | rw [co_nmi] | (show WC _ _ _ _ _ _ _ _ _; first | refine T.call0 e111 rfl hfit ?_ | refine T.call0 e114 rfl hdo ?_ | refine T.call0 e113 rfl hp ?_) | exact ⟨⟩ | intro (K:KT) hK | intro hcd | (refine go1 ?_ ?_ <;> try clear hK K) | fail)
    all_goals first | exact WS.drop (n := 0) rfl rfl | (exfalso; omega)
end Go.Proofs.YtonhglhdlgbcnabGreat.Calc
