/- Several texts in one (FnStepE, FnQuick, FnEvs, FnMachB, FnMachC, PureRange), for the proof of LawQuickSame. No condition beyond those in each lemma. -/
import Derived.Test.YtonhglhdlgbcnacGreatPLawQuickSameS
import Derived.Test.YtonhglhdlgbcnacGreatPLawQuickSameG
import Derived.Test.YtonhglhdlgbcnacGreatPLawQuickSameD
import Derived.Test.YtonhglhdlgbcnacGreatPLawQuickSameO
import Derived.Test.YtonhglhdlgbcnacGreatPLawQuickSameN
namespace Go.Proofs.YtonhglhdlgbcnacGreat.Calc
open Go Code
set_option linter.unusedSimpArgs false
set_option linter.unusedVariables false
set_option maxRecDepth 20000
set_option maxHeartbeats 8000000
attribute [local irreducible] WOpsT AW AK RK AKW UK UC
theorem ixFC_ok (f:Nat) (he:enters Tryz.prog f = true) (x:Ev) (p:Chp→Bool) (l:List Chp) (hl:l.length ≤ 256) (hp:∀ c:Chp,FnE Tryz.prog f [.agg (chV c),.ptr 0 1 0 0] [⟨1,3,[evV x]⟩] (.c (.bool (p c))) [⟨1,3,[evV x]⟩]):FnE Tryz.prog 106 [.sl 5 (l.map chV),.fn f [.ptr 0 1 0 0]] [⟨1,3,[evV x]⟩] (I (fidx p l)) [⟨1,3,[evV x]⟩]:=by
 obtain ⟨x1,x2,x3⟩ := x
 dsimp only [evV] at hp ⊢
 refine N.fnC Tryz.func106 k106 fun Q hQ hQN => ?_
 repeat' (first | rw [List.length_map] | exact ⟨⟩ | intro (K:KT) hK | intro hcd | (refine go1 ?_ ?_ <;> try clear hK K) | fail)
 refine N.loop (σ := Nat) (fun j => [(0,.sl 5 (l.map chV)),(1,.fn f [.ptr 0 1 0 0]),(7,I l.length),(8,I j)]) (fun j => [⟨1,3,[[I x1,.c (.string x2),I x3]]⟩]) (fun j => j ≤ l.length∧∀ k,k < j→∀ hk:k < l.length,p l[k] = false) (fun j => l.length - j) 0 ⟨Nat.zero_le _,fun k hk => absurd hk (by omega)⟩ (Weaks.sel (by exact sB) rfl) fun j hj R hC => ?_
 obtain ⟨hj,hb⟩ := hj
 by_cases hjl:j < l.length
 ·have hm := mget chV l j hjl
  have hv := hp l[j]
  have hx:p l[j] = true→fidx p l = j := fun h => fidx_at hjl hb h
  have hy:p l[j] = false→∀ k,k < j + 1→∀ hk:k < l.length,p l[k] = false := fun h k hk hkl => by
   by_cases hkj:k = j
   ·subst hkj; exact h
   ·exact hb k (by omega) hkl
  generalize p l[j] = q at *
  generalize l[j] = c at *
  obtain ⟨cn,ck,cb,cs,cd⟩ := c
  dsimp only [chV] at hm hv
  cases q
  ·have hy := hy rfl
   repeat' (first | refine rI hm ?_ | refine T.ofFn rfl (C.read [0] he rfl hv rfl rfl rfl rfl rfl ?_) | exact ⟨⟩ | intro (K:KT) hK | intro hcd | (refine go1 ?_ ?_ <;> try clear hK K) | fail)
   exact hC _ _ (j + 1) ⟨by omega,hy⟩ (by omega) (Weaks.sel (by exact sB) rfl)
  ·rw [hx rfl] at hQ hQN
   repeat' (first | refine rI hm ?_ | refine T.ofFn rfl (C.read [0] he rfl hv rfl rfl rfl rfl rfl ?_) | exact ⟨⟩ | intro (K:KT) hK | intro hcd | (refine go1 ?_ ?_ <;> try clear hK K) | fail)
   exact WS.gc [0] 1 rfl (by exact oO) .rfl
 ·obtain rfl:j = l.length := by omega
  rw [fidx_no fun k hk => hb k hk hk] at hQ hQN
  repeat' (first | exact ⟨⟩ | intro (K:KT) hK | intro hcd | (refine go1 ?_ ?_ <;> try clear hK K) | fail)
  exact WS.gc [0] 1 rfl (by exact oO) .rfl
theorem ctFC_ok (f:Nat) (he:enters Tryz.prog f = true) (x:Ev) (p:Chp→Bool) (l:List Chp) (hl:l.length ≤ 256) (hp:∀ c:Chp,FnE Tryz.prog f [.agg (chV c),.ptr 0 1 0 0] [⟨1,3,[evV x]⟩] (.c (.bool (p c))) [⟨1,3,[evV x]⟩]):FnE Tryz.prog 56 [.sl 5 (l.map chV),.fn f [.ptr 0 1 0 0]] [⟨1,3,[evV x]⟩] (.c (.bool (l.any p))) [⟨1,3,[evV x]⟩]:=by
 have hx := ixFC_ok f he x p l hl hp
 rw [← fidx_any]
 generalize fidx p l = q at *
 obtain ⟨x1,x2,x3⟩ := x
 dsimp only [evV] at hx ⊢
 refine N.fnC Tryz.func56 k56 fun Q hQ hQN => ?_
 repeat' (first | refine T.callQ [0] e106 rfl (hx) (by exact pA) rfl rfl rfl (by exact rN) ?_ | exact ⟨⟩ | intro (K:KT) hK | intro hcd | (refine go1 ?_ ?_ <;> try clear hK K) | fail)
 exact WS.gc [0] 1 rfl (by exact oO) .rfl
theorem mcheck1_ok (x:Ev) (c:Chp):FnE Tryz.prog 57 [.agg (chV c),.ptr 0 1 0 0] [⟨1,3,[evV x]⟩] (.c (.bool (decide (c.name = x.chip)))) [⟨1,3,[evV x]⟩]:=by
 obtain ⟨nm,k,b,z,dat⟩ := c
 obtain ⟨x1,x2,x3⟩ := x
 dsimp only [chV,evV]
 refine N.fnC Tryz.func57 k57 fun Q hQ hQN => ?_
 repeat' (first | exact ⟨⟩ | intro (K:KT) hK | intro hcd | (refine go1 ?_ ?_ <;> try clear hK K) | fail)
 exact WS.gc [0] 1 rfl (by exact oO) .rfl
structure InsOk (B:Brd) (ins:List Ev):Prop where
 len:ins.length ≤ 500
 ord:∀ i (h:i + 1 < ins.length),ins[i].at_ ≤ ins[i + 1].at_
 names:∀ x ∈ ins,x.chip = sCpu∨∃ c ∈ B.chips,c.name = x.chip
 rng:∀ x ∈ ins,0 ≤ x.at_∧x.at_ ≤ 1000000
theorem check_ok (B:Brd) (hB:MacOk B) (s:Mac) (ins:List Ev) (h:MacSt B s) (hi:InsOk B ins) (hck:FnE Tryz.prog 19 [.agg (boV B)] [] (I 0) []):FnE Tryz.prog 22 [.agg (boV B),.agg (maS s),.sl 3 (ins.map evV)] [] (I 0) []:=by
 have hl := h.1.1
 have ht := h.2
 have hlen := hi.len
 have hn12 := hB.n12
 unfold maS
 refine N.fnC Tryz.func22 k22 fun Q hQ hQN => ?_
 repeat' (first | rw [List.length_map] | rw [hl] | refine T.call0 e19 rfl hck ?_ | exact ⟨⟩ | intro (K:KT) hK | intro hcd | (refine go1 ?_ ?_ <;> try clear hK K) | fail)
 all_goals first | (exfalso; omega) | skip
 refine N.loop (σ := Nat) (fun i => [(2,.sl 3 (ins.map evV)),(3,.ptr 0 1 0 0),(36,.sl 3 (ins.map evV)),(37,I ins.length),(38,I i)]) (fun i => [⟨1,8,[boV B]⟩]) (fun i => i ≤ ins.length) (fun i => ins.length - i) 0 (Nat.zero_le _) (by exact .G [0] 1) fun i hil R hC => ?_
 by_cases hil:i < ins.length
 ·have hm := mget evV ins i hil
  have hct := ctFC_ok 57 e57 ins[i] (fun c => decide (c.name = ins[i].chip)) B.chips (by omega) (mcheck1_ok ins[i])
  have hnm:ins[i].chip = sCpu∨B.chips.any (fun c => decide (c.name = ins[i].chip)) = true:=by
   rcases hi.names _ (List.getElem_mem hil) with h1 | ⟨c,h1,h2⟩
   ·exact .inl h1
   ·exact .inr (List.any_eq_true.2 ⟨c,h1,decide_eq_true h2⟩)
  have hpr:∀ (h:0 < i),∃ a q w,(ins.map evV)[((i:Int) - 1).toNat]? = some [I a,.c (.string q),I w]∧a ≤ ins[i].at_:=by
   intro h
   have h1 := hi.ord (i - 1) (by omega)
   have h2 := mget evV ins (i - 1) (by omega)
   simp only [show i - 1 + 1 = i by omega] at h1
   refine ⟨ins[i - 1].at_,ins[i - 1].chip,ins[i - 1].n,?_,h1⟩
   rw [show ((i:Int) - 1).toNat = i - 1 by omega]
   rw [Int.toNat_natCast] at h2
   exact h2
  generalize B.chips.any (fun c => decide (c.name = ins[i].chip)) = q at *
  generalize ins[i] = x at *
  obtain ⟨x1,x2,x3⟩ := x
  dsimp only [evV] at hm hct hnm hpr
  unfold sCpu at hnm
  by_cases h0:0 < i
  ·obtain ⟨pa,pq,pw,hp1,hp2⟩ := hpr h0
   by_cases h1:x2 = ⟨#[99,112,117]⟩
   ·skip
    repeat' (first | refine rI hm ?_ | refine rI hp1 ?_ | exact ⟨⟩ | intro (K:KT) hK | intro hcd | (refine go1 ?_ ?_ <;> try clear hK K) | fail)
    all_goals first | (exfalso; exact absurd h1 (by assumption)) | exact hC _ _ (i + 1) (by omega) (by omega) (by exact .G [0] 1)
   ·have hq:q = true:=by
     rcases hnm with h | h
     ·exact absurd h h1
     ·exact h
    subst hq
    repeat' (first | refine rI hm ?_ | refine rI hp1 ?_ | refine T.callQ [1] e56 rfl (hct) (by exact pA) rfl rfl rfl (by exact rN) ?_ | exact ⟨⟩ | intro (K:KT) hK | intro hcd | (refine go1 ?_ ?_ <;> try clear hK K) | fail)
    all_goals first | (exfalso; exact absurd h1 (by assumption)) | exact hC _ _ (i + 1) (by omega) (by omega) (by exact .G [0] 1)
  ·by_cases h1:x2 = ⟨#[99,112,117]⟩
   ·skip
    repeat' (first | refine rI hm ?_ | exact ⟨⟩ | intro (K:KT) hK | intro hcd | (refine go1 ?_ ?_ <;> try clear hK K) | fail)
    all_goals first | (exfalso; exact absurd h1 (by assumption)) | exact hC _ _ (i + 1) (by omega) (by omega) (by exact .G [0] 1)
   ·have hq:q = true:=by
     rcases hnm with h | h
     ·exact absurd h h1
     ·exact h
    subst hq
    repeat' (first | refine rI hm ?_ | refine T.callQ [1] e56 rfl (hct) (by exact pA) rfl rfl rfl (by exact rN) ?_ | exact ⟨⟩ | intro (K:KT) hK | intro hcd | (refine go1 ?_ ?_ <;> try clear hK K) | fail)
    all_goals first | (exfalso; exact absurd h1 (by assumption)) | exact hC _ _ (i + 1) (by omega) (by omega) (by exact .G [0] 1)
 ·obtain rfl:i = ins.length := by omega
  repeat' (first | exact ⟨⟩ | intro (K:KT) hK | intro hcd | (refine go1 ?_ ?_ <;> try clear hK K) | fail)
  exact WS.c rfl rfl
def inpK (cs:List Chp) (l:List Int):Int := sval (srest l 90) (cs.length + 1)
def inpN (cs:List Chp) (l:List Int):ByteArray := match cs[(inpK cs l).toNat]? with
 | some c => c.name
 | none => sCpu
def inpR (cs:List Chp) (l:List Int):List Int := srest (srest l 90) (cs.length + 1)
def inpG (cs:List Chp):Nat→Int→List Ev→List Int→List Ev
 | 0,_,acc,_ => acc
 | f + 1,a,acc,l => if l.length = 0 then acc else inpG cs f (a + sval l 90) (acc ++ [⟨a + sval l 90,inpN cs l,sval (inpR cs l) 256⟩]) (srest (inpR cs l) 256)
def inpM (B:Brd) (l:List Int):List Ev := inpG B.chips 40 0 [] l
structure InpI (B:Brd) (a:Int) (acc:List Ev):Prop where
 ord:∀ i (h:i + 1 < acc.length),acc[i].at_ ≤ acc[i + 1].at_
 last:∀ i (h:i < acc.length),acc[i].at_ ≤ a
 names:∀ x ∈ acc,x.chip = sCpu∨∃ c ∈ B.chips,c.name = x.chip
 lo:∀ i (h:i < acc.length),0 ≤ acc[i].at_
 up:0 ≤ a∧a ≤ 90 * acc.length
theorem inpN_ok (B:Brd) (l:List Int):inpN B.chips l = sCpu∨∃ c ∈ B.chips,c.name = inpN B.chips l:=by
 unfold inpN
 cases h:B.chips[(inpK B.chips l).toNat]? with
 | none => exact .inl rfl
 | some c => exact .inr ⟨c,List.mem_of_getElem? h,rfl⟩
theorem inpG_ok (B:Brd):∀ (f:Nat) (a:Int) (acc:List Ev) (l:List Int),InpI B a acc→(∃ a',InpI B a' (inpG B.chips f a acc l))∧(inpG B.chips f a acc l).length ≤ acc.length + f:=by
 intro f
 induction f with
 | zero => intro a acc l h; exact ⟨⟨a,h⟩,Nat.le_refl _⟩
 | succ f ih =>
  intro a acc l h
  unfold inpG
  split
  ·exact ⟨⟨a,h⟩,Nat.le_add_right _ _⟩
  ·have hr := sval_range l 90 (by decide)
   have h2:InpI B (a + sval l 90) (acc ++ [⟨a + sval l 90,inpN B.chips l,sval (inpR B.chips l) 256⟩]):=by
    refine ⟨fun i hi => ?_,fun i hi => ?_,fun x hx => ?_,fun i hi => ?_,?_⟩
    ·rw [List.length_append,List.length_singleton] at hi
     rw [List.getElem_append_left (show i < acc.length by omega)]
     by_cases h3:i + 1 < acc.length
     ·rw [List.getElem_append_left h3]; exact h.ord i h3
     ·rw [List.getElem_append_right (by omega)]
      simp only [List.getElem_singleton]
      have := h.last i (by omega)
      omega
    ·rw [List.length_append,List.length_singleton] at hi
     by_cases h3:i < acc.length
     ·rw [List.getElem_append_left h3]; have := h.last i h3; omega
     ·rw [List.getElem_append_right (by omega)]
      simp only [List.getElem_singleton]; omega
    ·rcases List.mem_append.1 hx with hx | hx
     ·exact h.names x hx
     ·rw [List.mem_singleton] at hx; subst hx; exact inpN_ok B l
    ·rw [List.length_append,List.length_singleton] at hi
     by_cases h3:i < acc.length
     ·rw [List.getElem_append_left h3]; exact h.lo i h3
     ·rw [List.getElem_append_right (by omega)]
      simp only [List.getElem_singleton]; have := h.up; omega
    ·have := h.up
     rw [List.length_append,List.length_singleton]; omega
   obtain ⟨h3,h4⟩ := ih _ _ (srest (inpR B.chips l) 256) h2
   refine ⟨h3,?_⟩
   rw [List.length_append,List.length_singleton] at h4
   omega
theorem inpM_ok (B:Brd) (l:List Int):InsOk B (inpM B l):=by
 obtain ⟨⟨a,h1⟩,h2⟩ := inpG_ok B 40 0 [] l ⟨fun i h => absurd h (by simp),fun i h => absurd h (by simp),fun x h => by simp at h,fun i h => absurd h (by simp),⟨Int.le_refl _,Int.le_refl _⟩⟩
 simp only [List.length_nil,Nat.zero_add] at h2
 refine ⟨by unfold inpM; omega,h1.ord,h1.names,fun x hx => ?_⟩
 obtain ⟨i,hi,rfl⟩ := List.getElem_of_mem hx
 have h3 := h1.lo i hi
 have h4 := h1.last i hi
 have h5 := h1.up
 unfold inpM at *
 omega
theorem inputs_ok (B:Brd) (hB:MacOk B) (l:List Int):FnE Tryz.prog 6 [.agg (boV B),.sl 1 (cells l)] [] (.sl 3 ((inpM B l).map evV)) []:=by
 have hn1 := hB.n1
 have hn12 := hB.n12
 unfold inpM
 generalize hG:inpG B.chips 40 0 [] l = G
 refine N.fnC Tryz.func6 k6 fun Q hQ hQN => ?_
 repeat' (first | exact ⟨⟩ | intro (K:KT) hK | intro hcd | (refine go1 ?_ ?_ <;> try clear hK K) | fail)
 refine N.loop (σ := Nat×Int×List Ev×List Int) (fun s => [(2,.ptr 0 1 0 0),(5,.ptr 1 1 0 0),(6,.psl 2 (s.2.2.1.length + 1) 0 s.2.2.1.length),(7,I s.2.1)]) (fun s => [⟨1,8,[boV B]⟩,strB s.2.2.2,⟨s.2.2.1.length + 1,3,s.2.2.1.map evV⟩]) (fun s => s.2.2.1.length + s.1 = 40∧(0 ≤ s.2.1∧s.2.1 ≤ 90 * s.2.2.1.length)∧inpG B.chips s.1 s.2.1 s.2.2.1 s.2.2.2 = G) (fun s => s.1) (40,0,[],l) ⟨rfl,⟨Int.le_refl _,Int.le_refl _⟩,hG⟩ (Weaks.nilAs 6 3 (by decide) rfl (Weaks.sel (by exact sB) rfl)) fun w hw R hC => ?_
 obtain ⟨f,a,acc,l1⟩ := w
 obtain ⟨hf,ha,hst⟩ := hw
 dsimp only at hf ha hst hC ⊢
 cases f with
 | zero =>
  unfold inpG at hst
  subst hst
  repeat' (first | rw [cells_len] | exact ⟨⟩ | intro (K:KT) hK | intro hcd | (refine go1 ?_ ?_ <;> try clear hK K) | fail)
  all_goals first | exact WS.rows (f := evV) rfl (Nat.le_refl _) | (exfalso; omega)
 | succ f =>
  unfold inpG at hst
  by_cases h0:l1.length = 0
  ·rw [if_pos h0] at hst
   subst hst
   repeat' (first | rw [cells_len] | exact ⟨⟩ | intro (K:KT) hK | intro hcd | (refine go1 ?_ ?_ <;> try clear hK K) | fail)
   all_goals first | exact WS.rows (f := evV) rfl (Nat.le_refl _) | (exfalso; omega)
  ·rw [if_neg h0] at hst
   have n1 := next_ok l1 90 (by decide)
   have n2 := next_ok (srest l1 90) (B.chips.length + 1) (by omega)
   have n3 := next_ok (inpR B.chips l1) 256 (by decide)
   have r1 := sval_range l1 90 (by decide)
   have r2 := sval_range (srest l1 90) (B.chips.length + 1) (by omega)
   have nx := fun fr h s h1 => hC fr h (f,s) h1 (by dsimp only; omega)
   clear hC
   have hk:inpK B.chips l1 = sval (srest l1 90) (B.chips.length + 1) := rfl
   have hr3:inpR B.chips l1 = srest (srest l1 90) (B.chips.length + 1) := rfl
   by_cases hkn:inpK B.chips l1 < B.chips.length
   ·have hkl:(inpK B.chips l1).toNat < B.chips.length := by omega
    have hm:(B.chips.map chV)[(inpK B.chips l1).toNat]? = some (chV B.chips[(inpK B.chips l1).toNat]) := by rw [List.getElem?_map,List.getElem?_eq_getElem hkl]; rfl
    rw [show inpN B.chips l1 = B.chips[(inpK B.chips l1).toNat].name by unfold inpN; rw [List.getElem?_eq_getElem hkl]] at hst
    generalize B.chips[(inpK B.chips l1).toNat] = c at *
    obtain ⟨cn,ck,cb,cs,cd⟩ := c
    dsimp only [chV] at hm hst
    rw [← hk] at n2
    rw [← hr3] at n2
    repeat' (first | rw [cells_len] | rw [List.length_map] | refine rI hm ?_ | (show WOpsT _ (⟨_,.app _ _ _ _,none⟩ :: _) _ _ _ _; refine T.app rfl rfl rfl ⟨by decide,by decide⟩ ⟨rfl,rfl,by rw [List.length_map,Nat.zero_add],by simp; omega⟩ ?_) | (show WC _ _ _ _ _ _ _ _ _; first | refine T.call1 1 e16 rfl rfl (n1) ?_ | refine T.call1 1 e16 rfl rfl (n2) ?_ | refine T.call1 1 e16 rfl rfl (n3) ?_) | exact ⟨⟩ | intro (K:KT) hK | intro hcd | (refine go1 ?_ ?_ <;> try clear hK K) | fail)
    have nx2 := fun fr h => nx fr h (a + sval l1 90,acc ++ [⟨a + sval l1 90,cn,sval (inpR B.chips l1) 256⟩],srest (inpR B.chips l1) 256) ⟨by dsimp only; rw [List.length_append,List.length_singleton]; omega,by dsimp only; rw [List.length_append,List.length_singleton]; omega,hst⟩
    dsimp only at nx2
    rw [List.length_append,List.map_append] at nx2
    refine nx2 _ _ (Weaks.gc [0,1,2] 1 rfl (by exact sE) ?_)
    show [_,_,_] = [_,_,outB _ _ _ ⟨acc.length + 1 + 1,3,acc.map evV ++ [[I (a + sval l1 90),.c (.string cn),I (sval (inpR B.chips l1) 256)]]⟩]
    rw [outB_flatA]; rfl
   ·rw [show inpN B.chips l1 = sCpu by unfold inpN; rw [List.getElem?_eq_none (by omega)]] at hst
    unfold sCpu at hst
    rw [← hk] at n2
    rw [← hr3] at n2
    repeat' (first | rw [cells_len] | rw [List.length_map] | (show WOpsT _ (⟨_,.app _ _ _ _,none⟩ :: _) _ _ _ _; refine T.app rfl rfl rfl ⟨by decide,by decide⟩ ⟨rfl,rfl,by rw [List.length_map,Nat.zero_add],by simp; omega⟩ ?_) | (show WC _ _ _ _ _ _ _ _ _; first | refine T.call1 1 e16 rfl rfl (n1) ?_ | refine T.call1 1 e16 rfl rfl (n2) ?_ | refine T.call1 1 e16 rfl rfl (n3) ?_) | exact ⟨⟩ | intro (K:KT) hK | intro hcd | (refine go1 ?_ ?_ <;> try clear hK K) | fail)
    have nx2 := fun fr h => nx fr h (a + sval l1 90,acc ++ [⟨a + sval l1 90,⟨#[99,112,117]⟩,sval (inpR B.chips l1) 256⟩],srest (inpR B.chips l1) 256) ⟨by dsimp only; rw [List.length_append,List.length_singleton]; omega,by dsimp only; rw [List.length_append,List.length_singleton]; omega,hst⟩
    dsimp only at nx2
    rw [List.length_append,List.map_append] at nx2
    refine nx2 _ _ (Weaks.gc [0,1,2] 1 rfl (by exact sE) ?_)
    show [_,_,_] = [_,_,outB _ _ _ ⟨acc.length + 1 + 1,3,acc.map evV ++ [[I (a + sval l1 90),.c (.string ⟨#[99,112,117]⟩),I (sval (inpR B.chips l1) 256)]]⟩]
    rw [outB_flatA]; rfl
section
variable {P:Program} {rest:List AOper} {tr:Tr} {fr:Fr} {h:List Blk} {K:KT} {d:Option Nat}
theorem T.min3 {x y z:AO} {k:IntKind} {a b c:Int} (hx:x.ev (lk fr) = .c (.int k a)) (hy:y.ev (lk fr) = .c (.int k b)) (hz:z.ev (lk fr) = .c (.int k c)) (hK:WOpsT P rest (tr ++ [([],[])]) (put fr d (.c (.int k (min (min a b) c)))) h K):WOpsT P (⟨d,.mnx false [x,y,z],none⟩ :: rest) tr fr h K:=by
 refine T.pure nofun nofun (x := .c (.int k (min (min a b) c))) ?_ hK
 simp only [stepA,pureS,List.foldl,mnxF,hx,hy,hz,if_true,Option.map_some,Bool.false_eq_true,if_false]
 have e:∀ u v:Int,(if v < u then v else u) = min u v := fun u v => by
  by_cases h:v < u
  ·rw [if_pos h]; omega
  ·rw [if_neg h]; omega
 rw [e,e]
end
noncomputable def safeN (cs:List Chp) (ds:List Dv):Nat→Int
 | 0 => 100000
 | i + 1 => match cs[i]?,ds[i]? with
  | some c,some d => min (safeN cs ds i) (nextF c d)
  | _,_ => safeN cs ds i
theorem safeN_r {cs:List Chp} {ds:List Dv} (h:DvsOk cs ds):∀ n,0 ≤ safeN cs ds n∧safeN cs ds n ≤ 100000:=by
 intro n
 induction n with
 | zero => exact ⟨by show (0:Int) ≤ 100000; decide,Int.le_refl _⟩
 | succ n ih =>
  unfold safeN
  by_cases hn:n < cs.length
  ·have h2:n < ds.length := by rw [h.1]; exact hn
   simp only [List.getElem?_eq_getElem hn,List.getElem?_eq_getElem h2]
   have := (chShow_ok _ _ (h.2 n hn h2)).2.2.2.1
   omega
  ·rw [List.getElem?_eq_none (by omega)]; exact ih
theorem safeN_le {cs:List Chp} {ds:List Dv}:∀ (n i:Nat),i < n→∀ c d,cs[i]? = some c→ds[i]? = some d→safeN cs ds n ≤ nextF c d:=by
 intro n
 induction n with
 | zero => intro i h; omega
 | succ n ih =>
  intro i hi c d hc hd
  have hle:safeN cs ds (n + 1) ≤ safeN cs ds n:=by
   show (match cs[n]?,ds[n]? with | some c,some d => min (safeN cs ds n) (nextF c d) | _,_ => safeN cs ds n) ≤ _
   split
   ·exact Int.min_le_left _ _
   ·exact Int.le_refl _
  by_cases hin:i = n
  ·subst hin
   unfold safeN
   simp only [hc,hd]
   omega
  ·have := ih i (by omega) c d hc hd
   omega
def calmN (t:Int):List Ev→Int→Int
 | [],n => n
 | x :: l,n => calmN t l (if t ≤ x.at_ then min n (x.at_ - t) else n)
theorem calmN_r (t:Int):∀ (l:List Ev) (n:Int),0 ≤ n→0 ≤ calmN t l n∧calmN t l n ≤ n:=by
 intro l
 induction l with
 | nil => intro n h; exact ⟨h,Int.le_refl _⟩
 | cons x l ih =>
  intro n h
  unfold calmN
  have := ih (if t ≤ x.at_ then min n (x.at_ - t) else n) (by split <;> omega)
  have h2:(if t ≤ x.at_ then min n (x.at_ - t) else n) ≤ n := by split <;> omega
  omega
theorem calmN_le (t:Int):∀ (l:List Ev) (n:Int),0 ≤ n→∀ x ∈ l,t ≤ x.at_→calmN t l n ≤ x.at_ - t:=by
 intro l
 induction l with
 | nil => intro n _ x hx; simp at hx
 | cons y l ih =>
  intro n h x hx ht
  unfold calmN
  have h0:0 ≤ (if t ≤ y.at_ then min n (y.at_ - t) else n) := by split <;> omega
  rcases List.mem_cons.1 hx with rfl | hx
  ·have := (calmN_r t l _ h0).2
   rw [if_pos ht] at this ⊢
   omega
  ·exact ih _ h0 x hx ht
theorem safe_ok (B:Brd) (hB:MacOk B) (t:Int) (r:Nat→Int) (op a:Int) (b:Bool) (v:Nat) (ds:List Dv) (x y z:Int) (h:DvsOk B.chips ds):FnE Tryz.prog 26 [.agg (boV B),.agg (mrow t r op a b (.psl 0 v 0 ds.length) x y z)] [⟨v,2,ds.map dvC⟩] (I (safeN B.chips ds B.chips.length)) [⟨v,2,ds.map dvC⟩]:=by
 have hl := h.1
 have hn12 := hB.n12
 refine N.fnC Tryz.func26 k26 fun Q hQ hQN => ?_
 repeat' (first | rw [List.length_map] | exact ⟨⟩ | intro (K:KT) hK | intro hcd | (refine go1 ?_ ?_ <;> try clear hK K) | fail)
 refine N.loop (σ := Nat) (fun i => [(3,.ptr 2 1 0 0),(5,I (safeN B.chips ds i)),(9,.sl 5 (B.chips.map chV)),(10,I B.chips.length),(11,I i)]) (fun i => [⟨v,2,ds.map dvC⟩,⟨1,8,[boV B]⟩,⟨1,17,[mrow t r op a b (.psl 0 v 0 ds.length) x y z]⟩]) (fun i => i ≤ B.chips.length) (fun i => B.chips.length - i) 0 (Nat.zero_le _) (Weaks.sel (by exact sB) rfl) fun i hi R hC => ?_
 by_cases hil:i < B.chips.length
 ·have hm := mget chV B.chips i hil
  have hi2:i < ds.length := by omega
  have hd := dev_get hi2 rfl
  have hnx := (chShow_ok _ _ (h.2 i hil hi2)).2.2.1
  have nx := fun fr h => hC fr h (i + 1) (by omega) (by omega)
  have e:safeN B.chips ds (i + 1) = min (safeN B.chips ds i) (nextF B.chips[i] ds[i]):=by
   show (match B.chips[i]?,ds[i]? with | some c,some d => min (safeN B.chips ds i) (nextF c d) | _,_ => safeN B.chips ds i) = _
   simp only [List.getElem?_eq_getElem hil,List.getElem?_eq_getElem hi2]
  rw [e] at nx
  clear hC e
  generalize safeN B.chips ds i = sn at *
  generalize nextF B.chips[i] ds[i] = nv at *
  generalize B.chips[i] = c at *
  generalize ds[i] = dd at *
  obtain ⟨cn,ck,cb,cs,cd⟩ := c
  obtain ⟨d1,d2⟩ := dd
  dsimp only [chV,dvC] at hm hd hnx
  repeat' (first | refine rI hm ?_ | refine rL hd ?_ | refine T.call0 e73 rfl hnx ?_ | exact ⟨⟩ | intro (K:KT) hK | intro hcd | (refine go1 ?_ ?_ <;> try clear hK K) | fail)
  exact nx _ _ (by exact .G [0,1,2] 1)
 ·obtain rfl:i = B.chips.length := by omega
  repeat' (first | exact ⟨⟩ | intro (K:KT) hK | intro hcd | (refine go1 ?_ ?_ <;> try clear hK K) | fail)
  exact WS.gc [0] 1 rfl (by exact oO) .rfl
theorem calm_ok (t:Int) (ht:0 ≤ t∧t ≤ 1099511627776) (r:Nat→Int) (op a:Int) (b:Bool) (x y z:Int) (ins:List Ev) (hin:ins.length ≤ 500) (hr:∀ x ∈ ins,0 ≤ x.at_∧x.at_ ≤ 1000000):FnE Tryz.prog 27 [.agg (mrow t r op a b .any x y z),.sl 3 (ins.map evV)] [] (I (calmN t ins 100000)) []:=by
 generalize hG:calmN t ins 100000 = G
 refine N.fnC Tryz.func27 k27 fun Q hQ hQN => ?_
 repeat' (first | rw [List.length_map] | exact ⟨⟩ | intro (K:KT) hK | intro hcd | (refine go1 ?_ ?_ <;> try clear hK K) | fail)
 refine N.loop (σ := Nat×Int) (fun s => [(2,.ptr 0 1 0 0),(5,I s.2),(8,.sl 3 (ins.map evV)),(9,I ins.length),(10,I s.1)]) (fun s => [⟨1,17,[mrow t r op a b .any x y z]⟩]) (fun s => s.1 ≤ ins.length∧calmN t (ins.drop s.1) s.2 = G) (fun s => ins.length - s.1) (0,100000) ⟨Nat.zero_le _,hG⟩ (Weaks.sel (by exact sB) rfl) fun w hw R hC => ?_
 obtain ⟨i,n⟩ := w
 obtain ⟨hi,hst⟩ := hw
 dsimp only at hi hst hC ⊢
 by_cases hil:i < ins.length
 ·have hm := mget evV ins i hil
  have hri := hr _ (List.getElem_mem hil)
  rw [List.drop_eq_getElem_cons hil] at hst
  replace hst:calmN t (ins.drop (i + 1)) (if t ≤ ins[i].at_ then min n (ins[i].at_ - t) else n) = G := hst
  have nx := fun fr h s h1 => hC fr h (i + 1,s) h1 (by dsimp only; omega)
  clear hC
  dsimp only at nx
  generalize ins[i] = e at *
  obtain ⟨e1,e2,e3⟩ := e
  dsimp only [evV] at hm hst hri
  by_cases h1:t ≤ e1
  ·rw [if_pos h1] at hst
   repeat' (first | refine rI hm ?_ | exact ⟨⟩ | intro (K:KT) hK | intro hcd | (refine go1 ?_ ?_ <;> try clear hK K) | fail)
   exact nx _ _ _ ⟨by omega,hst⟩ (by exact .G [0] 1)
  ·rw [if_neg h1] at hst
   repeat' (first | refine rI hm ?_ | exact ⟨⟩ | intro (K:KT) hK | intro hcd | (refine go1 ?_ ?_ <;> try clear hK K) | fail)
   exact nx _ _ _ ⟨by omega,hst⟩ (by exact .G [0] 1)
 ·obtain rfl:i = ins.length := by omega
  rw [List.drop_length] at hst
  replace hst:n = G := hst
  subst hst
  repeat' (first | exact ⟨⟩ | intro (K:KT) hK | intro hcd | (refine go1 ?_ ?_ <;> try clear hK K) | fail)
  exact WS.c rfl rfl
theorem plain_ok (B:Brd) (hB:MacOk B) (d ad z:Int) (ha:0 ≤ ad∧ad < 65536):FnE Tryz.prog 69 [.agg (boV B),.agg [I d,I ad,I z]] [] (.c (.bool (plainM B.chips ⟨d,ad,z⟩))) []:=by
 have hn12 := hB.n12
 have hf := find_k B ad hB.place (by omega) ha
 unfold plainM
 dsimp only
 cases hF:findC B.chips ad with
 | none =>
  rw [show findR B.chips ad = .tup [I 0,I 0,.c (.bool false)] by unfold findR; rw [hF]] at hf
  by_cases h0:d = 0
  ·skip
   refine N.fnC Tryz.func69 k69 fun Q hQ hQN => ?_
   repeat' (first | refine T.call0 e70 rfl hf ?_ | exact ⟨⟩ | intro (K:KT) hK | intro hcd | (refine go1 ?_ ?_ <;> try clear hK K) | fail)
   all_goals exact WS.c rfl (by simp [h0])
  ·skip
   refine N.fnC Tryz.func69 k69 fun Q hQ hQN => ?_
   repeat' (first | refine T.call0 e70 rfl hf ?_ | exact ⟨⟩ | intro (K:KT) hK | intro hcd | (refine go1 ?_ ?_ <;> try clear hK K) | fail)
   all_goals exact WS.c rfl (by simp [h0])
 | some i =>
  obtain ⟨hi,-⟩ := findC_at hF
  rw [show findR B.chips ad = .tup [I i,I (ad - B.chips[i].base),.c (.bool true)] by unfold findR; rw [hF]; dsimp only; rw [List.getD_eq_getElem?_getD,List.getElem?_eq_getElem hi]; rfl] at hf
  have hm := mget chV B.chips i hi
  simp only [List.getElem?_eq_getElem hi]
  generalize ad - B.chips[i].base = off at *
  generalize B.chips[i] = c at *
  obtain ⟨cn,ck,cb,cs,cd⟩ := c
  dsimp only [chV] at hm ⊢
  by_cases h0:d = 0
  ·skip
   refine N.fnC Tryz.func69 k69 fun Q hQ hQN => ?_
   repeat' (first | refine rI hm ?_ | refine T.call0 e70 rfl hf ?_ | exact ⟨⟩ | intro (K:KT) hK | intro hcd | (refine go1 ?_ ?_ <;> try clear hK K) | fail)
   all_goals exact WS.c rfl (by simp [h0])
  ·skip
   refine N.fnC Tryz.func69 k69 fun Q hQ hQN => ?_
   repeat' (first | refine rI hm ?_ | refine T.call0 e70 rfl hf ?_ | exact ⟨⟩ | intro (K:KT) hK | intro hcd | (refine go1 ?_ ?_ <;> try clear hK K) | fail)
   all_goals exact WS.c rfl (by simp [h0])
theorem gl_z12 (r:Nat→Int) (op a:Int) (b:Bool):spl [I 0,I 0,I 0,I 0,I 0,I 0,I 0,I 0,I 0,I 0,I 0,.c (.bool false)] 0 (coA r op a b) = coA r op a b := rfl
theorem gl_t12 (r:Nat→Int) (op a:Int) (b:Bool):(coA r op a b).take 12 = coA r op a b := rfl
theorem gl_z3 (x y z:Int):spl [I 0,I 0,I 0] 0 [I x,I y,I z] = [I x,I y,I z] := rfl
theorem gl_st2 (x y z z':Int):spl [I x,I y,I z] 2 [I z'] = [I x,I y,I z'] := rfl
theorem gl_t3 (x y z:Int):List.take 3 [I x,I y,I z] = [I x,I y,I z] := rfl
theorem glide_ok (B:Brd) (hB:MacOk B) (t:Int) (k0:Core) (v:Nat) (ds0:List Dv) (b0:Bus) (n:Nat) (hn:n ≤ 100000) (hds:DvsOk B.chips ds0) (q:Bool) (hq:lineM B ds0 = q) (G:Nat×Core×List Dv×Bus) (hG:glG B q n k0 ds0 b0 = G):FnE Tryz.prog 25 [.agg (boV B),.ptr 0 1 0 0,I n] [⟨1,17,[mrow t k0.r k0.op k0.a k0.nmi (.psl 1 v 0 B.chips.length) b0.d b0.addr b0.data]⟩,⟨v,2,ds0.map dvC⟩] (I G.1) [⟨1,17,[mrow t G.2.1.r G.2.1.op G.2.1.a G.2.1.nmi (.psl 1 v 0 B.chips.length) G.2.2.2.d G.2.2.2.addr G.2.2.2.data]⟩,⟨v,2,G.2.2.1.map dvC⟩]:=by
 have hn12 := hB.n12
 have hl := hds.1
 have hln := line_ok B t k0.r k0.op k0.a k0.nmi v ds0 b0.d b0.addr b0.data (B.chips.map (hearC B)) (List.zipWith irqF B.chips ds0) hn12 hl (List.length_map ..) (by rw [List.length_zipWith]; omega) (heard_ok B hn12 hB.w hB.names) (fun i h => by
  have := (chShow_ok _ _ (hds.2 i h (by omega))).2.1
  rw [List.getElem_zipWith]; exact this)
 rw [show lineR (B.chips.map (hearC B)) (List.zipWith irqF B.chips ds0) = q from hq,hl] at hln
 obtain ⟨kr,kop,ka,kn⟩ := k0
 obtain ⟨bx,by_,bz⟩ := b0
 dsimp only at hln ⊢
 refine N.fnC Tryz.func25 k25 fun Q hQ hQN => ?_
 repeat' (first | rw [mrow_t17] | rw [boV_t8] | refine T.callQ [1] e64 rfl (hln) (by exact pA) rfl rfl rfl (by exact rN) ?_ | exact ⟨⟩ | intro (K:KT) hK | intro hcd | (refine go1 ?_ ?_ <;> try clear hK K) | fail)
 refine N.loop (σ := Nat×Nat×Core×List Dv×Bus) (fun s => [(1,.ptr 0 1 0 0),(2,I n),(3,.ptr 2 1 0 0),(7,.c (.bool q)),(19,I n),(20,I s.1)]) (fun s => [⟨1,17,[mrow t s.2.2.1.r s.2.2.1.op s.2.2.1.a s.2.2.1.nmi (.psl 1 v 0 B.chips.length) s.2.2.2.2.d s.2.2.2.2.addr s.2.2.2.2.data]⟩,⟨v,2,s.2.2.2.1.map dvC⟩,⟨1,8,[boV B]⟩]) (fun s => s.1 + s.2.1 = n∧DvsOk B.chips s.2.2.2.1∧(s.1 + (glG B q s.2.1 s.2.2.1 s.2.2.2.1 s.2.2.2.2).1,(glG B q s.2.1 s.2.2.1 s.2.2.2.1 s.2.2.2.2).2) = G) (fun s => s.2.1) (0,n,⟨kr,kop,ka,kn⟩,ds0,⟨bx,by_,bz⟩) ⟨Nat.zero_add _,hds,by dsimp only; rw [hG,Nat.zero_add]⟩ (Weaks.sel (by exact sB) rfl) fun w hw R hC => ?_
 obtain ⟨i,f,⟨r,op,a,b⟩,ds,⟨x,y,z⟩⟩ := w
 obtain ⟨hf,hok,hst⟩ := hw
 dsimp only at hf hok hst hC ⊢
 cases f with
 | zero =>
  obtain rfl:i = n := by omega
  unfold glG at hst
  subst hst
  repeat' (first | exact ⟨⟩ | intro (K:KT) hK | intro hcd | (refine go1 ?_ ?_ <;> try clear hK K) | fail)
  exact WS.gc [0,1] 1 rfl (by exact oO) .rfl
 | succ f =>
  have hask := ask_c B.cpu ⟨r,op,a,b⟩ q hB.cpu.1
  have had := askM_addr B.cpu ⟨r,op,a,b⟩ q
  unfold glG at hst
  unfold glT at hst
  have nx := fun fr h s h1 => hC fr h (i + 1,f,s) h1 (by dsimp only; omega)
  clear hC
  generalize askM B.cpu ⟨r,op,a,b⟩ q = w at *
  obtain ⟨⟨r3,op3,a3,b3⟩,⟨d3,ad3,da3⟩⟩ := w
  dsimp only [coC,buC] at hask had hst nx ⊢
  have hpl := plain_ok B hB d3 ad3 da3 had
  cases hp:plainM B.chips ⟨d3,ad3,da3⟩ with
  | false =>
   rw [hp] at hst hpl
   rw [if_neg (by decide)] at hst
   subst hst
   repeat' (first | rw [mrow_co] | rw [boV_t8] | rw [boV_cpu] | (show WC _ _ _ _ _ _ _ _ _; first | refine T.call0 e63 rfl hask ?_ | refine T.call0 e69 rfl hpl ?_) | exact ⟨⟩ | intro (K:KT) hK | intro hcd | (refine go1 ?_ ?_ <;> try clear hK K) | fail)
   exact WS.gc [0,1] 1 rfl (by exact oO) .rfl
  | true =>
   rw [hp] at hst hpl
   rw [if_pos rfl] at hst
   have hok2 := accM_ok B.chips d3 ad3 da3 ds hok
   have hfi := find_k B ad3 hB.place (by omega) had
   have key:∀ X:Nat×Core×List Dv×Bus,(i + (X.1 + 1),X.2) = G→(i + 1 + X.1,X.2) = G := fun X h => by rw [← h,Nat.add_assoc,Nat.add_comm 1]
   replace hst := key _ hst
   clear key
   cases hF:findC B.chips ad3 with
   | none =>
    rw [show findR B.chips ad3 = .tup [I 0,I 0,.c (.bool false)] by unfold findR; rw [hF]] at hfi
    have hac:accM B.chips d3 ad3 da3 ds = (ds,if d3 = 1 then 255 else da3) := by unfold accM; rw [hF]
    rw [hac] at hst hok2
    dsimp only at hst hok2
    by_cases h1:d3 = 1
    ·rw [if_pos h1] at hst
     have htl := tell_c B.cpu hB.cpu ⟨r3,op3,a3,b3⟩ 255
     generalize tellM B.cpu ⟨r3,op3,a3,b3⟩ 255 = kk at *
     obtain ⟨r5,op5,a5,b5⟩ := kk
     dsimp only [coC] at htl
     subst h1
     repeat' (first | rw [mrow_co] | rw [mco_mren] | rw [mrow_stc] | rw [mrow_bus] | rw [boV_t8] | rw [boV_cpu] | rw [gl_z12] | rw [gl_t12] | rw [gl_z3] | rw [gl_st2] | rw [gl_t3] | (show WC _ _ _ _ _ _ _ _ _; first | refine T.call0 e63 rfl hask ?_ | refine T.call0 e69 rfl hpl ?_ | refine T.call0 e70 rfl hfi ?_ | refine T.call0 e66 rfl htl ?_) | exact ⟨⟩ | intro (K:KT) hK | intro hcd | (refine go1 ?_ ?_ <;> try clear hK K) | fail)
     all_goals exact nx _ _ (⟨r5,op5,a5,b5⟩,ds,⟨1,ad3,255⟩) ⟨by omega,hok2,hst⟩ (by exact .G [0,1,2] 1)
    ·rw [if_neg h1] at hst
     have htl := tell_c B.cpu hB.cpu ⟨r3,op3,a3,b3⟩ da3
     generalize tellM B.cpu ⟨r3,op3,a3,b3⟩ da3 = kk at *
     obtain ⟨r5,op5,a5,b5⟩ := kk
     dsimp only [coC] at htl
     repeat' (first | rw [mrow_co] | rw [mco_mren] | rw [mrow_stc] | rw [mrow_bus] | rw [boV_t8] | rw [boV_cpu] | rw [gl_z12] | rw [gl_t12] | rw [gl_z3] | rw [gl_st2] | rw [gl_t3] | (show WC _ _ _ _ _ _ _ _ _; first | refine T.call0 e63 rfl hask ?_ | refine T.call0 e69 rfl hpl ?_ | refine T.call0 e70 rfl hfi ?_ | refine T.call0 e66 rfl htl ?_) | exact ⟨⟩ | intro (K:KT) hK | intro hcd | (refine go1 ?_ ?_ <;> try clear hK K) | fail)
     all_goals exact nx _ _ (⟨r5,op5,a5,b5⟩,ds,⟨d3,ad3,da3⟩) ⟨by omega,hok2,hst⟩ (by exact .G [0,1,2] 1)
   | some j =>
    obtain ⟨hj,hr1,hr2⟩ := findC_at hF
    have hjl:j < ds.length := by have := hok.1; omega
    have hdj := hok.2 j hj hjl
    have hrd := rdF_ok _ _ hdj (ad3 - B.chips[j].base) ⟨hr1,hr2⟩
    have hwr := wrF_ok _ _ hdj (ad3 - B.chips[j].base) da3 ⟨hr1,hr2⟩
    rw [show findR B.chips ad3 = .tup [I j,I (ad3 - B.chips[j].base),.c (.bool true)] by unfold findR; rw [hF]; dsimp only; rw [List.getD_eq_getElem?_getD,List.getElem?_eq_getElem hj]; rfl] at hfi
    have hac:accM B.chips d3 ad3 da3 ds = (if d3 = 1 then (ds.set j (rdF B.chips[j] (ad3 - B.chips[j].base) ds[j]).1,(rdF B.chips[j] (ad3 - B.chips[j].base) ds[j]).2) else if d3 = 2 then (ds.set j (wrF B.chips[j] (ad3 - B.chips[j].base) da3 ds[j]),da3) else (ds,da3)) := by unfold accM; simp only [hF,List.getElem?_eq_getElem hj,List.getElem?_eq_getElem hjl]
    rw [hac] at hst hok2
    clear hac
    have hm := mget chV B.chips j hj
    have hm2 := dev_get hjl rfl
    obtain ⟨-,-,hrd⟩ := hrd
    obtain ⟨-,hwr,-⟩ := hwr
    generalize ad3 - B.chips[j].base = off at *
    generalize rdF B.chips[j] off ds[j] = p at *
    generalize wrF B.chips[j] off da3 ds[j] = u at *
    generalize B.chips[j] = c at *
    generalize ds[j] = dd at *
    obtain ⟨xn,xk,xb,xs,xd⟩ := c
    obtain ⟨d1,d2⟩ := dd
    obtain ⟨⟨p1,p2⟩,pv⟩ := p
    obtain ⟨u1,u2⟩ := u
    have hs1:(ds.map dvC).set (j:Int).toNat [.sl 1 (cells p1),.sl 1 (bcells p2)] = (ds.set j (p1,p2)).map dvC := by rw [Int.toNat_natCast,List.map_set]; rfl
    have hs2:(ds.map dvC).set (j:Int).toNat [.sl 1 (cells u1),.sl 1 (bcells u2)] = (ds.set j (u1,u2)).map dvC := by rw [Int.toNat_natCast,List.map_set]; rfl
    dsimp only [chV,dvC] at hm hm2 hrd hwr
    by_cases h1:d3 = 1
    ·rw [if_pos h1] at hst hok2
     dsimp only at hst hok2
     have htl := tell_c B.cpu hB.cpu ⟨r3,op3,a3,b3⟩ pv
     generalize tellM B.cpu ⟨r3,op3,a3,b3⟩ pv = kk at *
     obtain ⟨r5,op5,a5,b5⟩ := kk
     dsimp only [coC] at htl
     subst h1
     repeat' (first | rw [mrow_co] | rw [mco_mren] | rw [mrow_stc] | rw [mrow_bus] | rw [boV_t8] | rw [boV_cpu] | rw [gl_z12] | rw [gl_t12] | rw [gl_z3] | rw [gl_st2] | rw [gl_t3] | refine rI hm ?_ | refine rL hm2 ?_ | refine rS hm2 ?_ | rw [show spl ([.sl 1 (cells d1),.sl 1 (bcells d2)]) 0 [.sl 1 (cells p1),.sl 1 (bcells p2)] = [.sl 1 (cells p1),.sl 1 (bcells p2)] from rfl] | rw [hs1] | (show WC _ _ _ _ _ _ _ _ _; first | refine T.call0 e63 rfl hask ?_ | refine T.call0 e69 rfl hpl ?_ | refine T.call0 e70 rfl hfi ?_ | refine T.call0 e66 rfl htl ?_ | refine T.call0 e71 rfl hrd ?_) | exact ⟨⟩ | intro (K:KT) hK | intro hcd | (refine go1 ?_ ?_ <;> try clear hK K) | fail)
     all_goals exact nx _ _ (⟨r5,op5,a5,b5⟩,ds.set j (p1,p2),⟨1,ad3,pv⟩) ⟨by omega,hok2,hst⟩ (by exact .G [0,1,2] 1)
    ·rw [if_neg h1] at hst hok2
     by_cases h2:d3 = 2
     ·rw [if_pos h2] at hst hok2
      dsimp only at hst hok2
      have htl := tell_c B.cpu hB.cpu ⟨r3,op3,a3,b3⟩ da3
      generalize tellM B.cpu ⟨r3,op3,a3,b3⟩ da3 = kk at *
      obtain ⟨r5,op5,a5,b5⟩ := kk
      dsimp only [coC] at htl
      subst h2
      repeat' (first | rw [mrow_co] | rw [mco_mren] | rw [mrow_stc] | rw [mrow_bus] | rw [boV_t8] | rw [boV_cpu] | rw [gl_z12] | rw [gl_t12] | rw [gl_z3] | rw [gl_st2] | rw [gl_t3] | refine rI hm ?_ | refine rL hm2 ?_ | refine rS hm2 ?_ | rw [show spl ([.sl 1 (cells d1),.sl 1 (bcells d2)]) 0 [.sl 1 (cells u1),.sl 1 (bcells u2)] = [.sl 1 (cells u1),.sl 1 (bcells u2)] from rfl] | rw [hs2] | (show WC _ _ _ _ _ _ _ _ _; first | refine T.call0 e63 rfl hask ?_ | refine T.call0 e69 rfl hpl ?_ | refine T.call0 e70 rfl hfi ?_ | refine T.call0 e66 rfl htl ?_ | refine T.call0 e72 rfl hwr ?_) | exact ⟨⟩ | intro (K:KT) hK | intro hcd | (refine go1 ?_ ?_ <;> try clear hK K) | fail)
      all_goals exact nx _ _ (⟨r5,op5,a5,b5⟩,ds.set j (u1,u2),⟨2,ad3,da3⟩) ⟨by omega,hok2,hst⟩ (by exact .G [0,1,2] 1)
     ·rw [if_neg h2] at hst hok2
      dsimp only at hst hok2
      have htl := tell_c B.cpu hB.cpu ⟨r3,op3,a3,b3⟩ da3
      generalize tellM B.cpu ⟨r3,op3,a3,b3⟩ da3 = kk at *
      obtain ⟨r5,op5,a5,b5⟩ := kk
      dsimp only [coC] at htl
      repeat' (first | rw [mrow_co] | rw [mco_mren] | rw [mrow_stc] | rw [mrow_bus] | rw [boV_t8] | rw [boV_cpu] | rw [gl_z12] | rw [gl_t12] | rw [gl_z3] | rw [gl_st2] | rw [gl_t3] | (show WC _ _ _ _ _ _ _ _ _; first | refine T.call0 e63 rfl hask ?_ | refine T.call0 e69 rfl hpl ?_ | refine T.call0 e70 rfl hfi ?_ | refine T.call0 e66 rfl htl ?_) | exact ⟨⟩ | intro (K:KT) hK | intro hcd | (refine go1 ?_ ?_ <;> try clear hK K) | fail)
      all_goals exact nx _ _ (⟨r5,op5,a5,b5⟩,ds,⟨d3,ad3,da3⟩) ⟨by omega,hok2,hst⟩ (by exact .G [0,1,2] 1)
theorem eqE_ok (a:List Ev) (ha:a.length ≤ 100000):FnE Tryz.prog 13 [.sl 3 (a.map evV),.sl 3 (a.map evV)] [] (.c (.bool true)) []:=by
 refine N.fnC Tryz.func13 k13 fun Q hQ hQN => ?_
 repeat' (first | rw [List.length_map] | exact ⟨⟩ | intro (K:KT) hK | intro hcd | (refine go1 ?_ ?_ <;> try clear hK K) | fail)
 all_goals first | (exfalso; omega) | skip
 refine N.loop (σ := Nat) (fun i => [(0,.sl 3 (a.map evV)),(1,.sl 3 (a.map evV)),(12,I a.length),(13,I i)]) (fun i => []) (fun i => i ≤ a.length) (fun i => a.length - i) 0 (Nat.zero_le _) (by exact .G [] 1) fun i hi R hC => ?_
 by_cases hil:i < a.length
 ·have hm := mget evV a i hil
  generalize a[i] = x at *
  obtain ⟨x1,x2,x3⟩ := x
  dsimp only [evV] at hm
  repeat' (first | refine rI hm ?_ | (show WOpsT _ (⟨_,.eqs _ _ _ _,none⟩ :: _) _ _ _ _; refine T.eqs (us := [.int .i64 x1,.string x2,.int .i64 x3]) (vs := [.int .i64 x1,.string x2,.int .i64 x3]) (b := true) rfl rfl (by simp [eqLv,eqC]) ?_) | exact ⟨⟩ | intro (K:KT) hK | intro hcd | (refine go1 ?_ ?_ <;> try clear hK K) | fail)
  exact hC _ _ (i + 1) (by omega) (by omega) (by exact .G [] 1)
 ·obtain rfl:i = a.length := by omega
  repeat' (first | exact ⟨⟩ | intro (K:KT) hK | intro hcd | (refine go1 ?_ ?_ <;> try clear hK K) | fail)
  exact WS.c rfl rfl
def zE:List V := [I 0,.c (.string ⟨#[]⟩),I 0]
end Go.Proofs.YtonhglhdlgbcnacGreat.Calc
namespace Go.Proofs.YtonhglhdlgbcnacGreat.Calc
open Go Code
set_option linter.unusedSimpArgs false
set_option linter.unusedVariables false
set_option maxRecDepth 20000
set_option maxHeartbeats 4000000
attribute [local irreducible] WOpsT AW AK RK AKW UK UC
theorem same1_ok (d:Dv) (hd:SmlD d):FnE Tryz.prog 31 [.agg (dvC d),.agg (dvC d)] [] (.c (.bool true)) []:=by
 obtain ⟨d1,d2⟩ := d
 obtain ⟨s1,s2⟩ := hd
 have h1 := eqI_ok d1 s1
 have h2 := eqB_ok d2 s2
 dsimp only [dvC]
 refine N.fnC Tryz.func31 k31 fun Q hQ hQN => ?_
 repeat' (first | (show WC _ _ _ _ _ _ _ _ _; first | refine T.call0 e32 rfl h1 ?_ | refine T.call0 e33 rfl h2 ?_) | exact ⟨⟩ | intro (K:KT) hK | intro hcd | (refine go1 ?_ ?_ <;> try clear hK K) | fail)
 all_goals first | exact WS.c rfl rfl | (exfalso; omega) | trace_state
theorem eqDv_ok (l:List Dv) (hl:l.length ≤ 100000) (f:Nat) (he:enters Tryz.prog f = true) (hf:∀ x ∈ l,FnE Tryz.prog f [.agg (dvC x),.agg (dvC x)] [] (.c (.bool true)) []):FnE Tryz.prog 30 [.sl 2 (l.map dvC),.sl 2 (l.map dvC),.fn f []] [] (.c (.bool true)) []:=by
 refine N.fnC Tryz.func30 k30 fun Q hQ hQN => ?_
 repeat' (first | rw [List.length_map] | exact ⟨⟩ | intro (K:KT) hK | intro hcd | (refine go1 ?_ ?_ <;> try clear hK K) | fail)
 all_goals first | (exfalso; omega) | skip
 refine N.loop (σ := Nat) (fun i => [(1,.sl 2 (l.map dvC)),(2,.fn f []),(15,.sl 2 (l.map dvC)),(16,I l.length),(17,I i)]) (fun i => []) (fun i => i ≤ l.length) (fun i => l.length - i) 0 (Nat.zero_le _) (by exact .G [] 1) fun i hi R hC => ?_
 by_cases hil:i < l.length
 ·have hm := mget dvC l i hil
  have hx := hf _ (List.getElem_mem hil)
  generalize l[i] = x at *
  obtain ⟨x1,x2⟩ := x
  dsimp only [dvC] at hm hx
  repeat' (first | refine rI hm ?_ | refine T.ofFn rfl (C.zero he rfl hx ?_) | rw [Bool.not_true] | exact ⟨⟩ | intro (K:KT) hK | intro hcd | (refine go1 ?_ ?_ <;> try clear hK K) | fail)
  all_goals first | exact hC _ _ (i + 1) (by omega) (by omega) (by exact .G [] 1) | (exfalso; omega) | (exfalso; simp at *; done)
 ·obtain rfl:i = l.length := by omega
  repeat' (first | exact ⟨⟩ | intro (K:KT) hK | intro hcd | (refine go1 ?_ ?_ <;> try clear hK K) | fail)
  exact WS.c rfl rfl
theorem msame_ok (t:Int) (r:Nat→Int) (op a:Int) (b:Bool) (ds:List Dv) (x y z:Int) (hd:∀ d ∈ ds,SmlD d) (hl:ds.length ≤ 100000):FnE Tryz.prog 12 [.agg (maV t r op a b ds x y z),.agg (maV t r op a b ds x y z)] [] (.c (.bool true)) []:=by
 have h := eqDv_ok ds hl 31 e31 fun d h => same1_ok d (hd d h)
 dsimp only [maV]
 refine N.fnC Tryz.func12 k12 fun Q hQ hQN => ?_
 repeat' (first | (show WOpsT _ (⟨_,.eqs _ _ _ _,none⟩ :: _) _ _ _ _; refine T.eqs (b := true) rfl rfl (by simp [eqLv,eqC]) ?_) | refine T.call0 e30 rfl h ?_ | exact ⟨⟩ | intro (K:KT) hK | intro hcd | (refine go1 ?_ ?_ <;> try clear hK K) | fail)
 all_goals first | exact WS.c rfl rfl | (exfalso; omega) | trace_state
end Go.Proofs.YtonhglhdlgbcnacGreat.Calc
namespace Go.Proofs.YtonhglhdlgbcnacGreat.Calc
open Go
set_option linter.unusedVariables false
set_option linter.unusedSimpArgs false
def vnmB (s:ByteArray):Bool := decide (1 ≤ s.size) && decide (s.size ≤ 20) && (match s[0]? with
 | some b => decide (97 ≤ b.toNat) && decide (b.toNat ≤ 122)
 | none => false) && (nmB s).all fun b => decide ((97 ≤ b∧b ≤ 122)∨(48 ≤ b∧b ≤ 57)∨b = 45)
theorem vnm_of (s:ByteArray) (h:vnmB s = true):VName s:=by
 unfold vnmB at h
 rw [Bool.and_eq_true,Bool.and_eq_true,Bool.and_eq_true] at h
 obtain ⟨⟨⟨h1,h2⟩,h3⟩,h4⟩ := h
 refine ⟨⟨of_decide_eq_true h1,of_decide_eq_true h2⟩,?_,fun x hx => by have h5 := List.all_eq_true.1 h4 x hx; unfold okCh; exact of_decide_eq_true h5⟩
 cases hs:s[0]? with
 | none => rw [hs] at h3; cases h3
 | some b =>
  rw [hs] at h3
  dsimp only at h3
  rw [Bool.and_eq_true] at h3
  have a := of_decide_eq_true h3.1
  have b' := of_decide_eq_true h3.2
  exact ⟨b,rfl,by omega,by omega⟩
theorem chipN_v:∀ j:Nat,j < 5→vnmB (chipN j) = true∧chipN j ≠ ⟨#[99,112,117]⟩∧chipN j ≠ ⟨#[114,97,109]⟩∧chipN j ≠ ⟨#[114,111,109]⟩ := by decide +kernel
theorem chipN_inj:∀ j:Nat,j < 5→∀ k:Nat,k < j→chipN k ≠ chipN j := by decide +kernel
structure BdInv (i:Nat) (a:Int) (cs:List Chp):Prop where
 len:cs.length = i + 1
 lo:∀ c ∈ cs,0 ≤ c.base∧0 ≤ c.size∧c.base + c.size ≤ a
 order:∀ j k (h:k < cs.length) (hjk:j < k),cs[j].base + cs[j].size ≤ cs[k].base
 names:∀ j (h:j < cs.length),cs[j].name = if j = 0 then ⟨#[114,97,109]⟩ else chipN (j - 1)
theorem goBd_place:∀ (n i:Nat) (a:Int) (cs:List Chp) (ws:List Wir) (l:List Int),i + n ≤ 4→57344 ≤ a∧a ≤ 57344 + 48 * i→BdInv i a cs→∃ a':Int,a' ≤ 57344 + 48 * (i + n:Nat)∧BdInv (i + n) a' (goBd n i a cs ws l).1:=by
 intro n
 induction n with
 | zero => intro i a cs ws l _ ha h; exact ⟨a,by rw [Nat.add_zero]; exact ha.2,h⟩
 | succ n ih =>
  intro i a cs ws l hn ha h
  have hz := szN_r (kdN (sval l 8).toNat)
  unfold goBd
  generalize kdN (sval l 8).toNat = k at *
  have hc:(stepBd k i a (srest l 8)).1.name = chipN i∧(stepBd k i a (srest l 8)).1.base = a∧(stepBd k i a (srest l 8)).1.size = szN k := ⟨rfl,rfl,rfl⟩
  generalize (stepBd k i a (srest l 8)).1 = c at *
  obtain ⟨c1,c2,c3⟩ := hc
  have hlast:∀ (h:cs.length < (cs ++ [c]).length),(cs ++ [c])[cs.length] = c := fun h => by simp
  obtain ⟨a',h1,h2⟩ := ih (i + 1) (a + ((szN k:Int) + 15) / 16 * 16) (cs ++ [c]) (ws ++ (stepBd k i a (srest l 8)).2.1) (stepBd k i a (srest l 8)).2.2 (by omega) (by omega) (by
   refine ⟨by rw [List.length_append,h.len]; rfl,?_,?_,?_⟩
   ·intro x hx
    rcases List.mem_append.1 hx with hx | hx
    ·have := h.lo x hx; omega
    ·simp only [List.mem_singleton] at hx; subst hx; omega
   ·intro j q hq hjq
    by_cases hq2:q < cs.length
    ·rw [List.getElem_append_left hq2,List.getElem_append_left (by omega)]; exact h.order j q hq2 hjq
    ·have:q = cs.length := by rw [List.length_append] at hq; simp at hq; omega
     subst this
     rw [hlast hq,List.getElem_append_left hjq,c2]
     have := h.lo cs[j] (List.getElem_mem _)
     omega
   ·intro j hj
    by_cases hj2:j < cs.length
    ·rw [List.getElem_append_left hj2]; exact h.names j hj2
    ·have:j = cs.length := by rw [List.length_append] at hj; simp at hj; omega
     subst this
     rw [hlast hj,c1,h.len,if_neg (by omega)]
     rfl)
  exact ⟨a',by rw [show i + (n + 1) = i + 1 + n by omega]; exact h1,by rw [show i + (n + 1) = i + 1 + n by omega]; exact h2⟩
theorem mkBrd_places (l:List Int):(∀ c ∈ (mkBrd l).chips,VPlace c)∧∀ i j (h:j < (mkBrd l).chips.length) (hij:i < j),Apart (mkBrd l).chips[i] (mkBrd l).chips[j]∧(mkBrd l).chips[i].base + (mkBrd l).chips[i].size ≤ (mkBrd l).chips[j].base:=by
 have r := sval_range l 5 (by decide)
 obtain ⟨a',h1,h2⟩ := goBd_place (sval l 5).toNat 0 57344 [ramC] [] (srest l 5) (by omega) (by decide) ⟨rfl,by
  intro c hc; simp only [List.mem_singleton] at hc; subst hc; decide,fun j k h hjk => absurd h (by simp; omega),fun j h => by
   have:j = 0 := by simp at h; omega
   subst this; rfl⟩
 rw [Nat.zero_add] at h1 h2
 have hcs:(mkBrd l).chips = (goBd (sval l 5).toNat 0 57344 [ramC] [] (srest l 5)).1 ++ [romC (bdOf l).2.2] := rfl
 refine (fun (key:∀ cs2,cs2 = (goBd (sval l 5).toNat 0 57344 [ramC] [] (srest l 5)).1 ++ [romC (bdOf l).2.2]→(∀ c ∈ cs2,VPlace c)∧∀ i j (h:j < cs2.length) (hij:i < j),Apart cs2[i] cs2[j]∧cs2[i].base + cs2[i].size ≤ cs2[j].base) => key _ hcs) ?_
 intro cs2 hcs2
 clear hcs
 subst hcs2
 generalize (goBd (sval l 5).toNat 0 57344 [ramC] [] (srest l 5)).1 = cs at *
 generalize hrc:romC (bdOf l).2.2 = rc
 have hr:rc.name = ⟨#[114,111,109]⟩∧rc.base = 65280∧rc.size = 256 := by rw [← hrc]; exact ⟨rfl,rfl,rfl⟩
 obtain ⟨r1,r2,r3⟩ := hr
 have hnm:∀ j (hj:j < cs.length),vnmB cs[j].name = true∧cs[j].name ≠ ⟨#[99,112,117]⟩∧cs[j].name ≠ ⟨#[114,111,109]⟩ := fun j hj => by
  have hl := h2.len
  rw [h2.names j hj]
  by_cases h0:j = 0
  ·rw [if_pos h0]; exact ⟨by decide +kernel,by decide,by decide⟩
  ·rw [if_neg h0]
   obtain ⟨q1,q2,q3,q4⟩ := chipN_v (j - 1) (by omega)
   exact ⟨q1,q2,q4⟩
 have hlast:∀ (h:cs.length < (cs ++ [rc]).length),(cs ++ [rc])[cs.length] = rc := fun h => by simp
 constructor
 ·intro c hc
  rcases List.mem_append.1 hc with hc | hc
  ·obtain ⟨j,hj,rfl⟩ := List.getElem_of_mem hc
   obtain ⟨q1,q2,q3⟩ := hnm j hj
   have := h2.lo _ hc
   exact ⟨vnm_of _ q1,q2,this.1,by omega⟩
  ·simp only [List.mem_singleton] at hc; subst hc
   exact ⟨by rw [r1]; exact vnm_of _ (by decide +kernel),by rw [r1]; decide,by omega,by omega⟩
 ·intro i j hj hij
  by_cases hj2:j < cs.length
  ·rw [List.getElem_append_left hj2,List.getElem_append_left (by omega)]
   have ho := h2.order i j hj2 hij
   refine ⟨⟨?_,.inl ho⟩,ho⟩
   rw [h2.names i (by omega),h2.names j hj2,if_neg (show ¬ j = 0 by omega)]
   have hl := h2.len
   by_cases h0:i = 0
   ·rw [if_pos h0]
    exact fun h => (chipN_v (j - 1) (by omega)).2.2.1 h.symm
   ·rw [if_neg h0]
    exact chipN_inj (j - 1) (by omega) (i - 1) (by omega)
  ·have:j = cs.length := by rw [List.length_append] at hj; simp at hj; omega
   subst this
   rw [hlast hj,List.getElem_append_left hij]
   have hlo := h2.lo cs[i] (List.getElem_mem _)
   have ho:cs[i].base + cs[i].size ≤ rc.base := by omega
   refine ⟨⟨?_,.inl ho⟩,ho⟩
   rw [r1]; exact (hnm i hij).2.2
structure Rg where
 fr:Int
 to:Int
 ch:Int
def rgV (r:Rg):List V := [I r.fr,I r.to,I r.ch]
instance:Flat rgV := ⟨fun a x hx => by simp [rgV] at hx; rcases hx with rfl | rfl | rfl <;> exact .inl ⟨_,rfl⟩⟩
def ixA (cs:List Chp) (a:Int):Int := match findC cs a with
 | some i => (i:Int)
 | none => -1
def stepR (l:List Rg) (n:Nat) (x:Int):List Rg := match l.getLast? with
 | some r => if r.ch = x then l.dropLast ++ [⟨r.fr,(n:Int) + 1,r.ch⟩] else l ++ [⟨n,(n:Int) + 1,x⟩]
 | none => l ++ [⟨n,(n:Int) + 1,x⟩]
def mapR (cs:List Chp):Nat→List Rg
 | 0 => []
 | n + 1 => stepR (mapR cs n) n (ixA cs n)
def sumR (l:List Rg) (k:Int):Int := (l.map fun r => if r.ch = k then r.to - r.fr else 0).foldr (· + ·) 0
structure RInv (cs:List Chp) (n:Nat) (l:List Rg):Prop where
 rg:∀ r ∈ l,0 ≤ r.fr∧r.fr < r.to∧r.to ≤ n∧(-1 ≤ r.ch∧r.ch < cs.length)∧∀ a,r.fr ≤ a→a < r.to→ixA cs a = r.ch
 all:∀ a,0 ≤ a→a < (n:Int)→∃ r ∈ l,r.fr ≤ a∧a < r.to
 last:∀ r,l.getLast? = some r→r.to = n
 len:l.length ≤ n
end Go.Proofs.YtonhglhdlgbcnacGreat.Calc
