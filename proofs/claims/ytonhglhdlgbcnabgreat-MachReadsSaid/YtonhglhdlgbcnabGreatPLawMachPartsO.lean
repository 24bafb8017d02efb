/- Several texts in one (FnStepB, FnDoG), for the proof of LawMachParts. No condition beyond those in each lemma. -/
import Derived.Test.YtonhglhdlgbcnabGreatPLawMachPartsM
import Derived.Test.YtonhglhdlgbcnabGreatPLawMachPartsN
import Derived.Test.YtonhglhdlgbcnabGreatPLawMachPartsD
namespace Go.Proofs.YtonhglhdlgbcnabGreat.Calc
open Go Code
set_option linter.unusedSimpArgs false
set_option linter.unusedVariables false
set_option maxRecDepth 20000
set_option maxHeartbeats 4000000
attribute [local irreducible] WOpsT AW AK RK AKW UK UC
structure Ev where
 at_:Int
 chip:ByteArray
 n:Int
def evV (x:Ev):List V := [I x.at_,.c (.string x.chip),I x.n]
instance:Flat evV := ⟨fun a x hx => by simp [evV] at hx; rcases hx with rfl | rfl | rfl <;> exact .inl ⟨_,rfl⟩⟩
def mix {α:Type} (l' l:List α) (j:Nat):List α := l'.take j ++ l.drop j
theorem mix_0 {α:Type} (l' l:List α):mix l' l 0 = l := by simp [mix]
theorem mix_end {α:Type} {l' l:List α} (h:l'.length = l.length):mix l' l l.length = l' := by simp [mix,← h]
theorem mix_len {α:Type} {l' l:List α} (h:l'.length = l.length) (j:Nat):(mix l' l j).length = l.length := by simp [mix]; omega
theorem mix_get {α:Type} {l' l:List α} (h:l'.length = l.length) {j:Nat} (hj:j < l.length):(mix l' l j)[j]'(by rw [mix_len h]; exact hj) = l[j]:=by
 unfold mix
 rw [List.getElem_append_right (by rw [List.length_take]; omega)]
 simp only [List.length_take,List.getElem_drop]
 congr 1; omega
theorem mix_set {α:Type} {l' l:List α} (h:l'.length = l.length) {j:Nat} (hj:j < l.length):(mix l' l j).set j (l'[j]'(by omega)) = mix l' l (j + 1):=by
 unfold mix
 rw [List.set_append,if_neg (by rw [List.length_take]; omega),List.take_succ_eq_append_getElem (by omega),List.append_assoc]
 congr 1
 rw [show j - (List.take j l').length = 0 by rw [List.length_take]; omega,List.drop_eq_getElem_cons hj]; rfl
theorem mix_same {α:Type} {l' l:List α} (h:l'.length = l.length) {j:Nat} (hj:j < l.length) (he:l'[j]'(by omega) = l[j]):mix l' l (j + 1) = mix l' l j:=by
 rw [← mix_set h hj,he,← mix_get h hj,List.set_getElem_self]
def sCpu:ByteArray := ⟨#[99,112,117]⟩
def giveC (x:Ev) (c:Chp) (d:Dv):Dv := if c.name = x.chip then inF c d x.n else d
def giveD (cs:List Chp) (x:Ev) (ds:List Dv):List Dv := List.zipWith (giveC x) cs ds
def giv1 (cs:List Chp) (t:Int) (s:Bool×List Dv) (x:Ev):Bool×List Dv := if x.at_ = t then (if x.chip = sCpu then (true,s.2) else (s.1,giveD cs x s.2)) else s
def givM (cs:List Chp) (t:Int) (ins:List Ev) (s:Bool×List Dv):Bool×List Dv := ins.foldl (giv1 cs t) s
def DvsOk (cs:List Chp) (ds:List Dv):Prop := ds.length = cs.length∧∀ i (h:i < cs.length) (h2:i < ds.length),DvOk cs[i] ds[i]
theorem zw_ok {cs:List Chp} {ds:List Dv} (f:Chp→Dv→Dv) (hf:∀ c ∈ cs,∀ d,DvOk c d→DvOk c (f c d)) (h:DvsOk cs ds):DvsOk cs (List.zipWith f cs ds):=by
 obtain ⟨hl,h⟩ := h
 refine ⟨by rw [List.length_zipWith]; omega,fun i h1 h2 => ?_⟩
 rw [List.getElem_zipWith]
 exact hf _ (List.getElem_mem h1) _ (h i h1 (by omega))
theorem set_ok {cs:List Chp} {ds:List Dv} {i:Nat} (hi:i < cs.length) {d:Dv} (hd:DvOk cs[i] d) (h:DvsOk cs ds):DvsOk cs (ds.set i d):=by
 obtain ⟨hl,h⟩ := h
 refine ⟨by rw [List.length_set]; exact hl,fun j h1 h2 => ?_⟩
 rw [List.getElem_set]
 split
 ·rename_i e; subst e; exact hd
 ·exact h j h1 (by simpa using h2)
theorem giveC_ok (x:Ev) (c:Chp) (d:Dv) (h:DvOk c d):DvOk c (giveC x c d):=by
 unfold giveC; split
 ·exact (inF_ok c d h x.n).1
 ·exact h
theorem giv1_ok (cs:List Chp) (t:Int) (x:Ev) (s:Bool×List Dv) (h:DvsOk cs s.2):DvsOk cs (giv1 cs t s x).2:=by
 unfold giv1 giveD
 split
 ·split
  ·exact h
  ·exact zw_ok _ (fun c _ d hd => giveC_ok x c d hd) h
 ·exact h
theorem givM_ok (cs:List Chp) (t:Int):∀ (ins:List Ev) (s:Bool×List Dv),DvsOk cs s.2→DvsOk cs (givM cs t ins s).2:=by
 intro ins
 induction ins with
 | nil => intro s h; exact h
 | cons x l ih => intro s h; exact ih _ (giv1_ok cs t x s h)
theorem mnmi_ok (r:Nat→Int) (op a:Int) (b:Bool):FnE Tryz.prog 109 [.agg (coA r op a b)] [] (.agg (coA r op a true)) []:=by
 refine N.fnC Tryz.func109 k109 fun Q hQ hQN => ?_
 repeat' (first | exact ⟨⟩ | intro (K:KT) hK | intro hcd | (refine go1 ?_ ?_ <;> try clear hK K) | fail)
 exact WS.drop (n := 0) rfl rfl
theorem mrow_co (t:Int) (r:Nat→Int) (op a:Int) (b:Bool) (d:V) (x y z:Int):((mrow t r op a b d x y z).drop 1).take 12 = coA r op a b := rfl
theorem mrow_stc (t:Int) (r r':Nat→Int) (op a op' a':Int) (b b':Bool) (d:V) (x y z:Int):spl (mrow t r op a b d x y z) 1 (coA r' op' a' b') = mrow t r' op' a' b' d x y z := rfl
theorem mco_mren (r:Nat→Int) (op a:Int) (b:Bool) (ks:List Nat):(coA r op a b).map (ren ks) = coA r op a b := rfl
theorem gives_ok (B:Brd) (t:Int) (r:Nat→Int) (op a:Int) (b:Bool) (v n:Nat) (ds:List Dv) (x y z:Int) (ins:List Ev) (h12:B.chips.length ≤ 12) (hn:n = B.chips.length) (hin:ins.length ≤ 100000) (hds:DvsOk B.chips ds):FnE Tryz.prog 62 [.agg (boV B),.ptr 0 1 0 0,.sl 3 (ins.map evV)] [⟨1,17,[mrow t r op a b (.psl 1 v 0 n) x y z]⟩,⟨v,2,ds.map dvC⟩] (.tup []) [⟨1,17,[mrow t r op a (givM B.chips t ins (b,ds)).1 (.psl 1 v 0 n) x y z]⟩,⟨v,2,(givM B.chips t ins (b,ds)).2.map dvC⟩]:=by
 generalize hG:givM B.chips t ins (b,ds) = G
 refine N.fnC Tryz.func62 k62 fun Q hQ hQN => ?_
 repeat' (first | rw [List.length_map] | exact ⟨⟩ | intro (K:KT) hK | intro hcd | (refine go1 ?_ ?_ <;> try clear hK K) | fail)
 refine N.loop (σ := Nat×Bool×List Dv) (fun s => [(1,.ptr 0 1 0 0),(3,.ptr 2 1 0 0),(10,.sl 3 (ins.map evV)),(11,I ins.length),(12,I s.1)]) (fun s => [⟨1,17,[mrow t r op a s.2.1 (.psl 1 v 0 n) x y z]⟩,⟨v,2,s.2.2.map dvC⟩,⟨1,8,[boV B]⟩]) (fun s => s.1 ≤ ins.length∧DvsOk B.chips s.2.2∧givM B.chips t (ins.drop s.1) s.2 = G) (fun s => ins.length - s.1) (0,b,ds) ⟨Nat.zero_le _,hds,by rw [List.drop_zero]; exact hG⟩ (Weaks.sel (by exact sB) rfl) fun w hw R hC => ?_
 obtain ⟨i,b1,ds1⟩ := w
 obtain ⟨hi,hds1,hst⟩ := hw
 dsimp only at hi hds1 hst hC ⊢
 by_cases hil:i < ins.length
 ·have hm := mget evV ins i hil
  rw [List.drop_eq_getElem_cons hil] at hst
  replace hst:givM B.chips t (ins.drop (i + 1)) (giv1 B.chips t (b1,ds1) ins[i]) = G := hst
  have hok := giv1_ok B.chips t ins[i] (b1,ds1) hds1
  have next := fun fr h s h1 => hC fr h (i + 1,s) h1 (by dsimp only; omega)
  clear hC
  dsimp only at next
  generalize hx:ins[i] = x1 at *
  obtain ⟨xa,xc,xn⟩ := x1
  dsimp only [evV] at hm
  by_cases h1:xa = t
  ·by_cases h2:xc = sCpu
   ·rw [show giv1 B.chips t (b1,ds1) ⟨xa,xc,xn⟩ = (true,ds1) by unfold giv1; dsimp only; rw [if_pos h1,if_pos h2]] at hst hok
    unfold sCpu at h2
    subst h2
    repeat' (first | refine rI hm ?_ | rw [mrow_co] | rw [mco_mren] | rw [mrow_stc] | refine T.call0 e109 rfl (mnmi_ok _ _ _ _) ?_ | exact ⟨⟩ | intro (K:KT) hK | intro hcd | (refine go1 ?_ ?_ <;> try clear hK K) | fail)
    exact next _ _ (true,ds1) ⟨by omega,hok,hst⟩ (by exact .G [0,1,2] 1)
   ·rw [show giv1 B.chips t (b1,ds1) ⟨xa,xc,xn⟩ = (b1,giveD B.chips ⟨xa,xc,xn⟩ ds1) by unfold giv1; dsimp only; rw [if_pos h1,if_neg h2]] at hst hok
    unfold sCpu at h2
    repeat' (first | refine rI hm ?_ | rw [List.length_map] | exact ⟨⟩ | intro (K:KT) hK | intro hcd | (refine go1 ?_ ?_ <;> try clear hK K) | fail)
    have hl1 := hds1.1
    obtain ⟨ds2,he2⟩:∃ d,d = giveD B.chips ⟨xa,xc,xn⟩ ds1 := ⟨_,rfl⟩
    have hlen:ds2.length = ds1.length := by rw [he2]; unfold giveD; rw [List.length_zipWith]; omega
    have hgj:∀ j (h1:j < B.chips.length) (h2:j < ds1.length) (h3:j < ds2.length),ds2[j] = giveC ⟨xa,xc,xn⟩ B.chips[j] ds1[j]:=by
     subst he2
     intro j h1 h2 h3
     simp only [giveD,List.getElem_zipWith]
    rw [← he2] at hst hok
    clear he2
    refine N.loop (σ := Nat) (fun j => [(1,.ptr 0 1 0 0),(3,.ptr 2 1 0 0),(7,.ptr 3 1 0 0),(10,.sl 3 (ins.map evV)),(11,I ins.length),(12,I i),(35,.sl 5 (B.chips.map chV)),(36,I B.chips.length),(37,I j)]) (fun j => [⟨1,17,[mrow t r op a b1 (.psl 1 v 0 n) x y z]⟩,⟨v,2,(mix ds2 ds1 j).map dvC⟩,⟨1,8,[boV B]⟩,⟨1,3,[[I xa,.c (.string xc),I xn]]⟩]) (fun j => j ≤ B.chips.length) (fun j => B.chips.length - j) 0 (Nat.zero_le _) (Weaks.sel (by exact sB) (by rw [mix_0]; rfl)) fun j hj R2 hC2 => ?_
    by_cases hjl:j < B.chips.length
    ·have hmc := mget chV B.chips j hjl
     have hjd:j < ds1.length := by omega
     have hdd := dev_get (ds := mix ds2 ds1 j) (i := j) (by rw [mix_len hlen]; exact hjd) (mix_get hlen hjd)
     have hsm := mix_same hlen hjd
     have hst2:((mix ds2 ds1 j).map dvC).set (j:Int).toNat (dvC (ds2[j]'(by omega))) = (mix ds2 ds1 (j + 1)).map dvC := by rw [← mix_set hlen hjd,Int.toNat_natCast,List.map_set]
     have hin := (inF_ok _ _ (hds1.2 j hjl hjd) xn).2
     rw [hgj j hjl hjd (by omega)] at hsm hst2
     unfold giveC at hsm hst2
     dsimp only at hsm hst2
     have nx := fun fr h => hC2 fr h (j + 1) (by omega) (by omega)
     clear hC2
     generalize mix ds2 ds1 (j + 1) = m2 at *
     generalize mix ds2 ds1 j = m1 at *
     generalize inF B.chips[j] ds1[j] xn = e at *
     generalize B.chips[j] = c at *
     generalize ds1[j] = d at *
     obtain ⟨cn,ck,cb,cs,cd⟩ := c
     obtain ⟨d1,d2⟩ := d
     obtain ⟨e1,e2⟩ := e
     dsimp only [chV,dvC] at hmc hdd hin hsm hst2
     by_cases hcx:cn = xc
     ·rw [if_pos hcx] at hst2
      dsimp only at hst2
      repeat' (first | refine rI hmc ?_ | refine rL hdd ?_ | refine rS hdd ?_ | refine T.call0 e110 rfl hin ?_ | exact ⟨⟩ | intro (K:KT) hK | intro hcd | (refine go1 ?_ ?_ <;> try clear hK K) | fail)
      refine nx _ _ (Weaks.gc [0,1,2,3] 1 rfl (by exact sE) ?_)
      show [_,_,_,_] = [_,outB _ [0,1,2,3] 1 ⟨v,2,(m1.map dvC).set (j:Int).toNat [.sl 1 (cells e1),.sl 1 (bcells e2)]⟩,_,_]
      rw [hst2,outB_flat]; rfl
     ·rw [if_neg hcx] at hsm
      have hsm := hsm rfl
      subst hsm
      repeat' (first | refine rI hmc ?_ | exact ⟨⟩ | intro (K:KT) hK | intro hcd | (refine go1 ?_ ?_ <;> try clear hK K) | fail)
      exact nx _ _ (by exact .G [0,1,2,3] 1)
    ·obtain rfl:j = B.chips.length := by omega
     rw [show mix ds2 ds1 B.chips.length = ds2 by rw [← hl1]; exact mix_end hlen]
     repeat' (first | exact ⟨⟩ | intro (K:KT) hK | intro hcd | (refine go1 ?_ ?_ <;> try clear hK K) | fail)
     exact next _ _ (b1,ds2) ⟨by omega,hok,hst⟩ (by exact .G [0,1,2] 1)
  ·rw [show giv1 B.chips t (b1,ds1) ⟨xa,xc,xn⟩ = (b1,ds1) by unfold giv1; dsimp only; rw [if_neg h1]] at hst hok
   repeat' (first | refine rI hm ?_ | exact ⟨⟩ | intro (K:KT) hK | intro hcd | (refine go1 ?_ ?_ <;> try clear hK K) | fail)
   exact next _ _ (b1,ds1) ⟨by omega,hok,hst⟩ (by exact .G [0,1,2] 1)
 ·obtain rfl:i = ins.length := by omega
  rw [List.drop_length] at hst
  replace hst:(b1,ds1) = G := hst
  subst hst
  repeat' (first | exact ⟨⟩ | intro (K:KT) hK | intro hcd | (refine go1 ?_ ?_ <;> try clear hK K) | fail)
  exact WS.gc [0,1] 1 rfl (by exact oO) .rfl
noncomputable def accM (cs:List Chp) (d ad z:Int) (ds:List Dv):List Dv×Int :=
 match findC cs ad with
 | none => (ds,if d = 1 then 255 else z)
 | some i => match cs[i]?,ds[i]? with
  | some c,some x => if d = 1 then (ds.set i (rdF c (ad - c.base) x).1,(rdF c (ad - c.base) x).2) else if d = 2 then (ds.set i (wrF c (ad - c.base) z x),z) else (ds,z)
  | _,_ => (ds,z)
theorem mrow_da (t:Int) (r:Nat→Int) (op a:Int) (b:Bool) (d:V) (x y z z':Int):spl (mrow t r op a b d x y z) 16 [I z'] = mrow t r op a b d x y z' := rfl
theorem findC_at {cs:List Chp} {ad:Int} {i:Nat} (h:findC cs ad = some i):∃ hi:i < cs.length,0 ≤ ad - cs[i].base∧ad - cs[i].base < cs[i].size:=by
 obtain ⟨hi,h1,_⟩ := List.findIdx?_eq_some_iff_getElem.1 h
 unfold hasA at h1
 have h1 := of_decide_eq_true h1
 exact ⟨hi,by omega,by omega⟩
theorem accM_ok (cs:List Chp) (d ad z:Int) (ds:List Dv) (h:DvsOk cs ds):DvsOk cs (accM cs d ad z ds).1:=by
 have hl := h.1
 unfold accM
 split
 ·exact h
 ·rename_i i hi
  obtain ⟨h1,h2⟩ := findC_at hi
  rw [List.getElem?_eq_getElem h1,List.getElem?_eq_getElem (show i < ds.length by omega)]
  have hd := h.2 i h1 (by omega)
  dsimp only
  split
  ·exact set_ok h1 (rdF_ok _ _ hd _ h2).1 h
  ·split
   ·exact set_ok h1 (wrF_ok _ _ hd _ _ h2).1 h
   ·exact h
theorem access_ok (B:Brd) (t:Int) (r:Nat→Int) (op a:Int) (b:Bool) (v n:Nat) (ds:List Dv) (d ad z:Int) (h12:B.chips.length ≤ 12) (hn:n = B.chips.length) (hcs:∀ c ∈ B.chips,0 ≤ c.base∧c.base ≤ 65536∧1 ≤ c.size∧c.size ≤ 65536) (ha:0 ≤ ad∧ad < 65536) (hds:DvsOk B.chips ds):FnE Tryz.prog 65 [.agg (boV B),.ptr 0 1 0 0] [⟨1,17,[mrow t r op a b (.psl 1 v 0 n) d ad z]⟩,⟨v,2,ds.map dvC⟩] (.tup []) [⟨1,17,[mrow t r op a b (.psl 1 v 0 n) d ad (accM B.chips d ad z ds).2]⟩,⟨v,2,(accM B.chips d ad z ds).1.map dvC⟩]:=by
 have hf := find_k B ad hcs (by omega) ha
 have hl := hds.1
 cases hF:findC B.chips ad with
 | none =>
  rw [show findR B.chips ad = .tup [I 0,I 0,.c (.bool false)] by unfold findR; rw [hF]] at hf
  rw [show accM B.chips d ad z ds = (ds,if d = 1 then 255 else z) by unfold accM; rw [hF]]
  dsimp only
  by_cases h1:d = 1
  ·rw [if_pos h1]
   subst h1
   refine N.fnC Tryz.func65 k65 fun Q hQ hQN => ?_
   repeat' (first | rw [mrow_da] | refine T.call0 e26 rfl hf ?_ | exact ⟨⟩ | intro (K:KT) hK | intro hcd | (refine go1 ?_ ?_ <;> try clear hK K) | fail)
   all_goals exact WS.gc [0,1] 1 rfl (by exact oO) .rfl
  ·rw [if_neg h1]
   refine N.fnC Tryz.func65 k65 fun Q hQ hQN => ?_
   repeat' (first | rw [mrow_da] | refine T.call0 e26 rfl hf ?_ | exact ⟨⟩ | intro (K:KT) hK | intro hcd | (refine go1 ?_ ?_ <;> try clear hK K) | fail)
   all_goals exact WS.gc [0,1] 1 rfl (by exact oO) .rfl
 | some i =>
  obtain ⟨hi,hr1,hr2⟩ := findC_at hF
  have hil:i < ds.length := by omega
  have hdi := hds.2 i hi hil
  have hrd := rdF_ok _ _ hdi (ad - B.chips[i].base) ⟨hr1,hr2⟩
  have hwr := wrF_ok _ _ hdi (ad - B.chips[i].base) z ⟨hr1,hr2⟩
  rw [show findR B.chips ad = .tup [I i,I (ad - B.chips[i].base),.c (.bool true)] by unfold findR; rw [hF]; dsimp only; rw [List.getD_eq_getElem?_getD,List.getElem?_eq_getElem hi]; rfl] at hf
  rw [show accM B.chips d ad z ds = (if d = 1 then (ds.set i (rdF B.chips[i] (ad - B.chips[i].base) ds[i]).1,(rdF B.chips[i] (ad - B.chips[i].base) ds[i]).2) else if d = 2 then (ds.set i (wrF B.chips[i] (ad - B.chips[i].base) z ds[i]),z) else (ds,z)) by unfold accM; simp only [hF,List.getElem?_eq_getElem hi,List.getElem?_eq_getElem hil]]
  have hm := mget chV B.chips i hi
  have hm2 := dev_get hil rfl
  obtain ⟨-,-,hrd⟩ := hrd
  obtain ⟨-,hwr,-⟩ := hwr
  generalize ad - B.chips[i].base = off at *
  generalize rdF B.chips[i] off ds[i] = p at *
  generalize wrF B.chips[i] off z ds[i] = q at *
  generalize B.chips[i] = c at *
  generalize ds[i] = dd at *
  obtain ⟨xn,xk,xb,xs,xd⟩ := c
  obtain ⟨d1,d2⟩ := dd
  obtain ⟨⟨p1,p2⟩,pv⟩ := p
  obtain ⟨q1,q2⟩ := q
  have hs1:(ds.map dvC).set (i:Int).toNat [.sl 1 (cells p1),.sl 1 (bcells p2)] = (ds.set i (p1,p2)).map dvC := by rw [Int.toNat_natCast,List.map_set]; rfl
  have hs2:(ds.map dvC).set (i:Int).toNat [.sl 1 (cells q1),.sl 1 (bcells q2)] = (ds.set i (q1,q2)).map dvC := by rw [Int.toNat_natCast,List.map_set]; rfl
  dsimp only [chV,dvC] at hm hm2 hrd hwr
  by_cases h1:d = 1
  ·rw [if_pos h1]
   subst h1
   dsimp only
   generalize ds.set i (p1,p2) = e1 at *
   refine N.fnC Tryz.func65 k65 fun Q hQ hQN => ?_
   repeat' (first | rw [mrow_da] | refine rI hm ?_ | refine rL hm2 ?_ | refine rS hm2 ?_ | (show WC _ _ _ _ _ _ _ _ _; first | refine T.call0 e26 rfl hf ?_ | refine T.call0 e29 rfl hrd ?_) | exact ⟨⟩ | intro (K:KT) hK | intro hcd | (refine go1 ?_ ?_ <;> try clear hK K) | fail)
   exact WS.gc [0,1] 1 rfl (by
    show [_,_] = [_,outB _ [0,1] 1 ⟨v,2,(ds.map dvC).set (i:Int).toNat [.sl 1 (cells p1),.sl 1 (bcells p2)]⟩]
    rw [hs1,outB_flat]; rfl) .rfl
  ·rw [if_neg h1]
   by_cases h2:d = 2
   ·rw [if_pos h2]
    subst h2
    dsimp only
    generalize ds.set i (q1,q2) = e1 at *
    refine N.fnC Tryz.func65 k65 fun Q hQ hQN => ?_
    repeat' (first | rw [mrow_da] | refine rI hm ?_ | refine rL hm2 ?_ | refine rS hm2 ?_ | (show WC _ _ _ _ _ _ _ _ _; first | refine T.call0 e26 rfl hf ?_ | refine T.call0 e28 rfl hwr ?_) | exact ⟨⟩ | intro (K:KT) hK | intro hcd | (refine go1 ?_ ?_ <;> try clear hK K) | fail)
    exact WS.gc [0,1] 1 rfl (by
     show [_,_] = [_,outB _ [0,1] 1 ⟨v,2,(ds.map dvC).set (i:Int).toNat [.sl 1 (cells q1),.sl 1 (bcells q2)]⟩]
     rw [hs2,outB_flat]; rfl) .rfl
   ·rw [if_neg h2]
    dsimp only
    refine N.fnC Tryz.func65 k65 fun Q hQ hQN => ?_
    repeat' (first | rw [mrow_da] | refine T.call0 e26 rfl hf ?_ | exact ⟨⟩ | intro (K:KT) hK | intro hcd | (refine go1 ?_ ?_ <;> try clear hK K) | fail)
    all_goals exact WS.gc [0,1] 1 rfl (by exact oO) .rfl
end Go.Proofs.YtonhglhdlgbcnabGreat.Calc
namespace Go.Proofs.YtonhglhdlgbcnabGreat.Calc
open Go Code
set_option linter.unusedSimpArgs false
set_option linter.unusedVariables false
set_option maxRecDepth 20000
set_option maxHeartbeats 16000000
attribute [local irreducible] WOpsT AW AK RK AKW UK UC
theorem sgn8_in (v:Int):-128 ≤ sgn8 v∧sgn8 v < 128 := by unfold sgn8; split <;> omega
theorem doGa_ok (d t f n:Int) (r:Nat→Int) (hd:d = 1∨d = 2∨d = 3∨d = 16∨d = 17∨d = 18):FnE Tryz.prog 119 [.agg [I d,I t,I f,I n],.agg (ri r)] [] (.tup [.agg (ri (doR d t f n r).1),.c (.bool (doR d t f n r).2)]) []:=by
 have iT := index_ok t
 have iF := index_ok f
 have kF := Fit_ok r
 have hRf := fitR_fits r
 have hs:doR d t f n r = (fitR (midR d (ixR t) (ixR f) n (fitR r)),false) := by unfold doR; rw [if_neg (by omega)]
 rw [hs]
 obtain ⟨q,hq⟩:∃ q,fitR r = q := ⟨_,rfl⟩
 rw [hq] at kF hRf ⊢
 have hT := ixR_lt t
 have hF := ixR_lt f
 obtain ⟨a,ha⟩:∃ a,ixR t = a := ⟨_,rfl⟩
 obtain ⟨b,hb⟩:∃ b,ixR f = b := ⟨_,rfl⟩
 rw [ha] at iT hT ⊢
 rw [hb] at iF hF ⊢
 have rT := hRf a hT
 have rF := hRf b hF
 have sT:0 ≤ q a∧q a < 65536 := by split at rT <;> omega
 have sF:0 ≤ q b∧q b < 65536 := by split at rF <;> omega
 have eT:(a:Int).toNat * 1 = a := by omega
 have eF:(b:Int).toNat * 1 = b := by omega
 have sg := sgn8_in (q b)
 rcases hd with rfl | rfl | rfl | rfl | rfl | rfl
 all_goals
  refine N.fnC Tryz.func119 k119 fun Q hQ hQN => ?_
  repeat' (first | rw [ri_ren] | rw [ri_spl0] | rw [ri_splz] | (show WOpsT _ (⟨_,.ld _ _,none⟩ :: _) _ _ _ _; refine T.ld rfl rfl rfl rfl (ri_get _ _ (by omega)) ?_) | rw [eT] | rw [eF] | (show WOpsT _ (⟨_,.st _ _ _,none⟩ :: _) _ _ _ _; refine T.st rfl rfl rfl ⟨rfl,rfl⟩ rfl (show _ ≤ 9 by omega) ?_) | rw [ri_spl _ _ _ hT] | (show WC _ _ _ _ _ _ _ _ _; first | refine T.call0 e159 rfl iT ?_ | refine T.call0 e159 rfl iF ?_ | refine T.call0 e111 rfl kF ?_ | refine T.call0 e111 rfl (Fit_ok _) ?_ | refine T.call0 e27 rfl (low8 _) ?_ | refine T.call0 e160 rfl (nz_ok _ _) ?_ | refine T.call0 e164 rfl (flag_ok _ _ _) ?_ | refine T.call0 e130 rfl (put_ok _ _ 0 8 (by decide)) ?_) | exact ⟨⟩ | intro (K:KT) hK | intro hcd | (refine go1 ?_ ?_ <;> try clear hK K) | fail)
  exact WS.drop (n := 0) rfl rfl
theorem doGb_ok (d t f n:Int) (r:Nat→Int) (hd:d = 19∨d = 20∨d = 21∨d = 22∨d = 23):FnE Tryz.prog 119 [.agg [I d,I t,I f,I n],.agg (ri r)] [] (.tup [.agg (ri (doR d t f n r).1),.c (.bool (doR d t f n r).2)]) []:=by
 have iT := index_ok t
 have iF := index_ok f
 have kF := Fit_ok r
 have hRf := fitR_fits r
 have hs:doR d t f n r = (fitR (midR d (ixR t) (ixR f) n (fitR r)),false) := by unfold doR; rw [if_neg (by omega)]
 rw [hs]
 obtain ⟨q,hq⟩:∃ q,fitR r = q := ⟨_,rfl⟩
 rw [hq] at kF hRf ⊢
 have hT := ixR_lt t
 have hF := ixR_lt f
 obtain ⟨a,ha⟩:∃ a,ixR t = a := ⟨_,rfl⟩
 obtain ⟨b,hb⟩:∃ b,ixR f = b := ⟨_,rfl⟩
 rw [ha] at iT hT ⊢
 rw [hb] at iF hF ⊢
 have rT := hRf a hT
 have rF := hRf b hF
 have sT:0 ≤ q a∧q a < 65536 := by split at rT <;> omega
 have sF:0 ≤ q b∧q b < 65536 := by split at rF <;> omega
 have eT:(a:Int).toNat * 1 = a := by omega
 have eF:(b:Int).toNat * 1 = b := by omega
 have sg := sgn8_in (q b)
 rcases hd with rfl | rfl | rfl | rfl | rfl
 all_goals
  refine N.fnC Tryz.func119 k119 fun Q hQ hQN => ?_
  repeat' (first | rw [ri_ren] | rw [ri_spl0] | rw [ri_splz] | (show WOpsT _ (⟨_,.ld _ _,none⟩ :: _) _ _ _ _; refine T.ld rfl rfl rfl rfl (ri_get _ _ (by omega)) ?_) | rw [eT] | rw [eF] | (show WOpsT _ (⟨_,.st _ _ _,none⟩ :: _) _ _ _ _; refine T.st rfl rfl rfl ⟨rfl,rfl⟩ rfl (show _ ≤ 9 by omega) ?_) | rw [ri_spl _ _ _ hT] | (show WC _ _ _ _ _ _ _ _ _; first | refine T.call0 e159 rfl iT ?_ | refine T.call0 e159 rfl iF ?_ | refine T.call0 e111 rfl kF ?_ | refine T.call0 e111 rfl (Fit_ok _) ?_ | refine T.call0 e27 rfl (low8 _) ?_ | refine T.call0 e138 rfl (get_ok _ 0 8 (by decide)) ?_ | refine T.call0 e138 rfl (get_ok _ 8 8 (by decide)) ?_ | refine T.call0 e130 rfl (put_ok _ _ 8 8 (by decide)) ?_ | refine T.call0 e165 rfl (signed8 _) ?_) | exact ⟨⟩ | intro (K:KT) hK | intro hcd | (refine go1 ?_ ?_ <;> try clear hK K) | fail)
  exact WS.drop (n := 0) rfl rfl
theorem doGc_ok (d t f n:Int) (r:Nat→Int) (hd:d = 4∨d = 5∨d = 6∨d = 7∨d = 8∨d = 9):FnE Tryz.prog 119 [.agg [I d,I t,I f,I n],.agg (ri r)] [] (.tup [.agg (ri (doR d t f n r).1),.c (.bool (doR d t f n r).2)]) []:=by
 have iT := index_ok t
 have iF := index_ok f
 have kF := Fit_ok r
 have hRf := fitR_fits r
 have hs:doR d t f n r = (fitR (midR d (ixR t) (ixR f) n (fitR r)),false) := by unfold doR; rw [if_neg (by omega)]
 rw [hs]
 obtain ⟨q,hq⟩:∃ q,fitR r = q := ⟨_,rfl⟩
 rw [hq] at kF hRf ⊢
 have hT := ixR_lt t
 have hF := ixR_lt f
 obtain ⟨a,ha⟩:∃ a,ixR t = a := ⟨_,rfl⟩
 obtain ⟨b,hb⟩:∃ b,ixR f = b := ⟨_,rfl⟩
 rw [ha] at iT hT ⊢
 rw [hb] at iF hF ⊢
 have rT := hRf a hT
 have rF := hRf b hF
 have sT:0 ≤ q a∧q a < 65536 := by split at rT <;> omega
 have sF:0 ≤ q b∧q b < 65536 := by split at rF <;> omega
 have eT:(a:Int).toNat * 1 = a := by omega
 have eF:(b:Int).toNat * 1 = b := by omega
 have sg := sgn8_in (q b)
 have hm:midR d a b n q = binR d a b q := by unfold midR; rw [if_neg (by omega),if_neg (by omega),if_neg (by omega),if_pos (by omega)]
 have hbin := binary_ok d a b q hT hF
 rw [hm]
 clear hm hs
 generalize binR d a b q = z at *
 rcases hd with rfl | rfl | rfl | rfl | rfl | rfl
 all_goals
  refine N.fnC Tryz.func119 k119 fun Q hQ hQN => ?_
  repeat' (first | rw [ri_ren] | rw [ri_spl0] | rw [ri_splz] | (show WOpsT _ (⟨_,.ld _ _,none⟩ :: _) _ _ _ _; refine T.ld rfl rfl rfl rfl (ri_get _ _ (by omega)) ?_) | rw [eT] | rw [eF] | (show WC _ _ _ _ _ _ _ _ _; first | refine T.call0 e159 rfl iT ?_ | refine T.call0 e159 rfl iF ?_ | refine T.call0 e111 rfl kF ?_ | refine T.call0 e111 rfl (Fit_ok _) ?_ | refine T.call0 e161 rfl hbin ?_) | exact ⟨⟩ | intro (K:KT) hK | intro hcd | (refine go1 ?_ ?_ <;> try clear hK K) | fail)
  exact WS.drop (n := 0) rfl rfl
theorem doGd_ok (d t f n:Int) (r:Nat→Int) (hd:d = 12∨d = 13∨d = 14∨d = 15):FnE Tryz.prog 119 [.agg [I d,I t,I f,I n],.agg (ri r)] [] (.tup [.agg (ri (doR d t f n r).1),.c (.bool (doR d t f n r).2)]) []:=by
 have iT := index_ok t
 have iF := index_ok f
 have kF := Fit_ok r
 have hRf := fitR_fits r
 have hs:doR d t f n r = (fitR (midR d (ixR t) (ixR f) n (fitR r)),false) := by unfold doR; rw [if_neg (by omega)]
 rw [hs]
 obtain ⟨q,hq⟩:∃ q,fitR r = q := ⟨_,rfl⟩
 rw [hq] at kF hRf ⊢
 have hT := ixR_lt t
 have hF := ixR_lt f
 obtain ⟨a,ha⟩:∃ a,ixR t = a := ⟨_,rfl⟩
 obtain ⟨b,hb⟩:∃ b,ixR f = b := ⟨_,rfl⟩
 rw [ha] at iT hT ⊢
 rw [hb] at iF hF ⊢
 have rT := hRf a hT
 have rF := hRf b hF
 have sT:0 ≤ q a∧q a < 65536 := by split at rT <;> omega
 have sF:0 ≤ q b∧q b < 65536 := by split at rF <;> omega
 have eT:(a:Int).toNat * 1 = a := by omega
 have eF:(b:Int).toNat * 1 = b := by omega
 have sg := sgn8_in (q b)
 have hm:midR d a b n q = shiftR d a q := by unfold midR; rw [if_neg (by omega),if_neg (by omega),if_neg (by omega),if_neg (by omega),if_neg (by omega),if_pos (by omega)]
 have hsh := shift_ok d a q hT
 rw [hm]
 clear hm hs
 generalize shiftR d a q = z at *
 rcases hd with rfl | rfl | rfl | rfl
 all_goals
  refine N.fnC Tryz.func119 k119 fun Q hQ hQN => ?_
  repeat' (first | rw [ri_ren] | rw [ri_spl0] | rw [ri_splz] | (show WOpsT _ (⟨_,.ld _ _,none⟩ :: _) _ _ _ _; refine T.ld rfl rfl rfl rfl (ri_get _ _ (by omega)) ?_) | rw [eT] | rw [eF] | (show WC _ _ _ _ _ _ _ _ _; first | refine T.call0 e159 rfl iT ?_ | refine T.call0 e159 rfl iF ?_ | refine T.call0 e111 rfl kF ?_ | refine T.call0 e111 rfl (Fit_ok _) ?_ | refine T.call0 e163 rfl hsh ?_) | exact ⟨⟩ | intro (K:KT) hK | intro hcd | (refine go1 ?_ ?_ <;> try clear hK K) | fail)
  exact WS.drop (n := 0) rfl rfl
theorem doI_ok (d t f n:Int) (r:Nat→Int) (hd:d = 10∨d = 11):FnE Tryz.prog 119 [.agg [I d,I t,I f,I n],.agg (ri r)] [] (.tup [.agg (ri (doR d t f n r).1),.c (.bool (doR d t f n r).2)]) []:=by
 have iT := index_ok t
 have iF := index_ok f
 have kF := Fit_ok r
 have hRf := fitR_fits r
 have hs:doR d t f n r = (fitR (midR d (ixR t) (ixR f) n (fitR r)),false) := by unfold doR; rw [if_neg (by omega)]
 rw [hs]
 obtain ⟨q,hq⟩:∃ q,fitR r = q := ⟨_,rfl⟩
 rw [hq] at kF hRf ⊢
 have hT := ixR_lt t
 have hF := ixR_lt f
 obtain ⟨a,ha⟩:∃ a,ixR t = a := ⟨_,rfl⟩
 obtain ⟨b,hb⟩:∃ b,ixR f = b := ⟨_,rfl⟩
 rw [ha] at iT hT ⊢
 rw [hb] at iF hF ⊢
 have rT := hRf a hT
 have rF := hRf b hF
 have sT:0 ≤ q a∧q a < 65536 := by split at rT <;> omega
 have sF:0 ≤ q b∧q b < 65536 := by split at rF <;> omega
 have eT:(a:Int).toNat * 1 = a := by omega
 have eF:(b:Int).toNat * 1 = b := by omega
 have hl := low_ok (q a + 1 - 2 * (d - 10)) (bitsR a)
 have hm:midR d a b n q = upd (if a = 7∨a = 8 then q else nzR q ((q a + 1 - 2 * (d - 10)) % 2 ^ wd (bitsR a))) a ((q a + 1 - 2 * (d - 10)) % 2 ^ wd (bitsR a)):=by
  rcases hd with rfl | rfl <;> rfl
 rw [hm]
 have hw:wide a = decide ((a:Int) = 7∨(a:Int) = 8) := rfl
 obtain ⟨m,hm2⟩:∃ m,(q a + 1 - 2 * (d - 10)) % 2 ^ wd (bitsR a) = m := ⟨_,rfl⟩
 rw [hm2] at hl ⊢
 obtain ⟨w,hw2,hz⟩:∃ w,wide a = w∧(if a = 7∨a = 8 then q else nzR q m) = if w = true then q else nzR q m:=by
  by_cases h7:a = 7∨a = 8
  ·exact ⟨true,by rw [hw]; exact decide_eq_true (by omega),by rw [if_pos h7,if_pos rfl]⟩
  ·exact ⟨false,by rw [hw]; exact decide_eq_false (by omega),by rw [if_neg h7,if_neg (by decide)]⟩
 rw [hz]
 clear hz hs hm hw
 rcases hd with rfl | rfl <;> cases w
 all_goals
  refine N.fnC Tryz.func119 k119 fun Q hQ hQN => ?_
  repeat' (first | rw [ri_ren] | rw [ri_spl0] | rw [ri_splz] | (show WOpsT _ (⟨_,.ld _ _,none⟩ :: _) _ _ _ _; refine T.ld rfl rfl rfl rfl (ri_get _ _ (by omega)) ?_) | rw [eT] | rw [eF] | rw [hw2] | (show WOpsT _ (⟨_,.st _ _ _,none⟩ :: _) _ _ _ _; refine T.st rfl rfl rfl ⟨rfl,rfl⟩ rfl (show _ ≤ 9 by omega) ?_) | rw [ri_spl _ _ _ hT] | (show WC _ _ _ _ _ _ _ _ _; first | refine T.call0 e159 rfl iT ?_ | refine T.call0 e159 rfl iF ?_ | refine T.call0 e111 rfl kF ?_ | refine T.call0 e111 rfl (Fit_ok _) ?_ | refine T.call0 e150 rfl (bitsR_ok a) ?_ | refine T.call0 e27 rfl hl ?_ | refine T.call0 e162 rfl (wide_ok a) ?_ | refine T.call0 e160 rfl (nz_ok _ _) ?_) | exact ⟨⟩ | intro (K:KT) hK | intro hcd | (refine go1 ?_ ?_ <;> try clear hK K) | fail)
  exact WS.drop (n := 0) rfl rfl
end Go.Proofs.YtonhglhdlgbcnabGreat.Calc
