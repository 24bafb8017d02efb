/- Several texts in one (FnEvs, FnMachB, FnMachC, PureRange, FnWire, PureWire, FnWireB, FnPokes, FnMachL, FnLawMParts), for the proof of LawMachParts. No condition beyond those in each lemma. -/
import Derived.Test.YtonhglhdlgbcnabGreatPLawMachPartsQ
import Derived.Test.YtonhglhdlgbcnabGreatPLawMachPartsM
import Derived.Test.YtonhglhdlgbcnabGreatPLawMachPartsL
import Derived.Test.YtonhglhdlgbcnabGreatPLawMachPartsD
import Derived.Laws.StandIn
namespace Go.Proofs.YtonhglhdlgbcnabGreat.Calc
open Go Code
set_option linter.unusedSimpArgs false
set_option linter.unusedVariables false
set_option maxRecDepth 20000
set_option maxHeartbeats 8000000
attribute [local irreducible] WOpsT AW AK RK AKW UK UC
theorem eqE_ok (a:List Ev) (ha:a.length ≤ 100000):FnE Tryz.prog 14 [.sl 3 (a.map evV),.sl 3 (a.map evV)] [] (.c (.bool true)) []:=by
 refine N.fnC Tryz.func14 k14 fun Q hQ hQN => ?_
 repeat' (first | rw [List.length_map] | exact ⟨⟩ | intro (K:KT) hK | intro hcd | (refine go1 ?_ ?_ <;> try clear hK K) | fail)
 all_goals first | (exfalso; omega) | skip
 refine N.loop (σ := Nat) (fun i => [(0,.sl 3 (a.map evV)),(1,.sl 3 (a.map evV)),(12,I a.length),(13,I i)]) (fun i => []) (fun i => i ≤ a.length) (fun i => a.length - i) 0 (Nat.zero_le _) (by exact .G [] 1) fun i hi R hC => ?_
 by_cases hil:i < a.length
 ·have hm := mget evV a i hil
  generalize a[i] = x at *
  obtain ⟨x1,x2,x3⟩ := x
  dsimp only [evV] at hm
  repeat' (first | refine rI hm ?_ | (show WOpsT _ (⟨_,.eqs _ _ _ _,none⟩ :: _) _ _ _ _; refine T.eqs (us := [.int .i64 x1,.string x2,.int .i64 x3]) (vs := [.int .i64 x1,.string x2,.int .i64 x3]) (b := true) rfl rfl (by simp [eqLv,eqC]) ?_) | exact ⟨⟩ | intro (K:KT) hK | intro hcd | (refine go1 ?_ ?_ <;> try clear hK K) | fail)
  exact hC _ _ (i + 1) (by omega) (by omega) (by exact .G [] 1)
 ·obtain rfl:i = a.length := by omega
  repeat' (first | exact ⟨⟩ | intro (K:KT) hK | intro hcd | (refine go1 ?_ ?_ <;> try clear hK K) | fail)
  exact WS.c rfl rfl
def zE:List V := [I 0,.c (.string ⟨#[]⟩),I 0]
theorem growE_ok (n:Nat) (hn:1 ≤ n∧n ≤ 100000):FnE Tryz.prog 34 [.c (.slice none 0 0),I n] [] (.psl 0 1 0 0) [⟨1,3,List.replicate n zE⟩]:=by
 refine N.fnC Tryz.func34 k34 fun Q hQ hQN => ?_
 repeat' (first | refine T.appz rfl rfl ⟨by decide,by decide,by omega,by omega⟩ ?_ | exact ⟨⟩ | intro (K:KT) hK | intro hcd | (refine go1 ?_ ?_ <;> try clear hK K) | fail)
 exact WS.gc [0] 1 rfl (by
  show [_] = [outB _ [0] 1 ⟨1,3,List.replicate ((n:Int) - (0 - 0)).toNat zE⟩]
  rw [show ((n:Int) - (0 - 0)).toNat = n by omega]
  unfold outB
  rw [List.map_replicate]; rfl) .rfl
theorem zE_ren (n:Nat) (ks:List Nat):(List.replicate n zE).map (fun x => x.map (ren ks)) = List.replicate n zE := by rw [List.map_replicate]; rfl
theorem grow0_ok:FnE Tryz.prog 34 [.c (.slice none 0 0),I 0] [] (.c (.slice none 0 0)) []:=by
 refine N.fnC Tryz.func34 k34 fun Q hQ hQN => ?_
 repeat' (first | exact ⟨⟩ | intro (K:KT) hK | intro hcd | (refine go1 ?_ ?_ <;> try clear hK K) | fail)
 exact WS.c rfl rfl
theorem concatE_ok (a c:List Ev) (ha:a.length ≤ 50000) (hc:c.length ≤ 50000):FnE Tryz.prog 15 [.psl 0 1 0 2] [⟨1,1,[[.sl 3 (a.map evV)],[.sl 3 (c.map evV)]]⟩] (.sl 3 ((a ++ c).map evV)) [⟨1,1,[[.sl 3 (a.map evV)],[.sl 3 (c.map evV)]]⟩]:=by
 by_cases h0:a.length + c.length = 0
 ·obtain rfl:a = [] := List.eq_nil_of_length_eq_zero (by omega)
  obtain rfl:c = [] := List.eq_nil_of_length_eq_zero (by omega)
  have hg := grow0_ok
  refine N.fnC Tryz.func15 k15 fun Q hQ hQN => ?_
  repeat' (first | (show AK _ _ (.loop _) _ _ _ _; refine N.unroll 3 ?_) | (show WOpsT _ (⟨_,.app _ _ _ _,none⟩ :: _) _ _ _ _; refine T.appE rfl rfl ⟨by decide,by decide⟩ ?_) | refine T.call0 e34 rfl hg ?_ | exact ⟨⟩ | intro (K:KT) hK | intro hcd | (refine go1 ?_ ?_ <;> try clear hK K) | fail)
  exact WS.gc [0] 1 rfl (by exact oO) .nil
 ·have hg:FnE Tryz.prog 34 [.c (.slice none 0 0),I (0 + (a.length:Int) + c.length)] [] (.psl 0 1 0 0) [⟨1,3,List.replicate (a.length + c.length) zE⟩]:=by
   rw [show 0 + (a.length:Int) + c.length = ((a.length + c.length:Nat):Int) by omega]
   exact growE_ok (a.length + c.length) (by omega)
  refine N.fnC Tryz.func15 k15 fun Q hQ hQN => ?_
  repeat' (first | (show AK _ _ (.loop _) _ _ _ _; refine N.unroll 3 ?_) | rw [List.length_map] | rw [zE_ren] | (show WOpsT _ (⟨_,.app _ _ _ _,none⟩ :: _) _ _ _ _; refine T.appP rfl rfl rfl ⟨by decide,by decide⟩ ⟨rfl,rfl,by first | exact Nat.zero_le _ | (simp; done) | (simp; omega),by simp; omega⟩ ?_) | refine T.callN e34 rfl (hg) (by simp) ?_ | exact ⟨⟩ | intro (K:KT) hK | intro hcd | (refine go1 ?_ ?_ <;> try clear hK K) | fail)
  rw [show List.take a.length (a.map evV) ++ c.map evV = (a ++ c).map evV by rw [List.take_of_length_le (by rw [List.length_map]; exact Nat.le_refl _),List.map_append]]
  exact WS.gc [0] 1 rfl (by exact oO) (by show Sub (out _ [0] 1 (.psl 1 3 0 _)) _; rw [out_rowsK (f := evV) rfl rfl (by rw [List.length_append]; exact Nat.le_refl _)]; exact .rfl)
end Go.Proofs.YtonhglhdlgbcnabGreat.Calc
namespace Go.Proofs.YtonhglhdlgbcnabGreat.Calc
open Go Code
set_option linter.unusedSimpArgs false
set_option linter.unusedVariables false
set_option maxRecDepth 20000
set_option maxHeartbeats 4000000
attribute [local irreducible] WOpsT AW AK RK AKW UK UC
theorem same1_ok (d:Dv) (hd:SmlD d):FnE Tryz.prog 31 [.agg (dvC d),.agg (dvC d)] [] (.c (.bool true)) []:=by
 obtain ⟨d1,d2⟩ := d
 obtain ⟨s1,s2⟩ := hd
 have h1 := eqI_ok d1 s1
 have h2 := eqB_ok d2 s2
 dsimp only [dvC]
 refine N.fnC Tryz.func31 k31 fun Q hQ hQN => ?_
 repeat' (first | (show WC _ _ _ _ _ _ _ _ _; first | refine T.call0 e32 rfl h1 ?_ | refine T.call0 e33 rfl h2 ?_) | exact ⟨⟩ | intro (K:KT) hK | intro hcd | (refine go1 ?_ ?_ <;> try clear hK K) | fail)
 all_goals first | exact WS.c rfl rfl | (exfalso; omega) | trace_state
theorem eqDv_ok (l:List Dv) (hl:l.length ≤ 100000) (f:Nat) (he:enters Tryz.prog f = true) (hf:∀ x ∈ l,FnE Tryz.prog f [.agg (dvC x),.agg (dvC x)] [] (.c (.bool true)) []):FnE Tryz.prog 30 [.sl 2 (l.map dvC),.sl 2 (l.map dvC),.fn f []] [] (.c (.bool true)) []:=by
 refine N.fnC Tryz.func30 k30 fun Q hQ hQN => ?_
 repeat' (first | rw [List.length_map] | exact ⟨⟩ | intro (K:KT) hK | intro hcd | (refine go1 ?_ ?_ <;> try clear hK K) | fail)
 all_goals first | (exfalso; omega) | skip
 refine N.loop (σ := Nat) (fun i => [(1,.sl 2 (l.map dvC)),(2,.fn f []),(15,.sl 2 (l.map dvC)),(16,I l.length),(17,I i)]) (fun i => []) (fun i => i ≤ l.length) (fun i => l.length - i) 0 (Nat.zero_le _) (by exact .G [] 1) fun i hi R hC => ?_
 by_cases hil:i < l.length
 ·have hm := mget dvC l i hil
  have hx := hf _ (List.getElem_mem hil)
  generalize l[i] = x at *
  obtain ⟨x1,x2⟩ := x
  dsimp only [dvC] at hm hx
  repeat' (first | refine rI hm ?_ | refine T.ofFn rfl (C.zero he rfl hx ?_) | rw [Bool.not_true] | exact ⟨⟩ | intro (K:KT) hK | intro hcd | (refine go1 ?_ ?_ <;> try clear hK K) | fail)
  all_goals first | exact hC _ _ (i + 1) (by omega) (by omega) (by exact .G [] 1) | (exfalso; omega) | (exfalso; simp at *; done)
 ·obtain rfl:i = l.length := by omega
  repeat' (first | exact ⟨⟩ | intro (K:KT) hK | intro hcd | (refine go1 ?_ ?_ <;> try clear hK K) | fail)
  exact WS.c rfl rfl
theorem msame_ok (t:Int) (r:Nat→Int) (op a:Int) (b:Bool) (ds:List Dv) (x y z:Int) (hd:∀ d ∈ ds,SmlD d) (hl:ds.length ≤ 100000):FnE Tryz.prog 13 [.agg (maV t r op a b ds x y z),.agg (maV t r op a b ds x y z)] [] (.c (.bool true)) []:=by
 have h := eqDv_ok ds hl 31 e31 fun d h => same1_ok d (hd d h)
 dsimp only [maV]
 refine N.fnC Tryz.func13 k13 fun Q hQ hQN => ?_
 repeat' (first | (show WOpsT _ (⟨_,.eqs _ _ _ _,none⟩ :: _) _ _ _ _; refine T.eqs (b := true) rfl rfl (by simp [eqLv,eqC]) ?_) | refine T.call0 e30 rfl h ?_ | exact ⟨⟩ | intro (K:KT) hK | intro hcd | (refine go1 ?_ ?_ <;> try clear hK K) | fail)
 all_goals first | exact WS.c rfl rfl | (exfalso; omega) | trace_state
end Go.Proofs.YtonhglhdlgbcnabGreat.Calc
namespace Go.Proofs.YtonhglhdlgbcnabGreat.Calc
open Go
set_option linter.unusedVariables false
set_option linter.unusedSimpArgs false
def vnmB (s:ByteArray):Bool := decide (1 ≤ s.size) && decide (s.size ≤ 20) && (match s[0]? with
 | some b => decide (97 ≤ b.toNat) && decide (b.toNat ≤ 122)
 | none => false) && (nmB s).all fun b => decide ((97 ≤ b∧b ≤ 122)∨(48 ≤ b∧b ≤ 57)∨b = 45)
theorem vnm_of (s:ByteArray) (h:vnmB s = true):VName s:=by
 unfold vnmB at h
 rw [Bool.and_eq_true,Bool.and_eq_true,Bool.and_eq_true] at h
 obtain ⟨⟨⟨h1,h2⟩,h3⟩,h4⟩ := h
 refine ⟨⟨of_decide_eq_true h1,of_decide_eq_true h2⟩,?_,fun x hx => by have h5 := List.all_eq_true.1 h4 x hx; unfold okCh; exact of_decide_eq_true h5⟩
 cases hs:s[0]? with
 | none => rw [hs] at h3; cases h3
 | some b =>
  rw [hs] at h3
  dsimp only at h3
  rw [Bool.and_eq_true] at h3
  have a := of_decide_eq_true h3.1
  have b' := of_decide_eq_true h3.2
  exact ⟨b,rfl,by omega,by omega⟩
theorem chipN_v:∀ j:Nat,j < 5→vnmB (chipN j) = true∧chipN j ≠ ⟨#[99,112,117]⟩∧chipN j ≠ ⟨#[114,97,109]⟩∧chipN j ≠ ⟨#[114,111,109]⟩ := by decide +kernel
theorem chipN_inj:∀ j:Nat,j < 5→∀ k:Nat,k < j→chipN k ≠ chipN j := by decide +kernel
structure BdInv (i:Nat) (a:Int) (cs:List Chp):Prop where
 len:cs.length = i + 1
 lo:∀ c ∈ cs,0 ≤ c.base∧0 ≤ c.size∧c.base + c.size ≤ a
 order:∀ j k (h:k < cs.length) (hjk:j < k),cs[j].base + cs[j].size ≤ cs[k].base
 names:∀ j (h:j < cs.length),cs[j].name = if j = 0 then ⟨#[114,97,109]⟩ else chipN (j - 1)
theorem goBd_place:∀ (n i:Nat) (a:Int) (cs:List Chp) (ws:List Wir) (l:List Int),i + n ≤ 4→57344 ≤ a∧a ≤ 57344 + 48 * i→BdInv i a cs→∃ a':Int,a' ≤ 57344 + 48 * (i + n:Nat)∧BdInv (i + n) a' (goBd n i a cs ws l).1:=by
 intro n
 induction n with
 | zero => intro i a cs ws l _ ha h; exact ⟨a,by rw [Nat.add_zero]; exact ha.2,h⟩
 | succ n ih =>
  intro i a cs ws l hn ha h
  have hz := szN_r (kdN (sval l 8).toNat)
  unfold goBd
  generalize kdN (sval l 8).toNat = k at *
  have hc:(stepBd k i a (srest l 8)).1.name = chipN i∧(stepBd k i a (srest l 8)).1.base = a∧(stepBd k i a (srest l 8)).1.size = szN k := ⟨rfl,rfl,rfl⟩
  generalize (stepBd k i a (srest l 8)).1 = c at *
  obtain ⟨c1,c2,c3⟩ := hc
  have hlast:∀ (h:cs.length < (cs ++ [c]).length),(cs ++ [c])[cs.length] = c := fun h => by simp
  obtain ⟨a',h1,h2⟩ := ih (i + 1) (a + ((szN k:Int) + 15) / 16 * 16) (cs ++ [c]) (ws ++ (stepBd k i a (srest l 8)).2.1) (stepBd k i a (srest l 8)).2.2 (by omega) (by omega) (by
   refine ⟨by rw [List.length_append,h.len]; rfl,?_,?_,?_⟩
   ·intro x hx
    rcases List.mem_append.1 hx with hx | hx
    ·have := h.lo x hx; omega
    ·simp only [List.mem_singleton] at hx; subst hx; omega
   ·intro j q hq hjq
    by_cases hq2:q < cs.length
    ·rw [List.getElem_append_left hq2,List.getElem_append_left (by omega)]; exact h.order j q hq2 hjq
    ·have:q = cs.length := by rw [List.length_append] at hq; simp at hq; omega
     subst this
     rw [hlast hq,List.getElem_append_left hjq,c2]
     have := h.lo cs[j] (List.getElem_mem _)
     omega
   ·intro j hj
    by_cases hj2:j < cs.length
    ·rw [List.getElem_append_left hj2]; exact h.names j hj2
    ·have:j = cs.length := by rw [List.length_append] at hj; simp at hj; omega
     subst this
     rw [hlast hj,c1,h.len,if_neg (by omega)]
     rfl)
  exact ⟨a',by rw [show i + (n + 1) = i + 1 + n by omega]; exact h1,by rw [show i + (n + 1) = i + 1 + n by omega]; exact h2⟩
theorem mkBrd_places (l:List Int):(∀ c ∈ (mkBrd l).chips,VPlace c)∧∀ i j (h:j < (mkBrd l).chips.length) (hij:i < j),Apart (mkBrd l).chips[i] (mkBrd l).chips[j]∧(mkBrd l).chips[i].base + (mkBrd l).chips[i].size ≤ (mkBrd l).chips[j].base:=by
 have r := sval_range l 5 (by decide)
 obtain ⟨a',h1,h2⟩ := goBd_place (sval l 5).toNat 0 57344 [ramC] [] (srest l 5) (by omega) (by decide) ⟨rfl,by
  intro c hc; simp only [List.mem_singleton] at hc; subst hc; decide,fun j k h hjk => absurd h (by simp; omega),fun j h => by
   have:j = 0 := by simp at h; omega
   subst this; rfl⟩
 rw [Nat.zero_add] at h1 h2
 have hcs:(mkBrd l).chips = (goBd (sval l 5).toNat 0 57344 [ramC] [] (srest l 5)).1 ++ [romC (bdOf l).2.2] := rfl
 refine (fun (key:∀ cs2,cs2 = (goBd (sval l 5).toNat 0 57344 [ramC] [] (srest l 5)).1 ++ [romC (bdOf l).2.2]→(∀ c ∈ cs2,VPlace c)∧∀ i j (h:j < cs2.length) (hij:i < j),Apart cs2[i] cs2[j]∧cs2[i].base + cs2[i].size ≤ cs2[j].base) => key _ hcs) ?_
 intro cs2 hcs2
 clear hcs
 subst hcs2
 generalize (goBd (sval l 5).toNat 0 57344 [ramC] [] (srest l 5)).1 = cs at *
 generalize hrc:romC (bdOf l).2.2 = rc
 have hr:rc.name = ⟨#[114,111,109]⟩∧rc.base = 65280∧rc.size = 256 := by rw [← hrc]; exact ⟨rfl,rfl,rfl⟩
 obtain ⟨r1,r2,r3⟩ := hr
 have hnm:∀ j (hj:j < cs.length),vnmB cs[j].name = true∧cs[j].name ≠ ⟨#[99,112,117]⟩∧cs[j].name ≠ ⟨#[114,111,109]⟩ := fun j hj => by
  have hl := h2.len
  rw [h2.names j hj]
  by_cases h0:j = 0
  ·rw [if_pos h0]; exact ⟨by decide +kernel,by decide,by decide⟩
  ·rw [if_neg h0]
   obtain ⟨q1,q2,q3,q4⟩ := chipN_v (j - 1) (by omega)
   exact ⟨q1,q2,q4⟩
 have hlast:∀ (h:cs.length < (cs ++ [rc]).length),(cs ++ [rc])[cs.length] = rc := fun h => by simp
 constructor
 ·intro c hc
  rcases List.mem_append.1 hc with hc | hc
  ·obtain ⟨j,hj,rfl⟩ := List.getElem_of_mem hc
   obtain ⟨q1,q2,q3⟩ := hnm j hj
   have := h2.lo _ hc
   exact ⟨vnm_of _ q1,q2,this.1,by omega⟩
  ·simp only [List.mem_singleton] at hc; subst hc
   exact ⟨by rw [r1]; exact vnm_of _ (by decide +kernel),by rw [r1]; decide,by omega,by omega⟩
 ·intro i j hj hij
  by_cases hj2:j < cs.length
  ·rw [List.getElem_append_left hj2,List.getElem_append_left (by omega)]
   have ho := h2.order i j hj2 hij
   refine ⟨⟨?_,.inl ho⟩,ho⟩
   rw [h2.names i (by omega),h2.names j hj2,if_neg (show ¬ j = 0 by omega)]
   have hl := h2.len
   by_cases h0:i = 0
   ·rw [if_pos h0]
    exact fun h => (chipN_v (j - 1) (by omega)).2.2.1 h.symm
   ·rw [if_neg h0]
    exact chipN_inj (j - 1) (by omega) (i - 1) (by omega)
  ·have:j = cs.length := by rw [List.length_append] at hj; simp at hj; omega
   subst this
   rw [hlast hj,List.getElem_append_left hij]
   have hlo := h2.lo cs[i] (List.getElem_mem _)
   have ho:cs[i].base + cs[i].size ≤ rc.base := by omega
   refine ⟨⟨?_,.inl ho⟩,ho⟩
   rw [r1]; exact (hnm i hij).2.2
structure Rg where
 fr:Int
 to:Int
 ch:Int
def rgV (r:Rg):List V := [I r.fr,I r.to,I r.ch]
instance:Flat rgV := ⟨fun a x hx => by simp [rgV] at hx; rcases hx with rfl | rfl | rfl <;> exact .inl ⟨_,rfl⟩⟩
def ixA (cs:List Chp) (a:Int):Int := match findC cs a with
 | some i => (i:Int)
 | none => -1
def stepR (l:List Rg) (n:Nat) (x:Int):List Rg := match l.getLast? with
 | some r => if r.ch = x then l.dropLast ++ [⟨r.fr,(n:Int) + 1,r.ch⟩] else l ++ [⟨n,(n:Int) + 1,x⟩]
 | none => l ++ [⟨n,(n:Int) + 1,x⟩]
def mapR (cs:List Chp):Nat→List Rg
 | 0 => []
 | n + 1 => stepR (mapR cs n) n (ixA cs n)
def sumR (l:List Rg) (k:Int):Int := (l.map fun r => if r.ch = k then r.to - r.fr else 0).foldr (· + ·) 0
structure RInv (cs:List Chp) (n:Nat) (l:List Rg):Prop where
 rg:∀ r ∈ l,0 ≤ r.fr∧r.fr < r.to∧r.to ≤ n∧(-1 ≤ r.ch∧r.ch < cs.length)∧∀ a,r.fr ≤ a→a < r.to→ixA cs a = r.ch
 all:∀ a,0 ≤ a→a < (n:Int)→∃ r ∈ l,r.fr ≤ a∧a < r.to
 last:∀ r,l.getLast? = some r→r.to = n
 len:l.length ≤ n
end Go.Proofs.YtonhglhdlgbcnabGreat.Calc
namespace Go.Proofs.YtonhglhdlgbcnabGreat.Calc
open Go Code
set_option linter.unusedSimpArgs false
set_option linter.unusedVariables false
set_option maxRecDepth 20000
set_option maxHeartbeats 4000000
attribute [local irreducible] WOpsT AW AK RK AKW UK UC
theorem ibs_x (s:ByteArray) (c:Int):ExtE Tryz.prog 202 [.c (.string s),.c (.int .u8 c)] (I (firstIdx s c.toNat.toUInt8)):=by
 intro X w ι vs hn hr
 have e:vs = #[.string s,.int .u8 c]:=by
  obtain ⟨l⟩ := vs
  match l,hn with
  | [a,b],_ =>
   have h1 := hr 0 a _ rfl rfl
   have h2 := hr 1 b _ rfl rfl
   cases h1; cases h2; rfl
 subst e
 refine ⟨_,?_,.c⟩
 rw [run_callFunc_indexByte Tryz.func202 (by kernel_rfl) (by kernel_rfl) (by kernel_rfl) (by kernel_rfl),run_indexByte_string]
 rfl
theorem ib_ok (s:ByteArray) (c:Int):FnE Tryz.prog 195 [.c (.string s),.c (.int .u8 c)] [] (I (firstIdx s c.toNat.toUInt8)) []:=by
 refine N.fnC Tryz.func195 k195 fun Q hQ hQN => ?_
 repeat' (first | (show WOpsT _ (⟨_,.xcall _ _,none⟩ :: _) _ _ _ _; refine T.xcall rfl (ibs_x _ _) ?_) | exact ⟨⟩ | intro (K:KT) hK | intro hcd | (refine go1 ?_ ?_ <;> try clear hK K) | fail)
 exact WS.c rfl rfl
theorem dot_ok (s:ByteArray) (hs:s ≠ ⟨#[46]⟩):FnE Tryz.prog 177 [.c (.string s),.c (.string ⟨#[46]⟩)] [] (I (firstIdx s 46)) []:=by
 have hx := ib_ok s 46
 have e:decide ((⟨#[46]⟩:ByteArray) = s) = false := decide_eq_false fun h => hs h.symm
 refine N.fnC Tryz.func177 k177 fun Q hQ hQN => ?_
 repeat' (first | (show WOpsT _ (⟨_,.ixs _ _,none⟩ :: _) _ _ _ _; refine T.ixs rfl rfl (by decide) rfl ?_) | rw [e] | refine T.call0 e195 rfl hx ?_ | exact ⟨⟩ | intro (K:KT) hK | intro hcd | (refine go1 ?_ ?_ <;> try clear hK K) | fail)
 all_goals first | exact WS.c rfl rfl | (exfalso; omega) | trace_state
theorem cutL_ok (s a b:ByteArray) (k:Nat) (hk:k < s.size) (hz:s.size ≤ 1000) (hs:s ≠ ⟨#[46]⟩) (hi:firstIdx s 46 = k) (ha:s.extract 0 k = a) (hb:s.extract (k + 1) s.size = b):FnE Tryz.prog 145 [.c (.string s),.c (.string ⟨#[46]⟩)] [] (.tup [.c (.string a),.c (.string b),.c (.bool true)]) []:=by
 have hx := dot_ok s hs
 rw [hi] at hx
 have e1:((⟨#[46]⟩:ByteArray).size:Int) = 1 := rfl
 refine N.fnC Tryz.func145 k145 fun Q hQ hQN => ?_
 repeat' (first | rw [e1] | refine T.call0 e177 rfl hx ?_ | exact ⟨⟩ | intro (K:KT) hK | intro hcd | (refine go1 ?_ ?_ <;> try clear hK K) | fail)
 all_goals first | (exfalso; omega) | skip
 rw [show ((k:Int) + 1).toNat = k + 1 by omega,Int.toNat_natCast,Int.toNat_natCast,ha,hb]
 exact WS.drop (n := 0) rfl rfl
theorem cut_ok (s a b:ByteArray) (k:Nat) (hk:k < s.size) (hz:s.size ≤ 1000) (hs:s ≠ ⟨#[46]⟩) (hi:firstIdx s 46 = k) (ha:s.extract 0 k = a) (hb:s.extract (k + 1) s.size = b):FnE Tryz.prog 101 [.c (.string s),.c (.string ⟨#[46]⟩)] [] (.tup [.c (.string a),.c (.string b),.c (.bool true)]) []:=by
 have hx := cutL_ok s a b k hk hz hs hi ha hb
 refine N.fnC Tryz.func101 k101 fun Q hQ hQN => ?_
 repeat' (first | refine T.call0 e145 rfl hx ?_ | exact ⟨⟩ | intro (K:KT) hK | intro hcd | (refine go1 ?_ ?_ <;> try clear hK K) | fail)
 exact WS.drop (n := 0) rfl rfl
theorem idx1_ok (s:ByteArray) (c:Chp):FnE Tryz.prog 146 [.agg (chV c),.ptr 0 1 0 0] [⟨1,1,[[.c (.string s)]]⟩] (.c (.bool (decide (c.name = s)))) [⟨1,1,[[.c (.string s)]]⟩]:=by
 obtain ⟨nm,k,b,z,dat⟩ := c
 dsimp only [chV]
 refine N.fnC Tryz.func146 k146 fun Q hQ hQN => ?_
 repeat' (first | exact ⟨⟩ | intro (K:KT) hK | intro hcd | (refine go1 ?_ ?_ <;> try clear hK K) | fail)
 exact WS.gc [0] 1 rfl (by exact oO) .rfl
theorem idxC_ok (f:Nat) (he:enters Tryz.prog f = true) (s:ByteArray) (l:List Chp) (i:Nat) (hi:i < l.length) (hn:l[i].name = s) (hb:∀ j,j < i→∀ hj:j < l.length,l[j].name ≠ s) (hl:l.length ≤ 256) (hp:∀ x:Chp,FnE Tryz.prog f [.agg (chV x),.ptr 0 1 0 0] [⟨1,1,[[.c (.string s)]]⟩] (.c (.bool (decide (x.name = s)))) [⟨1,1,[[.c (.string s)]]⟩]):FnE Tryz.prog 108 [.sl 5 (l.map chV),.fn f [.ptr 0 1 0 0]] [⟨1,1,[[.c (.string s)]]⟩] (I i) [⟨1,1,[[.c (.string s)]]⟩]:=by
 refine N.fnC Tryz.func108 k108 fun Q hQ hQN => ?_
 repeat' (first | rw [List.length_map] | exact ⟨⟩ | intro (K:KT) hK | intro hcd | (refine go1 ?_ ?_ <;> try clear hK K) | fail)
 refine N.loop (σ := Nat) (fun j => [(0,.sl 5 (l.map chV)),(1,.fn f [.ptr 0 1 0 0]),(7,I l.length),(8,I j)]) (fun j => [⟨1,1,[[.c (.string s)]]⟩]) (fun j => j ≤ i) (fun j => i - j) 0 (Nat.zero_le _) (Weaks.sel (by exact sB) rfl) fun j hj R hC => ?_
 have hjl:j < l.length := by omega
 have hm := mget chV l j hjl
 have hv := hp l[j]
 by_cases hji:j = i
 ·subst hji
  rw [hn,decide_eq_true rfl] at hv
  generalize l[j] = x at *
  obtain ⟨xn,xk,xb,xs,xd⟩ := x
  dsimp only [chV] at hm hv
  repeat' (first | refine rI hm ?_ | refine T.ofFn rfl (C.read [0] he rfl hv rfl rfl rfl rfl rfl ?_) | exact ⟨⟩ | intro (K:KT) hK | intro hcd | (refine go1 ?_ ?_ <;> try clear hK K) | fail)
  exact WS.gc [0] 1 rfl (by exact oO) .rfl
 ·have h1 := hb j (by omega) hjl
  rw [decide_eq_false h1] at hv
  generalize l[j] = x at *
  obtain ⟨xn,xk,xb,xs,xd⟩ := x
  dsimp only [chV] at hm hv
  repeat' (first | refine rI hm ?_ | refine T.ofFn rfl (C.read [0] he rfl hv rfl rfl rfl rfl rfl ?_) | exact ⟨⟩ | intro (K:KT) hK | intro hcd | (refine go1 ?_ ?_ <;> try clear hK K) | fail)
  exact hC _ _ (j + 1) (by omega) (by omega) (Weaks.sel (by exact sB) rfl)
theorem bindex_ok (b:Brd) (s:ByteArray) (i:Nat) (hi:i < b.chips.length) (hn:b.chips[i].name = s) (hb:∀ j,j < i→∀ hj:j < b.chips.length,b.chips[j].name ≠ s) (hl:b.chips.length ≤ 256):FnE Tryz.prog 102 [.agg (boV b),.c (.string s)] [] (I i) []:=by
 have hx := idxC_ok 146 e146 s b.chips i hi hn hb hl fun x => idx1_ok s x
 obtain ⟨bn,⟨nm,ins,r1,r2,r3⟩,cs,ws⟩ := b
 unfold boV cpC
 dsimp only [List.cons_append,List.nil_append] at hx ⊢
 refine N.fnC Tryz.func102 k102 fun Q hQ hQN => ?_
 repeat' (first | refine T.cP [1] e108 (hx) ?_ | exact ⟨⟩ | intro (K:KT) hK | intro hcd | (refine go1 ?_ ?_ <;> try clear hK K) | fail)
 exact WS.drop (n := 0) rfl rfl
theorem wire_ok (b:Brd) (w:Wir) (s:ByteArray) (k i:Nat) (hk:k < w.src.size) (hz:w.src.size ≤ 1000) (hs:w.src ≠ ⟨#[46]⟩) (hf:firstIdx w.src 46 = k) (ha:w.src.extract 0 k = s) (hp:w.src.extract (k + 1) w.src.size = ⟨#[105,114,113]⟩) (hd:w.dst = sCpuIrq) (hi:i < b.chips.length) (hn:b.chips[i].name = s) (hb:∀ j,j < i→∀ hj:j < b.chips.length,b.chips[j].name ≠ s) (hl:b.chips.length ≤ 256) (hkd:b.chips[i].kind = 3∨b.chips[i].kind = 5∨b.chips[i].kind = 8):FnE Tryz.prog 47 [.agg (boV b),.agg (wiV w)] [] (I 0) []:=by
 have hc := cut_ok w.src s _ k hk hz hs hf ha hp
 have hx := bindex_ok b s i hi hn hb hl
 have hm := mget chV b.chips i hi
 have has:FnE Tryz.prog 103 [I b.chips[i].kind] [] (.c (.bool true)) []:=by
  refine N.fnC Tryz.func103 k103 fun Q hQ hQN => ?_
  repeat' (first | exact ⟨⟩ | intro (K:KT) hK | intro hcd | (refine go1 ?_ ?_ <;> try clear hK K) | fail)
  all_goals first | exact WS.c rfl rfl | exact WS.bool rfl (by simp; omega) | (exfalso; omega) | trace_state
 generalize b.chips[i] = x at *
 obtain ⟨xn,xk,xb,xs,xd⟩ := x
 obtain ⟨w1,w2⟩ := w
 obtain ⟨bn,⟨nm,ins,r1,r2,r3⟩,cs,ws⟩ := b
 dsimp only at hd hc has hl
 subst hd
 unfold boV cpC at *
 dsimp only [List.cons_append,List.nil_append,chV,wiV,sCpuIrq] at *
 refine N.fnC Tryz.func47 k47 fun Q hQ hQN => ?_
 repeat' (first | refine rI hm ?_ | rw [Bool.not_true] | (show WC _ _ _ _ _ _ _ _ _; first | refine T.call0 e101 rfl hc ?_ | refine T.call0 e102 rfl hx ?_ | refine T.call0 e103 rfl has ?_) | exact ⟨⟩ | intro (K:KT) hK | intro hcd | (refine go1 ?_ ?_ <;> try clear hK K) | fail)
 all_goals first | exact WS.drop (n := 0) rfl rfl | exact WS.c rfl rfl | (exfalso; omega) | trace_state
end Go.Proofs.YtonhglhdlgbcnabGreat.Calc
namespace Go.Proofs.YtonhglhdlgbcnabGreat.Calc
open Go
set_option linter.unusedVariables false
set_option linter.unusedSimpArgs false
instance (a b:Int):Decidable (fitsP a b) := by unfold fitsP; infer_instance
instance (s:Stp):Decidable (VStep s) := by unfold VStep; infer_instance
instance (c:Cyc):Decidable (VCyc c) := by unfold VCyc; infer_instance
instance (l:List Cyc):Decidable (VCycs l) := by unfold VCycs; infer_instance
def insB (x:Ins):Bool := decide (0 ≤ x.op∧x.op ≤ 255) && vnmB x.name && decide (0 ≤ sizeM x.mode) && decide (VCycs x.cy) && decide (opnd x.cy = sizeM x.mode)
theorem ins_of (x:Ins) (h:insB x = true):VIns x:=by
 unfold insB at h
 simp only [Bool.and_eq_true,decide_eq_true_eq] at h
 obtain ⟨⟨⟨⟨h1,h2⟩,h3⟩,h4⟩,h5⟩ := h
 exact ⟨h1,vnm_of _ h2,h3,h4,h5⟩
theorem std_ins:stdM.ins.all insB = true := by decide +kernel
def insD:Ins := ⟨0,⟨#[]⟩,0,[]⟩
theorem std_order:(List.range (stdM.ins.length - 1)).all (fun i => decide ((stdM.ins.getD i insD).op < (stdM.ins.getD (i + 1) insD).op)) = true := by decide +kernel
def keyI (x:Ins):List Nat×Int := (x.name.data.toList.map (·.toNat),x.mode)
theorem std_once:(stdM.ins.map keyI).Nodup := by decide +kernel
theorem std_v:VCpu stdM:=by
 refine ⟨vnm_of _ (by decide +kernel),by decide +kernel,fun x hx => ins_of x (List.all_eq_true.1 std_ins x hx),?_,?_,by decide +kernel,by decide +kernel,by decide +kernel⟩
 ·intro i h
  have h1 := List.all_eq_true.1 std_order i (List.mem_range.2 (by omega))
  have h1 := of_decide_eq_true h1
  rw [List.getD_eq_getElem?_getD,List.getD_eq_getElem?_getD,List.getElem?_eq_getElem (by omega),List.getElem?_eq_getElem h] at h1
  exact h1
 ·intro i j h hij ⟨e1,e2⟩
  have h1 := List.pairwise_iff_getElem.1 std_once i j (by rw [List.length_map]; omega) (by rw [List.length_map]; exact h) hij
  rw [List.getElem_map,List.getElem_map] at h1
  exact h1 (by unfold keyI; rw [e1,e2])
theorem src_v:∀ j:Nat,j < 5→6 < (chipN j ++ sIrq).size∧(chipN j ++ sIrq).size ≤ 1000∧firstIdx (chipN j ++ sIrq) 46 = 6∧(chipN j ++ sIrq) ≠ ⟨#[46]⟩∧(chipN j ++ sIrq).extract 0 6 = chipN j∧(chipN j ++ sIrq).extract (6 + 1) (chipN j ++ sIrq).size = ⟨#[105,114,113]⟩ := by decide +kernel
theorem src_inj:∀ j:Nat,j < 5→∀ k:Nat,k < j→chipN k ++ sIrq ≠ chipN j ++ sIrq := by decide +kernel
structure WInv (i:Nat) (cs:List Chp) (ws:List Wir):Prop where
 len:cs.length = i + 1
 num:ws.length ≤ i
 wr:∀ w ∈ ws,∃ j,j < i∧w = ⟨chipN j ++ sIrq,sCpuIrq⟩∧∃ c,cs[j + 1]? = some c∧(c.kind = 3∨c.kind = 5∨c.kind = 8)
 pw:ws.Pairwise fun a b => a.src ≠ b.src
theorem goBd_wires:∀ (n i:Nat) (a:Int) (cs:List Chp) (ws:List Wir) (l:List Int),i + n ≤ 4→WInv i cs ws→WInv (i + n) (goBd n i a cs ws l).1 (goBd n i a cs ws l).2.1:=by
 intro n
 induction n with
 | zero => intro i a cs ws l _ h; exact h
 | succ n ih =>
  intro i a cs ws l hn h
  unfold goBd
  generalize kdN (sval l 8).toNat = k at *
  have hc:(stepBd k i a (srest l 8)).1.kind = k := rfl
  have hw:(stepBd k i a (srest l 8)).2.1 = []∨((stepBd k i a (srest l 8)).2.1 = [⟨chipN i ++ sIrq,sCpuIrq⟩]∧((k:Int) = 3∨(k:Int) = 5∨(k:Int) = 8)):=by
   show (wirB k (chipN i) _).1 = []∨((wirB k (chipN i) _).1 = _∧_)
   unfold wirB
   by_cases h1:k = 3∨k = 5∨k = 8
   ·rw [if_pos h1]
    dsimp only
    split
    ·exact .inr ⟨rfl,by omega⟩
    ·exact .inl rfl
   ·rw [if_neg h1]; exact .inl rfl
  generalize (stepBd k i a (srest l 8)).1 = c at *
  generalize (stepBd k i a (srest l 8)).2.1 = nw at *
  rw [show i + (n + 1) = i + 1 + n by omega]
  apply ih _ _ _ _ _ (by omega)
  have old:∀ w ∈ ws,∃ j,j < i + 1∧w = ⟨chipN j ++ sIrq,sCpuIrq⟩∧∃ c',(cs ++ [c])[j + 1]? = some c'∧(c'.kind = 3∨c'.kind = 5∨c'.kind = 8) := fun w hw => by
   obtain ⟨j,h1,h2,c',h3,h4⟩ := h.wr w hw
   exact ⟨j,by omega,h2,c',by rw [List.getElem?_append_left (by rw [h.len]; omega)]; exact h3,h4⟩
  rcases hw with hw | ⟨hw,hk⟩
  ·subst hw
   rw [List.append_nil]
   exact ⟨by rw [List.length_append,h.len]; rfl,by have := h.num; omega,old,h.pw⟩
  ·subst hw
   refine ⟨by rw [List.length_append,h.len]; rfl,by have := h.num; rw [List.length_append,List.length_singleton]; omega,?_,?_⟩
   ·intro w hw
    rcases List.mem_append.1 hw with hw | hw
    ·exact old w hw
    ·simp only [List.mem_singleton] at hw; subst hw
     exact ⟨i,by omega,rfl,c,by rw [← h.len]; simp,by rw [hc]; exact hk⟩
   ·rw [List.pairwise_append]
    refine ⟨h.pw,List.pairwise_singleton ..,fun x hx y hy => ?_⟩
    simp only [List.mem_singleton] at hy; subst hy
    obtain ⟨j,h1,h2,_⟩ := h.wr x hx
    subst h2
    exact src_inj i (by omega) j h1
theorem mkBrd_wires (l:List Int):∃ n,n ≤ 4∧(mkBrd l).chips.length = n + 2∧(mkBrd l).wires.length ≤ n∧(∀ w ∈ (mkBrd l).wires,∃ j,j < n∧w = ⟨chipN j ++ sIrq,sCpuIrq⟩∧∃ c,(mkBrd l).chips[j + 1]? = some c∧c.name = chipN j∧(c.kind = 3∨c.kind = 5∨c.kind = 8))∧(mkBrd l).wires.Pairwise fun a b => a.src ≠ b.src:=by
 have r := sval_range l 5 (by decide)
 have h := goBd_wires (sval l 5).toNat 0 57344 [ramC] [] (srest l 5) (by omega) ⟨rfl,Nat.zero_le _,fun w hw => absurd hw (by simp),List.Pairwise.nil⟩
 obtain ⟨a',_,h2⟩ := goBd_place (sval l 5).toNat 0 57344 [ramC] [] (srest l 5) (by omega) (by decide) ⟨rfl,by
  intro c hc; simp only [List.mem_singleton] at hc; subst hc; decide,fun j k h hjk => absurd h (by simp; omega),fun j h => by
   have:j = 0 := by simp at h; omega
   subst this; rfl⟩
 rw [Nat.zero_add] at h h2
 refine ⟨(sval l 5).toNat,by omega,?_,h.num,?_,h.pw⟩
 ·show ((goBd (sval l 5).toNat 0 57344 [ramC] [] (srest l 5)).1 ++ [_]).length = _
  rw [List.length_append,h.len]; rfl
 ·intro w hw
  obtain ⟨j,h1,h3,c,h4,h5⟩ := h.wr w hw
  refine ⟨j,h1,h3,c,?_,?_,h5⟩
  ·show ((goBd (sval l 5).toNat 0 57344 [ramC] [] (srest l 5)).1 ++ [_])[j + 1]? = _
   rw [List.getElem?_append_left (by rw [h.len]; omega)]; exact h4
  ·obtain ⟨hj,e⟩ := List.getElem?_eq_some_iff.1 h4
   rw [← e,h2.names (j + 1) hj,if_neg (by omega)]; rfl
theorem mkBrd_v (l:List Int):VBoard (mkBrd l):=by
 obtain ⟨hv,hn2,hn6⟩ := mkBrd_kinds l
 obtain ⟨hpl,hap⟩ := mkBrd_places l
 obtain ⟨n,h1,h2,h3,_⟩ := mkBrd_wires l
 exact ⟨vnm_of _ (by show vnmB ⟨#[98,111,97,114,100]⟩ = true; decide +kernel),std_v,by omega,hv,hpl,fun i j h hij => (hap i j h hij).1,by omega⟩
end Go.Proofs.YtonhglhdlgbcnabGreat.Calc
namespace Go.Proofs.YtonhglhdlgbcnabGreat.Calc
open Go Code
set_option linter.unusedSimpArgs false
set_option linter.unusedVariables false
set_option maxRecDepth 20000
set_option maxHeartbeats 4000000
attribute [local irreducible] WOpsT AW AK RK AKW UK UC
theorem ixW_ok (l:List Wir) (w:Wir) (hl:l.length ≤ 256) (hn:∀ x ∈ l,x.src ≠ w.src):FnE Tryz.prog 104 [.sl 2 (l.map wiV),.agg (wiV w)] [] (I (-1)) []:=by
 obtain ⟨w1,w2⟩ := w
 dsimp only [wiV] at hn ⊢
 refine N.fnC Tryz.func104 k104 fun Q hQ hQN => ?_
 repeat' (first | rw [List.length_map] | exact ⟨⟩ | intro (K:KT) hK | intro hcd | (refine go1 ?_ ?_ <;> try clear hK K) | fail)
 refine N.loop (σ := Nat) (fun j => [(0,.sl 2 (l.map wiV)),(3,.ptr 0 1 0 0),(7,I l.length),(8,I j)]) (fun j => [⟨1,2,[[.c (.string w1),.c (.string w2)]]⟩]) (fun j => j ≤ l.length) (fun j => l.length - j) 0 (Nat.zero_le _) (by exact .G [0] 1) fun j hj R hC => ?_
 by_cases hjl:j < l.length
 ·have hm := mget wiV l j hjl
  have h1 := hn _ (List.getElem_mem hjl)
  generalize l[j] = x at *
  obtain ⟨x1,x2⟩ := x
  dsimp only [wiV] at hm h1
  have h2:¬ w1 = x1 := fun h => h1 h.symm
  repeat' (first | refine rI hm ?_ | (show WOpsT _ (⟨_,.eqs _ _ _ _,none⟩ :: _) _ _ _ _; refine T.eqs (b := false) rfl rfl (by simp [eqLv,eqC,h2]) ?_) | exact ⟨⟩ | intro (K:KT) hK | intro hcd | (refine go1 ?_ ?_ <;> try clear hK K) | fail)
  all_goals first | exact hC _ _ (j + 1) (by omega) (by omega) (by exact .G [0] 1) | trace_state
 ·obtain rfl:j = l.length := by omega
  repeat' (first | exact ⟨⟩ | intro (K:KT) hK | intro hcd | (refine go1 ?_ ?_ <;> try clear hK K) | fail)
  exact WS.c rfl rfl
theorem ctW_ok (l:List Wir) (w:Wir) (hl:l.length ≤ 256) (hn:∀ x ∈ l,x.src ≠ w.src):FnE Tryz.prog 48 [.sl 2 (l.map wiV),.agg (wiV w)] [] (.c (.bool false)) []:=by
 have hx := ixW_ok l w hl hn
 obtain ⟨w1,w2⟩ := w
 dsimp only [wiV] at hx ⊢
 refine N.fnC Tryz.func48 k48 fun Q hQ hQN => ?_
 repeat' (first | refine T.call0 e104 rfl hx ?_ | exact ⟨⟩ | intro (K:KT) hK | intro hcd | (refine go1 ?_ ?_ <;> try clear hK K) | fail)
 all_goals first | exact WS.bool rfl (by decide) | exact WS.c rfl rfl
theorem mkcheck_ok (l:List Int):FnE Tryz.prog 20 [.agg (boV (mkBrd l))] [] (I 0) []:=by
 obtain ⟨n,h1,h2,h3,h4,h5⟩ := mkBrd_wires l
 have hap := (mkBrd_places l).2
 refine bcheck_ok _ (mkBrd_v l) (fun w hw => ?_) (fun i hi => ?_)
 ·obtain ⟨j,g1,g2,c,g3,g4,g5⟩ := h4 w hw
  obtain ⟨q1,q2,q3,q4,q5,q6⟩ := src_v j (by omega)
  obtain ⟨hj,e⟩ := List.getElem?_eq_some_iff.1 g3
  have hs:w.src = chipN j ++ sIrq := by rw [g2]
  refine wire_ok (mkBrd l) w (chipN j) 6 (j + 1) ?_ ?_ ?_ ?_ ?_ ?_ ?_ hj ?_ ?_ ?_ ?_
  ·rw [hs]; exact q1
  ·rw [hs]; exact q2
  ·rw [hs]; exact q4
  ·rw [hs]; exact q3
  ·rw [hs]; exact q5
  ·rw [hs]; exact q6
  ·rw [g2]
  ·rw [e]; exact g4
  ·intro k hk hkl
   rw [← g4,← e]
   exact (hap k (j + 1) hj hk).1.1
  ·omega
  ·rw [e]; exact g5
 ·refine ctW_ok _ _ (by rw [List.length_take]; omega) fun x hx => ?_
  obtain ⟨k,hk,rfl⟩ := List.getElem_of_mem hx
  rw [List.length_take] at hk
  rw [List.getElem_take]
  exact List.pairwise_iff_getElem.1 h5 k i (by omega) hi (by omega)
theorem machines_go (B:Brd) (ds:List Dv) (hlen:ds.length = B.chips.length) (hbd:FnE Tryz.prog 5 [.c (.slice none 0 0)] [] (.agg (boV B)) []) (hnew:FnE Tryz.prog 7 [.agg (boV B)] [] (.tup [.agg (maV 0 rstR 258 0 false ds 0 0 0),I 0]) []) (hs:FnE Tryz.prog 13 [.agg (maV 0 rstR 258 0 false ds 0 0 0),.agg (maV 0 rstR 258 0 false ds 0 0 0)] [] (.c (.bool true)) []):FnE Tryz.prog 11 [] [] (.c (.bool true)) []:=by
 obtain ⟨bn,⟨nm,ins,r1,r2,r3⟩,cs,ws⟩ := B
 dsimp only at hlen
 unfold boV cpC at hbd hnew
 dsimp only [List.cons_append,List.nil_append,maV] at hbd hnew hs
 generalize rstR = r at *
 have z1:spl [V.c (.string ⟨#[]⟩),.c (.string ⟨#[]⟩),.c (.slice none 0 0),.c (.slice none 0 0),.c (.slice none 0 0),.c (.slice none 0 0),.c (.slice none 0 0),.c (.slice none 0 0)] 0 [V.c (.string bn),.c (.string nm),.sl 4 (ins.map inC),.sl 4 (r1.map cyC),.sl 4 (r2.map cyC),.sl 4 (r3.map cyC),.sl 5 (cs.map chV),.sl 2 (ws.map wiV)] = [V.c (.string bn),.c (.string nm),.sl 4 (ins.map inC),.sl 4 (r1.map cyC),.sl 4 (r2.map cyC),.sl 4 (r3.map cyC),.sl 5 (cs.map chV),.sl 2 (ws.map wiV)] := rfl
 have z2:List.take 8 [V.c (.string bn),.c (.string nm),.sl 4 (ins.map inC),.sl 4 (r1.map cyC),.sl 4 (r2.map cyC),.sl 4 (r3.map cyC),.sl 5 (cs.map chV),.sl 2 (ws.map wiV)] = [V.c (.string bn),.c (.string nm),.sl 4 (ins.map inC),.sl 4 (r1.map cyC),.sl 4 (r2.map cyC),.sl 4 (r3.map cyC),.sl 5 (cs.map chV),.sl 2 (ws.map wiV)] := rfl
 have z3:spl [I 0,I 0,I 0,I 0,I 0,I 0,I 0,I 0,I 0,I 0,I 0,I 0,.c (.bool false),.c (.slice none 0 0),I 0,I 0,I 0] 0 [I 0,I (r 0),I (r 1),I (r 2),I (r 3),I (r 4),I (r 5),I (r 6),I (r 7),I (r 8),I 258,I 0,.c (.bool false),.sl 2 (ds.map dvC),I 0,I 0,I 0] = [I 0,I (r 0),I (r 1),I (r 2),I (r 3),I (r 4),I (r 5),I (r 6),I (r 7),I (r 8),I 258,I 0,.c (.bool false),.sl 2 (ds.map dvC),I 0,I 0,I 0] := rfl
 have z4:List.take 17 [I 0,I (r 0),I (r 1),I (r 2),I (r 3),I (r 4),I (r 5),I (r 6),I (r 7),I (r 8),I 258,I 0,.c (.bool false),.sl 2 (ds.map dvC),I 0,I 0,I 0] = [I 0,I (r 0),I (r 1),I (r 2),I (r 3),I (r 4),I (r 5),I (r 6),I (r 7),I (r 8),I 258,I 0,.c (.bool false),.sl 2 (ds.map dvC),I 0,I 0,I 0] := rfl
 refine N.fnC Tryz.func11 k11 fun Q hQ hQN => ?_
 repeat' (first | rw [z1] | rw [z2] | rw [z3] | rw [z4] | rw [List.length_map] | rw [hlen] | (show WC _ _ _ _ _ _ _ _ _; first | refine T.call0 e5 rfl hbd ?_ | refine T.call0 e7 rfl hnew ?_ | refine T.call0 e13 rfl hs ?_) | exact ⟨⟩ | intro (K:KT) hK | intro hcd | (refine go1 ?_ ?_ <;> try clear hK K) | fail)
 all_goals first | exact WS.c rfl rfl | (exfalso; omega) | trace_state
theorem DvOk.sml {c:Chp} {d:Dv} (h:DvOk c d):SmlD d := h.small
theorem newDs_sml (l:List Int):∀ d ∈ (mkBrd l).chips.map newV,SmlD d:=by
 intro d hd
 obtain ⟨c,hc,rfl⟩ := List.mem_map.1 hd
 exact (newV_ok c ((mkBrd_kinds l).1 c hc)).1.sml
theorem mkNew_ok (l:List Int):FnE Tryz.prog 7 [.agg (boV (mkBrd l))] [] (.tup [.agg (maV 0 rstR 258 0 false ((mkBrd l).chips.map newV) 0 0 0),I 0]) []:=by
 obtain ⟨hv,hn2,hn6⟩ := mkBrd_kinds l
 exact machNew_ok _ hv (mkcheck_ok l) (by omega) (by omega)
theorem machines_ok:FnE Tryz.prog 11 [] [] (.c (.bool true)) []:=by
 obtain ⟨hv,hn2,hn6⟩ := mkBrd_kinds []
 exact machines_go (mkBrd []) _ (List.length_map ..) (FnE.arg0 (mkBrd_ok []) .nil) (mkNew_ok []) (msame_ok _ _ _ _ _ _ _ _ _ (newDs_sml []) (by rw [List.length_map]; omega))
end Go.Proofs.YtonhglhdlgbcnabGreat.Calc
namespace Go.Proofs.YtonhglhdlgbcnabGreat.Calc
open Go Code
set_option linter.unusedSimpArgs false
set_option linter.unusedVariables false
set_option maxRecDepth 20000
set_option maxHeartbeats 8000000
attribute [local irreducible] WOpsT AW AK RK AKW UK UC
theorem FnE.drop {P:Program} {f:FuncId} {args:List V} {h':List Blk} {r:V} (n:Nat) (hF:FnE P f args [] r h'):FnE P f args [] (out h' [] n r) []:=by
 intro X w ι vs H hsz hargs
 refine (hF X w ι vs H hsz hargs).mono ?_
 rintro e w' ⟨v,ι',rfl,H',hr,hFr,hR⟩
 obtain ⟨ι2,he,H2,hrel,hown⟩ := reindex H' [] (by simp) (by simp) n
 have hι:ι = [] := List.eq_nil_of_length_eq_zero H.len
 subst hι
 exact ⟨v,ι2,rfl,H2,hrel _ _ hr,⟨hFr.size,hFr.same,fun r hr => hFr.own r (hown r hr),hFr.os,hFr.tape,hFr.output⟩,Refs.nil _⟩
theorem stdM_sml':SmlP stdM:=by
 unfold SmlP SmlC
 decide +kernel
theorem mkMac_ok (l:List Int):MacOk (mkBrd l):=by
 obtain ⟨hv,hn2,hn6⟩ := mkBrd_kinds l
 obtain ⟨hpl,_⟩ := mkBrd_places l
 have hb := mkBrd_v l
 refine ⟨by omega,by omega,?_,?_,?_,stdM_sml'⟩
 ·have := hb.wnum; omega
 ·intro c hc
  have := (hb.places c hc).name.1
  omega
 ·intro c hc
  have h1 := (hv c hc).size
  have h2 := (hpl c hc).lo
  have h3 := (hpl c hc).hi
  omega
noncomputable def mac0 (l:List Int):Mac := ⟨0,⟨rstR,258,0,false⟩,(mkBrd l).chips.map newV,⟨0,0,0⟩⟩
theorem mac0_st (l:List Int):MacSt (mkBrd l) (mac0 l):=by
 obtain ⟨hv,hn2,hn6⟩ := mkBrd_kinds l
 refine ⟨⟨List.length_map ..,fun i h1 h2 => ?_⟩,Int.le_refl _,by show (0:Int) ≤ 1099511627776; decide⟩
 simp only [mac0,List.getElem_map]
 exact (newV_ok _ (hv _ (List.getElem_mem h1))).1
theorem mac0_new (l:List Int):FnE Tryz.prog 7 [.agg (boV (mkBrd l))] [] (.tup [.agg (maS (mac0 l)),I 0]) [] := mkNew_ok l
theorem maS_out (s:Mac) (n:Nat) (o x:V) (ho:∀ h,out h [] 1 o = o) (hx:∀ h,out h [] 1 x = x):out [⟨2,2,s.ds.map dvC⟩] [] 1 (.tup [.agg (maB s 0 2),o,x]) = .tup [.agg (maS s),o,x]:=by
 show V.tup [.agg (mrow _ _ _ _ _ (out _ [] 1 (.psl 0 2 0 s.ds.length)) _ _ _),out _ [] 1 o,out _ [] 1 x] = _
 rw [out_rowsK (f := dvC) rfl rfl (Nat.le_refl _),ho,hx]; rfl
theorem run_ok (l:List Int) (s:Mac) (ins:List Ev) (n:Nat) (hn:n ≤ 100000) (h:MacSt (mkBrd l) s) (hi:InsOk (mkBrd l) ins):FnE Tryz.prog 8 [.agg (boV (mkBrd l)),.agg (maS s),.sl 3 (ins.map evV),I n] [] (.tup [.agg (maS (runS (mkBrd l) ins s n)),.sl 3 ((runO (mkBrd l) ins s n).map evV),I 0]) []:=by
 have := FnE.drop 1 (runz_ok (mkBrd l) (mkMac_ok l) s ins n hn (by have := hi.len; omega) h (check_ok _ (mkMac_ok l) s ins h hi (mkcheck_ok l)))
 rw [maS_out _ 1 _ _ (fun _ => rfl) (fun _ => rfl)] at this
 exact this
theorem msameS (l:List Int) (s:Mac) (h:MacSt (mkBrd l) s):FnE Tryz.prog 13 [.agg (maS s),.agg (maS s)] [] (.c (.bool true)) [] :=
 msame_ok _ _ _ _ _ _ _ _ _ h.1.sml (by rw [h.1.1]; have := (mkMac_ok l).n12; omega)
theorem boV_zero (B:Brd):spl [V.c (.string ⟨#[]⟩),.c (.string ⟨#[]⟩),.c (.slice none 0 0),.c (.slice none 0 0),.c (.slice none 0 0),.c (.slice none 0 0),.c (.slice none 0 0),.c (.slice none 0 0)] 0 (boV B) = boV B := rfl
theorem boV_ren (B:Brd) (ks:List Nat):(boV B).map (ren ks) = boV B := rfl
theorem maS_zero (s:Mac):spl [I 0,I 0,I 0,I 0,I 0,I 0,I 0,I 0,I 0,I 0,I 0,I 0,.c (.bool false),.c (.slice none 0 0),I 0,I 0,I 0] 0 (maS s) = maS s := rfl
theorem maS_ren (s:Mac) (ks:List Nat):(maS s).map (ren ks) = maS s := rfl
theorem maS_t17 (s:Mac):(maS s).take 17 = maS s := rfl
theorem runS_t (B:Brd) (ins:List Ev) (s:Mac) (h:0 ≤ s.t):∀ n:Nat,s.t + n ≤ 1099511627776→(runS B ins s n).t = s.t + n:=by
 intro n
 induction n with
 | zero => intro _; exact (Int.add_zero _).symm
 | succ n ih =>
  intro hn
  show tNext (runS B ins s n).t = _
  rw [ih (by omega)]
  unfold tNext
  omega
theorem mparts_go (l inn:List Int) (a0 z0:Int) (a z:Nat) (ha:a0 % 250 = a) (hz:z0 % 250 = z) (B:Brd) (s0 s1 s2:Mac) (ins o1 o2:List Ev) (hm:FnE Tryz.prog 11 [] [] (.c (.bool true)) []) (hbd:FnE Tryz.prog 5 [.sl 1 (cells l)] [] (.agg (boV B)) []) (hin:FnE Tryz.prog 9 [.agg (boV B),.sl 1 (cells inn)] [] (.sl 3 (ins.map evV)) []) (hnew:FnE Tryz.prog 7 [.agg (boV B)] [] (.tup [.agg (maS s0),I 0]) [])
  (hr1:FnE Tryz.prog 8 [.agg (boV B),.agg (maS s0),.sl 3 (ins.map evV),I a] [] (.tup [.agg (maS s1),.sl 3 (o1.map evV),I 0]) [])
  (hr2:FnE Tryz.prog 8 [.agg (boV B),.agg (maS s1),.sl 3 (ins.map evV),I z] [] (.tup [.agg (maS s2),.sl 3 (o2.map evV),I 0]) [])
  (hr3:FnE Tryz.prog 8 [.agg (boV B),.agg (maS s0),.sl 3 (ins.map evV),I (a + z)] [] (.tup [.agg (maS s2),.sl 3 ((o1 ++ o2).map evV),I 0]) [])
  (hsm:FnE Tryz.prog 13 [.agg (maS s2),.agg (maS s2)] [] (.c (.bool true)) []) (h1:o1.length ≤ 3000) (h2:o2.length ≤ 3000) (ht:s2.t = a + z):FnE Tryz.prog 4 [.sl 1 (cells l),.sl 1 (cells inn),I a0,I z0] [] (.c (.bool true)) []:=by
 have b1 := below_ok a0 250 (by decide) (by decide)
 have b2 := below_ok z0 250 (by decide) (by decide)
 rw [ha] at b1
 rw [hz] at b2
 have hcc := concatE_ok o1 o2 (by omega) (by omega)
 have heq := eqE_ok (o1 ++ o2) (by rw [List.length_append]; omega)
 have hra:(a:Int) < 250 := by omega
 have hrz:(z:Int) < 250 := by omega
 refine N.fnC Tryz.func4 k4 fun Q hQ hQN => ?_
 repeat' (first | rw [boV_zero] | rw [boV_t8] | rw [boV_ren] | rw [maS_zero] | rw [maS_ren] | rw [maS_t17] | (show WC _ _ _ _ _ _ _ _ _; first | refine T.call0 e5 rfl hbd ?_ | refine T.call0 e9 rfl hin ?_ | refine T.call0 e7 rfl hnew ?_ | refine T.call0 e6 rfl b1 ?_ | refine T.call0 e6 rfl b2 ?_ | refine T.call0 e8 rfl hr1 ?_ | refine T.call0 e8 rfl hr2 ?_ | refine T.call0 e8 rfl hr3 ?_ | refine T.call0 e11 rfl hm ?_ | refine T.call0 e13 rfl hsm ?_ | refine T.callQ [5] e15 rfl (hcc) (by exact pA) rfl rfl rfl (by exact rN) ?_ | refine T.call0 e14 rfl heq ?_) | exact ⟨⟩ | intro (K:KT) hK | intro hcd | (refine go1 ?_ ?_ <;> try clear hK K) | fail)
 rw [decide_eq_true ht]
 exact WS.c rfl rfl
theorem runO_le (l:List Int) (ins:List Ev) (s:Mac) (n k:Nat) (h:n ≤ k):(runO (mkBrd l) ins s n).length ≤ 6 * k:=by
 have h1 := runO_len (mkBrd l) ins s n
 have h2 := (mkBrd_kinds l).2.2
 exact Nat.le_trans h1 (Nat.mul_le_mul h2 h)
theorem mparts_ok (l inn:List Int) (a0 z0:Int):FnE Tryz.prog 4 [.sl 1 (cells l),.sl 1 (cells inn),I a0,I z0] [] (.c (.bool true)) []:=by
 obtain ⟨a,ha⟩:∃ n:Nat,a0 % 250 = n := ⟨(a0 % 250).toNat,by omega⟩
 obtain ⟨z,hz⟩:∃ n:Nat,z0 % 250 = n := ⟨(z0 % 250).toNat,by omega⟩
 have hB := mkMac_ok l
 have h0 := mac0_st l
 have hio := inpM_ok (mkBrd l) inn
 have h1 := runS_st (mkBrd l) (inpM (mkBrd l) inn) (mac0 l) h0 a
 have h2 := runS_st (mkBrd l) (inpM (mkBrd l) inn) _ h1 z
 have hr3 := run_ok l (mac0 l) (inpM (mkBrd l) inn) (a + z) (by omega) h0 hio
 rw [runS_add,runO_add] at hr3
 refine mparts_go l inn a0 z0 a z ha hz (mkBrd l) (mac0 l) _ _ _ _ _ machines_ok (mkBrd_ok l) (inputs_ok _ hB inn) (mac0_new l) (run_ok l _ _ a (by omega) h0 hio) (run_ok l _ _ z (by omega) h1 hio) hr3 (msameS l _ h2) ?_ ?_ ?_
 ·have := runO_le l (inpM (mkBrd l) inn) (mac0 l) a 250 (by omega); omega
 ·have := runO_le l (inpM (mkBrd l) inn) (runS (mkBrd l) (inpM (mkBrd l) inn) (mac0 l) a) z 250 (by omega); omega
 ·have e1:(mac0 l).t = 0 := rfl
  rw [← runS_add,runS_t _ _ _ (by rw [e1]; decide) _ (by rw [e1]; omega),e1]
  omega
end Go.Proofs.YtonhglhdlgbcnabGreat.Calc
