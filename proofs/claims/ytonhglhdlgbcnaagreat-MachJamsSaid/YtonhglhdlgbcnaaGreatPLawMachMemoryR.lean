/- Several texts in one (FnMachC, PureRange, FnWire, PureWire, FnWireB, FnPokes, FnMachL, PureMem, FnLawMemory), for the proof of LawMachMemory. No condition beyond those in each lemma. -/
import Derived.Test.YtonhglhdlgbcnaaGreatPLawMachMemoryQ
import Derived.Test.YtonhglhdlgbcnaaGreatPLawMachMemoryM
import Derived.Test.YtonhglhdlgbcnaaGreatPLawMachMemoryD
import Derived.Laws.StandIn
namespace Go.Proofs.YtonhglhdlgbcnaaGreat.Calc
open Go Code
set_option linter.unusedSimpArgs false
set_option linter.unusedVariables false
set_option maxRecDepth 20000
set_option maxHeartbeats 4000000
attribute [local irreducible] WOpsT AW AK RK AKW UK UC
end Go.Proofs.YtonhglhdlgbcnaaGreat.Calc
namespace Go.Proofs.YtonhglhdlgbcnaaGreat.Calc
open Go
set_option linter.unusedVariables false
set_option linter.unusedSimpArgs false
def vnmB (s:ByteArray):Bool := decide (1 ≤ s.size) && decide (s.size ≤ 20) && (match s[0]? with
 | some b => decide (97 ≤ b.toNat) && decide (b.toNat ≤ 122)
 | none => false) && (nmB s).all fun b => decide ((97 ≤ b∧b ≤ 122)∨(48 ≤ b∧b ≤ 57)∨b = 45)
theorem vnm_of (s:ByteArray) (h:vnmB s = true):VName s:=by
 unfold vnmB at h
 rw [Bool.and_eq_true,Bool.and_eq_true,Bool.and_eq_true] at h
 obtain ⟨⟨⟨h1,h2⟩,h3⟩,h4⟩ := h
 refine ⟨⟨of_decide_eq_true h1,of_decide_eq_true h2⟩,?_,fun x hx => by have h5 := List.all_eq_true.1 h4 x hx; unfold okCh; exact of_decide_eq_true h5⟩
 cases hs:s[0]? with
 | none => rw [hs] at h3; cases h3
 | some b =>
  rw [hs] at h3
  dsimp only at h3
  rw [Bool.and_eq_true] at h3
  have a := of_decide_eq_true h3.1
  have b' := of_decide_eq_true h3.2
  exact ⟨b,rfl,by omega,by omega⟩
theorem chipN_v:∀ j:Nat,j < 5→vnmB (chipN j) = true∧chipN j ≠ ⟨#[99,112,117]⟩∧chipN j ≠ ⟨#[114,97,109]⟩∧chipN j ≠ ⟨#[114,111,109]⟩ := by decide +kernel
theorem chipN_inj:∀ j:Nat,j < 5→∀ k:Nat,k < j→chipN k ≠ chipN j := by decide +kernel
structure BdInv (i:Nat) (a:Int) (cs:List Chp):Prop where
 len:cs.length = i + 1
 lo:∀ c ∈ cs,0 ≤ c.base∧0 ≤ c.size∧c.base + c.size ≤ a
 order:∀ j k (h:k < cs.length) (hjk:j < k),cs[j].base + cs[j].size ≤ cs[k].base
 names:∀ j (h:j < cs.length),cs[j].name = if j = 0 then ⟨#[114,97,109]⟩ else chipN (j - 1)
theorem goBd_place:∀ (n i:Nat) (a:Int) (cs:List Chp) (ws:List Wir) (l:List Int),i + n ≤ 4→57344 ≤ a∧a ≤ 57344 + 48 * i→BdInv i a cs→∃ a':Int,a' ≤ 57344 + 48 * (i + n:Nat)∧BdInv (i + n) a' (goBd n i a cs ws l).1:=by
 intro n
 induction n with
 | zero => intro i a cs ws l _ ha h; exact ⟨a,by rw [Nat.add_zero]; exact ha.2,h⟩
 | succ n ih =>
  intro i a cs ws l hn ha h
  have hz := szN_r (kdN (sval l 8).toNat)
  unfold goBd
  generalize kdN (sval l 8).toNat = k at *
  have hc:(stepBd k i a (srest l 8)).1.name = chipN i∧(stepBd k i a (srest l 8)).1.base = a∧(stepBd k i a (srest l 8)).1.size = szN k := ⟨rfl,rfl,rfl⟩
  generalize (stepBd k i a (srest l 8)).1 = c at *
  obtain ⟨c1,c2,c3⟩ := hc
  have hlast:∀ (h:cs.length < (cs ++ [c]).length),(cs ++ [c])[cs.length] = c := fun h => by simp
  obtain ⟨a',h1,h2⟩ := ih (i + 1) (a + ((szN k:Int) + 15) / 16 * 16) (cs ++ [c]) (ws ++ (stepBd k i a (srest l 8)).2.1) (stepBd k i a (srest l 8)).2.2 (by omega) (by omega) (by
   refine ⟨by rw [List.length_append,h.len]; rfl,?_,?_,?_⟩
   ·intro x hx
    rcases List.mem_append.1 hx with hx | hx
    ·have := h.lo x hx; omega
    ·simp only [List.mem_singleton] at hx; subst hx; omega
   ·intro j q hq hjq
    by_cases hq2:q < cs.length
    ·rw [List.getElem_append_left hq2,List.getElem_append_left (by omega)]; exact h.order j q hq2 hjq
    ·have:q = cs.length := by rw [List.length_append] at hq; simp at hq; omega
     subst this
     rw [hlast hq,List.getElem_append_left hjq,c2]
     have := h.lo cs[j] (List.getElem_mem _)
     omega
   ·intro j hj
    by_cases hj2:j < cs.length
    ·rw [List.getElem_append_left hj2]; exact h.names j hj2
    ·have:j = cs.length := by rw [List.length_append] at hj; simp at hj; omega
     subst this
     rw [hlast hj,c1,h.len,if_neg (by omega)]
     rfl)
  exact ⟨a',by rw [show i + (n + 1) = i + 1 + n by omega]; exact h1,by rw [show i + (n + 1) = i + 1 + n by omega]; exact h2⟩
theorem mkBrd_places (l:List Int):(∀ c ∈ (mkBrd l).chips,VPlace c)∧∀ i j (h:j < (mkBrd l).chips.length) (hij:i < j),Apart (mkBrd l).chips[i] (mkBrd l).chips[j]∧(mkBrd l).chips[i].base + (mkBrd l).chips[i].size ≤ (mkBrd l).chips[j].base:=by
 have r := sval_range l 5 (by decide)
 obtain ⟨a',h1,h2⟩ := goBd_place (sval l 5).toNat 0 57344 [ramC] [] (srest l 5) (by omega) (by decide) ⟨rfl,by
  intro c hc; simp only [List.mem_singleton] at hc; subst hc; decide,fun j k h hjk => absurd h (by simp; omega),fun j h => by
   have:j = 0 := by simp at h; omega
   subst this; rfl⟩
 rw [Nat.zero_add] at h1 h2
 have hcs:(mkBrd l).chips = (goBd (sval l 5).toNat 0 57344 [ramC] [] (srest l 5)).1 ++ [romC (bdOf l).2.2] := rfl
 refine (fun (key:∀ cs2,cs2 = (goBd (sval l 5).toNat 0 57344 [ramC] [] (srest l 5)).1 ++ [romC (bdOf l).2.2]→(∀ c ∈ cs2,VPlace c)∧∀ i j (h:j < cs2.length) (hij:i < j),Apart cs2[i] cs2[j]∧cs2[i].base + cs2[i].size ≤ cs2[j].base) => key _ hcs) ?_
 intro cs2 hcs2
 clear hcs
 subst hcs2
 generalize (goBd (sval l 5).toNat 0 57344 [ramC] [] (srest l 5)).1 = cs at *
 generalize hrc:romC (bdOf l).2.2 = rc
 have hr:rc.name = ⟨#[114,111,109]⟩∧rc.base = 65280∧rc.size = 256 := by rw [← hrc]; exact ⟨rfl,rfl,rfl⟩
 obtain ⟨r1,r2,r3⟩ := hr
 have hnm:∀ j (hj:j < cs.length),vnmB cs[j].name = true∧cs[j].name ≠ ⟨#[99,112,117]⟩∧cs[j].name ≠ ⟨#[114,111,109]⟩ := fun j hj => by
  have hl := h2.len
  rw [h2.names j hj]
  by_cases h0:j = 0
  ·rw [if_pos h0]; exact ⟨by decide +kernel,by decide,by decide⟩
  ·rw [if_neg h0]
   obtain ⟨q1,q2,q3,q4⟩ := chipN_v (j - 1) (by omega)
   exact ⟨q1,q2,q4⟩
 have hlast:∀ (h:cs.length < (cs ++ [rc]).length),(cs ++ [rc])[cs.length] = rc := fun h => by simp
 constructor
 ·intro c hc
  rcases List.mem_append.1 hc with hc | hc
  ·obtain ⟨j,hj,rfl⟩ := List.getElem_of_mem hc
   obtain ⟨q1,q2,q3⟩ := hnm j hj
   have := h2.lo _ hc
   exact ⟨vnm_of _ q1,q2,this.1,by omega⟩
  ·simp only [List.mem_singleton] at hc; subst hc
   exact ⟨by rw [r1]; exact vnm_of _ (by decide +kernel),by rw [r1]; decide,by omega,by omega⟩
 ·intro i j hj hij
  by_cases hj2:j < cs.length
  ·rw [List.getElem_append_left hj2,List.getElem_append_left (by omega)]
   have ho := h2.order i j hj2 hij
   refine ⟨⟨?_,.inl ho⟩,ho⟩
   rw [h2.names i (by omega),h2.names j hj2,if_neg (show ¬ j = 0 by omega)]
   have hl := h2.len
   by_cases h0:i = 0
   ·rw [if_pos h0]
    exact fun h => (chipN_v (j - 1) (by omega)).2.2.1 h.symm
   ·rw [if_neg h0]
    exact chipN_inj (j - 1) (by omega) (i - 1) (by omega)
  ·have:j = cs.length := by rw [List.length_append] at hj; simp at hj; omega
   subst this
   rw [hlast hj,List.getElem_append_left hij]
   have hlo := h2.lo cs[i] (List.getElem_mem _)
   have ho:cs[i].base + cs[i].size ≤ rc.base := by omega
   refine ⟨⟨?_,.inl ho⟩,ho⟩
   rw [r1]; exact (hnm i hij).2.2
structure Rg where
 fr:Int
 to:Int
 ch:Int
def rgV (r:Rg):List V := [I r.fr,I r.to,I r.ch]
instance:Flat rgV := ⟨fun a x hx => by simp [rgV] at hx; rcases hx with rfl | rfl | rfl <;> exact .inl ⟨_,rfl⟩⟩
def ixA (cs:List Chp) (a:Int):Int := match findC cs a with
 | some i => (i:Int)
 | none => -1
def stepR (l:List Rg) (n:Nat) (x:Int):List Rg := match l.getLast? with
 | some r => if r.ch = x then l.dropLast ++ [⟨r.fr,(n:Int) + 1,r.ch⟩] else l ++ [⟨n,(n:Int) + 1,x⟩]
 | none => l ++ [⟨n,(n:Int) + 1,x⟩]
def mapR (cs:List Chp):Nat→List Rg
 | 0 => []
 | n + 1 => stepR (mapR cs n) n (ixA cs n)
def sumR (l:List Rg) (k:Int):Int := (l.map fun r => if r.ch = k then r.to - r.fr else 0).foldr (· + ·) 0
structure RInv (cs:List Chp) (n:Nat) (l:List Rg):Prop where
 rg:∀ r ∈ l,0 ≤ r.fr∧r.fr < r.to∧r.to ≤ n∧(-1 ≤ r.ch∧r.ch < cs.length)∧∀ a,r.fr ≤ a→a < r.to→ixA cs a = r.ch
 all:∀ a,0 ≤ a→a < (n:Int)→∃ r ∈ l,r.fr ≤ a∧a < r.to
 last:∀ r,l.getLast? = some r→r.to = n
 len:l.length ≤ n
end Go.Proofs.YtonhglhdlgbcnaaGreat.Calc
namespace Go.Proofs.YtonhglhdlgbcnaaGreat.Calc
open Go Code
set_option linter.unusedSimpArgs false
set_option linter.unusedVariables false
set_option maxRecDepth 20000
set_option maxHeartbeats 4000000
attribute [local irreducible] WOpsT AW AK RK AKW UK UC
theorem ibs_x (s:ByteArray) (c:Int):ExtE Tryz.prog 201 [.c (.string s),.c (.int .u8 c)] (I (firstIdx s c.toNat.toUInt8)):=by
 intro X w ι vs hn hr
 have e:vs = #[.string s,.int .u8 c]:=by
  obtain ⟨l⟩ := vs
  match l,hn with
  | [a,b],_ =>
   have h1 := hr 0 a _ rfl rfl
   have h2 := hr 1 b _ rfl rfl
   cases h1; cases h2; rfl
 subst e
 refine ⟨_,?_,.c⟩
 rw [run_callFunc_indexByte Tryz.func201 (by kernel_rfl) (by kernel_rfl) (by kernel_rfl) (by kernel_rfl),run_indexByte_string]
 rfl
theorem ib_ok (s:ByteArray) (c:Int):FnE Tryz.prog 197 [.c (.string s),.c (.int .u8 c)] [] (I (firstIdx s c.toNat.toUInt8)) []:=by
 refine N.fnC Tryz.func197 k197 fun Q hQ hQN => ?_
 repeat' (first | (show WOpsT _ (⟨_,.xcall _ _,none⟩ :: _) _ _ _ _; refine T.xcall rfl (ibs_x _ _) ?_) | exact ⟨⟩ | intro (K:KT) hK | intro hcd | (refine go1 ?_ ?_ <;> try clear hK K) | fail)
 exact WS.c rfl rfl
theorem dot_ok (s:ByteArray) (hs:s ≠ ⟨#[46]⟩):FnE Tryz.prog 192 [.c (.string s),.c (.string ⟨#[46]⟩)] [] (I (firstIdx s 46)) []:=by
 have hx := ib_ok s 46
 have e:decide ((⟨#[46]⟩:ByteArray) = s) = false := decide_eq_false fun h => hs h.symm
 refine N.fnC Tryz.func192 k192 fun Q hQ hQN => ?_
 repeat' (first | (show WOpsT _ (⟨_,.ixs _ _,none⟩ :: _) _ _ _ _; refine T.ixs rfl rfl (by decide) rfl ?_) | rw [e] | refine T.call0 e197 rfl hx ?_ | exact ⟨⟩ | intro (K:KT) hK | intro hcd | (refine go1 ?_ ?_ <;> try clear hK K) | fail)
 all_goals first | exact WS.c rfl rfl | (exfalso; omega) | trace_state
theorem cutL_ok (s a b:ByteArray) (k:Nat) (hk:k < s.size) (hz:s.size ≤ 1000) (hs:s ≠ ⟨#[46]⟩) (hi:firstIdx s 46 = k) (ha:s.extract 0 k = a) (hb:s.extract (k + 1) s.size = b):FnE Tryz.prog 173 [.c (.string s),.c (.string ⟨#[46]⟩)] [] (.tup [.c (.string a),.c (.string b),.c (.bool true)]) []:=by
 have hx := dot_ok s hs
 rw [hi] at hx
 have e1:((⟨#[46]⟩:ByteArray).size:Int) = 1 := rfl
 refine N.fnC Tryz.func173 k173 fun Q hQ hQN => ?_
 repeat' (first | rw [e1] | refine T.call0 e192 rfl hx ?_ | exact ⟨⟩ | intro (K:KT) hK | intro hcd | (refine go1 ?_ ?_ <;> try clear hK K) | fail)
 all_goals first | (exfalso; omega) | skip
 rw [show ((k:Int) + 1).toNat = k + 1 by omega,Int.toNat_natCast,Int.toNat_natCast,ha,hb]
 exact WS.drop (n := 0) rfl rfl
theorem cut_ok (s a b:ByteArray) (k:Nat) (hk:k < s.size) (hz:s.size ≤ 1000) (hs:s ≠ ⟨#[46]⟩) (hi:firstIdx s 46 = k) (ha:s.extract 0 k = a) (hb:s.extract (k + 1) s.size = b):FnE Tryz.prog 123 [.c (.string s),.c (.string ⟨#[46]⟩)] [] (.tup [.c (.string a),.c (.string b),.c (.bool true)]) []:=by
 have hx := cutL_ok s a b k hk hz hs hi ha hb
 refine N.fnC Tryz.func123 k123 fun Q hQ hQN => ?_
 repeat' (first | refine T.call0 e173 rfl hx ?_ | exact ⟨⟩ | intro (K:KT) hK | intro hcd | (refine go1 ?_ ?_ <;> try clear hK K) | fail)
 exact WS.drop (n := 0) rfl rfl
theorem idx1_ok (s:ByteArray) (c:Chp):FnE Tryz.prog 174 [.agg (chV c),.ptr 0 1 0 0] [⟨1,1,[[.c (.string s)]]⟩] (.c (.bool (decide (c.name = s)))) [⟨1,1,[[.c (.string s)]]⟩]:=by
 obtain ⟨nm,k,b,z,dat⟩ := c
 dsimp only [chV]
 refine N.fnC Tryz.func174 k174 fun Q hQ hQN => ?_
 repeat' (first | exact ⟨⟩ | intro (K:KT) hK | intro hcd | (refine go1 ?_ ?_ <;> try clear hK K) | fail)
 exact WS.gc [0] 1 rfl (by exact oO) .rfl
theorem idxC_ok (f:Nat) (he:enters Tryz.prog f = true) (s:ByteArray) (l:List Chp) (i:Nat) (hi:i < l.length) (hn:l[i].name = s) (hb:∀ j,j < i→∀ hj:j < l.length,l[j].name ≠ s) (hl:l.length ≤ 256) (hp:∀ x:Chp,FnE Tryz.prog f [.agg (chV x),.ptr 0 1 0 0] [⟨1,1,[[.c (.string s)]]⟩] (.c (.bool (decide (x.name = s)))) [⟨1,1,[[.c (.string s)]]⟩]):FnE Tryz.prog 128 [.sl 5 (l.map chV),.fn f [.ptr 0 1 0 0]] [⟨1,1,[[.c (.string s)]]⟩] (I i) [⟨1,1,[[.c (.string s)]]⟩]:=by
 refine N.fnC Tryz.func128 k128 fun Q hQ hQN => ?_
 repeat' (first | rw [List.length_map] | exact ⟨⟩ | intro (K:KT) hK | intro hcd | (refine go1 ?_ ?_ <;> try clear hK K) | fail)
 refine N.loop (σ := Nat) (fun j => [(0,.sl 5 (l.map chV)),(1,.fn f [.ptr 0 1 0 0]),(7,I l.length),(8,I j)]) (fun j => [⟨1,1,[[.c (.string s)]]⟩]) (fun j => j ≤ i) (fun j => i - j) 0 (Nat.zero_le _) (Weaks.sel (by exact sB) rfl) fun j hj R hC => ?_
 have hjl:j < l.length := by omega
 have hm := mget chV l j hjl
 have hv := hp l[j]
 by_cases hji:j = i
 ·subst hji
  rw [hn,decide_eq_true rfl] at hv
  generalize l[j] = x at *
  obtain ⟨xn,xk,xb,xs,xd⟩ := x
  dsimp only [chV] at hm hv
  repeat' (first | refine rI hm ?_ | refine T.ofFn rfl (C.read [0] he rfl hv rfl rfl rfl rfl rfl ?_) | exact ⟨⟩ | intro (K:KT) hK | intro hcd | (refine go1 ?_ ?_ <;> try clear hK K) | fail)
  exact WS.gc [0] 1 rfl (by exact oO) .rfl
 ·have h1 := hb j (by omega) hjl
  rw [decide_eq_false h1] at hv
  generalize l[j] = x at *
  obtain ⟨xn,xk,xb,xs,xd⟩ := x
  dsimp only [chV] at hm hv
  repeat' (first | refine rI hm ?_ | refine T.ofFn rfl (C.read [0] he rfl hv rfl rfl rfl rfl rfl ?_) | exact ⟨⟩ | intro (K:KT) hK | intro hcd | (refine go1 ?_ ?_ <;> try clear hK K) | fail)
  exact hC _ _ (j + 1) (by omega) (by omega) (Weaks.sel (by exact sB) rfl)
theorem bindex_ok (b:Brd) (s:ByteArray) (i:Nat) (hi:i < b.chips.length) (hn:b.chips[i].name = s) (hb:∀ j,j < i→∀ hj:j < b.chips.length,b.chips[j].name ≠ s) (hl:b.chips.length ≤ 256):FnE Tryz.prog 124 [.agg (boV b),.c (.string s)] [] (I i) []:=by
 have hx := idxC_ok 174 e174 s b.chips i hi hn hb hl fun x => idx1_ok s x
 obtain ⟨bn,⟨nm,ins,r1,r2,r3⟩,cs,ws⟩ := b
 unfold boV cpC
 dsimp only [List.cons_append,List.nil_append] at hx ⊢
 refine N.fnC Tryz.func124 k124 fun Q hQ hQN => ?_
 repeat' (first | refine T.cP [1] e128 (hx) ?_ | exact ⟨⟩ | intro (K:KT) hK | intro hcd | (refine go1 ?_ ?_ <;> try clear hK K) | fail)
 exact WS.drop (n := 0) rfl rfl
theorem wire_ok (b:Brd) (w:Wir) (s:ByteArray) (k i:Nat) (hk:k < w.src.size) (hz:w.src.size ≤ 1000) (hs:w.src ≠ ⟨#[46]⟩) (hf:firstIdx w.src 46 = k) (ha:w.src.extract 0 k = s) (hp:w.src.extract (k + 1) w.src.size = ⟨#[105,114,113]⟩) (hd:w.dst = sCpuIrq) (hi:i < b.chips.length) (hn:b.chips[i].name = s) (hb:∀ j,j < i→∀ hj:j < b.chips.length,b.chips[j].name ≠ s) (hl:b.chips.length ≤ 256) (hkd:b.chips[i].kind = 3∨b.chips[i].kind = 5∨b.chips[i].kind = 8):FnE Tryz.prog 60 [.agg (boV b),.agg (wiV w)] [] (I 0) []:=by
 have hc := cut_ok w.src s _ k hk hz hs hf ha hp
 have hx := bindex_ok b s i hi hn hb hl
 have hm := mget chV b.chips i hi
 have has:FnE Tryz.prog 125 [I b.chips[i].kind] [] (.c (.bool true)) []:=by
  refine N.fnC Tryz.func125 k125 fun Q hQ hQN => ?_
  repeat' (first | exact ⟨⟩ | intro (K:KT) hK | intro hcd | (refine go1 ?_ ?_ <;> try clear hK K) | fail)
  all_goals first | exact WS.c rfl rfl | exact WS.bool rfl (by simp; omega) | (exfalso; omega) | trace_state
 generalize b.chips[i] = x at *
 obtain ⟨xn,xk,xb,xs,xd⟩ := x
 obtain ⟨w1,w2⟩ := w
 obtain ⟨bn,⟨nm,ins,r1,r2,r3⟩,cs,ws⟩ := b
 dsimp only at hd hc has hl
 subst hd
 unfold boV cpC at *
 dsimp only [List.cons_append,List.nil_append,chV,wiV,sCpuIrq] at *
 refine N.fnC Tryz.func60 k60 fun Q hQ hQN => ?_
 repeat' (first | refine rI hm ?_ | rw [Bool.not_true] | (show WC _ _ _ _ _ _ _ _ _; first | refine T.call0 e123 rfl hc ?_ | refine T.call0 e124 rfl hx ?_ | refine T.call0 e125 rfl has ?_) | exact ⟨⟩ | intro (K:KT) hK | intro hcd | (refine go1 ?_ ?_ <;> try clear hK K) | fail)
 all_goals first | exact WS.drop (n := 0) rfl rfl | exact WS.c rfl rfl | (exfalso; omega) | trace_state
end Go.Proofs.YtonhglhdlgbcnaaGreat.Calc
namespace Go.Proofs.YtonhglhdlgbcnaaGreat.Calc
open Go
set_option linter.unusedVariables false
set_option linter.unusedSimpArgs false
instance (a b:Int):Decidable (fitsP a b) := by unfold fitsP; infer_instance
instance (s:Stp):Decidable (VStep s) := by unfold VStep; infer_instance
instance (c:Cyc):Decidable (VCyc c) := by unfold VCyc; infer_instance
instance (l:List Cyc):Decidable (VCycs l) := by unfold VCycs; infer_instance
def insB (x:Ins):Bool := decide (0 ≤ x.op∧x.op ≤ 255) && vnmB x.name && decide (0 ≤ sizeM x.mode) && decide (VCycs x.cy) && decide (opnd x.cy = sizeM x.mode)
theorem ins_of (x:Ins) (h:insB x = true):VIns x:=by
 unfold insB at h
 simp only [Bool.and_eq_true,decide_eq_true_eq] at h
 obtain ⟨⟨⟨⟨h1,h2⟩,h3⟩,h4⟩,h5⟩ := h
 exact ⟨h1,vnm_of _ h2,h3,h4,h5⟩
theorem std_ins:stdM.ins.all insB = true := by decide +kernel
def insD:Ins := ⟨0,⟨#[]⟩,0,[]⟩
theorem std_order:(List.range (stdM.ins.length - 1)).all (fun i => decide ((stdM.ins.getD i insD).op < (stdM.ins.getD (i + 1) insD).op)) = true := by decide +kernel
def keyI (x:Ins):List Nat×Int := (x.name.data.toList.map (·.toNat),x.mode)
theorem std_once:(stdM.ins.map keyI).Nodup := by decide +kernel
theorem std_v:VCpu stdM:=by
 refine ⟨vnm_of _ (by decide +kernel),by decide +kernel,fun x hx => ins_of x (List.all_eq_true.1 std_ins x hx),?_,?_,by decide +kernel,by decide +kernel,by decide +kernel⟩
 ·intro i h
  have h1 := List.all_eq_true.1 std_order i (List.mem_range.2 (by omega))
  have h1 := of_decide_eq_true h1
  rw [List.getD_eq_getElem?_getD,List.getD_eq_getElem?_getD,List.getElem?_eq_getElem (by omega),List.getElem?_eq_getElem h] at h1
  exact h1
 ·intro i j h hij ⟨e1,e2⟩
  have h1 := List.pairwise_iff_getElem.1 std_once i j (by rw [List.length_map]; omega) (by rw [List.length_map]; exact h) hij
  rw [List.getElem_map,List.getElem_map] at h1
  exact h1 (by unfold keyI; rw [e1,e2])
theorem src_v:∀ j:Nat,j < 5→6 < (chipN j ++ sIrq).size∧(chipN j ++ sIrq).size ≤ 1000∧firstIdx (chipN j ++ sIrq) 46 = 6∧(chipN j ++ sIrq) ≠ ⟨#[46]⟩∧(chipN j ++ sIrq).extract 0 6 = chipN j∧(chipN j ++ sIrq).extract (6 + 1) (chipN j ++ sIrq).size = ⟨#[105,114,113]⟩ := by decide +kernel
theorem src_inj:∀ j:Nat,j < 5→∀ k:Nat,k < j→chipN k ++ sIrq ≠ chipN j ++ sIrq := by decide +kernel
structure WInv (i:Nat) (cs:List Chp) (ws:List Wir):Prop where
 len:cs.length = i + 1
 num:ws.length ≤ i
 wr:∀ w ∈ ws,∃ j,j < i∧w = ⟨chipN j ++ sIrq,sCpuIrq⟩∧∃ c,cs[j + 1]? = some c∧(c.kind = 3∨c.kind = 5∨c.kind = 8)
 pw:ws.Pairwise fun a b => a.src ≠ b.src
theorem goBd_wires:∀ (n i:Nat) (a:Int) (cs:List Chp) (ws:List Wir) (l:List Int),i + n ≤ 4→WInv i cs ws→WInv (i + n) (goBd n i a cs ws l).1 (goBd n i a cs ws l).2.1:=by
 intro n
 induction n with
 | zero => intro i a cs ws l _ h; exact h
 | succ n ih =>
  intro i a cs ws l hn h
  unfold goBd
  generalize kdN (sval l 8).toNat = k at *
  have hc:(stepBd k i a (srest l 8)).1.kind = k := rfl
  have hw:(stepBd k i a (srest l 8)).2.1 = []∨((stepBd k i a (srest l 8)).2.1 = [⟨chipN i ++ sIrq,sCpuIrq⟩]∧((k:Int) = 3∨(k:Int) = 5∨(k:Int) = 8)):=by
   show (wirB k (chipN i) _).1 = []∨((wirB k (chipN i) _).1 = _∧_)
   unfold wirB
   by_cases h1:k = 3∨k = 5∨k = 8
   ·rw [if_pos h1]
    dsimp only
    split
    ·exact .inr ⟨rfl,by omega⟩
    ·exact .inl rfl
   ·rw [if_neg h1]; exact .inl rfl
  generalize (stepBd k i a (srest l 8)).1 = c at *
  generalize (stepBd k i a (srest l 8)).2.1 = nw at *
  rw [show i + (n + 1) = i + 1 + n by omega]
  apply ih _ _ _ _ _ (by omega)
  have old:∀ w ∈ ws,∃ j,j < i + 1∧w = ⟨chipN j ++ sIrq,sCpuIrq⟩∧∃ c',(cs ++ [c])[j + 1]? = some c'∧(c'.kind = 3∨c'.kind = 5∨c'.kind = 8) := fun w hw => by
   obtain ⟨j,h1,h2,c',h3,h4⟩ := h.wr w hw
   exact ⟨j,by omega,h2,c',by rw [List.getElem?_append_left (by rw [h.len]; omega)]; exact h3,h4⟩
  rcases hw with hw | ⟨hw,hk⟩
  ·subst hw
   rw [List.append_nil]
   exact ⟨by rw [List.length_append,h.len]; rfl,by have := h.num; omega,old,h.pw⟩
  ·subst hw
   refine ⟨by rw [List.length_append,h.len]; rfl,by have := h.num; rw [List.length_append,List.length_singleton]; omega,?_,?_⟩
   ·intro w hw
    rcases List.mem_append.1 hw with hw | hw
    ·exact old w hw
    ·simp only [List.mem_singleton] at hw; subst hw
     exact ⟨i,by omega,rfl,c,by rw [← h.len]; simp,by rw [hc]; exact hk⟩
   ·rw [List.pairwise_append]
    refine ⟨h.pw,List.pairwise_singleton ..,fun x hx y hy => ?_⟩
    simp only [List.mem_singleton] at hy; subst hy
    obtain ⟨j,h1,h2,_⟩ := h.wr x hx
    subst h2
    exact src_inj i (by omega) j h1
theorem mkBrd_wires (l:List Int):∃ n,n ≤ 4∧(mkBrd l).chips.length = n + 2∧(mkBrd l).wires.length ≤ n∧(∀ w ∈ (mkBrd l).wires,∃ j,j < n∧w = ⟨chipN j ++ sIrq,sCpuIrq⟩∧∃ c,(mkBrd l).chips[j + 1]? = some c∧c.name = chipN j∧(c.kind = 3∨c.kind = 5∨c.kind = 8))∧(mkBrd l).wires.Pairwise fun a b => a.src ≠ b.src:=by
 have r := sval_range l 5 (by decide)
 have h := goBd_wires (sval l 5).toNat 0 57344 [ramC] [] (srest l 5) (by omega) ⟨rfl,Nat.zero_le _,fun w hw => absurd hw (by simp),List.Pairwise.nil⟩
 obtain ⟨a',_,h2⟩ := goBd_place (sval l 5).toNat 0 57344 [ramC] [] (srest l 5) (by omega) (by decide) ⟨rfl,by
  intro c hc; simp only [List.mem_singleton] at hc; subst hc; decide,fun j k h hjk => absurd h (by simp; omega),fun j h => by
   have:j = 0 := by simp at h; omega
   subst this; rfl⟩
 rw [Nat.zero_add] at h h2
 refine ⟨(sval l 5).toNat,by omega,?_,h.num,?_,h.pw⟩
 ·show ((goBd (sval l 5).toNat 0 57344 [ramC] [] (srest l 5)).1 ++ [_]).length = _
  rw [List.length_append,h.len]; rfl
 ·intro w hw
  obtain ⟨j,h1,h3,c,h4,h5⟩ := h.wr w hw
  refine ⟨j,h1,h3,c,?_,?_,h5⟩
  ·show ((goBd (sval l 5).toNat 0 57344 [ramC] [] (srest l 5)).1 ++ [_])[j + 1]? = _
   rw [List.getElem?_append_left (by rw [h.len]; omega)]; exact h4
  ·obtain ⟨hj,e⟩ := List.getElem?_eq_some_iff.1 h4
   rw [← e,h2.names (j + 1) hj,if_neg (by omega)]; rfl
theorem mkBrd_v (l:List Int):VBoard (mkBrd l):=by
 obtain ⟨hv,hn2,hn6⟩ := mkBrd_kinds l
 obtain ⟨hpl,hap⟩ := mkBrd_places l
 obtain ⟨n,h1,h2,h3,_⟩ := mkBrd_wires l
 exact ⟨vnm_of _ (by show vnmB ⟨#[98,111,97,114,100]⟩ = true; decide +kernel),std_v,by omega,hv,hpl,fun i j h hij => (hap i j h hij).1,by omega⟩
end Go.Proofs.YtonhglhdlgbcnaaGreat.Calc
namespace Go.Proofs.YtonhglhdlgbcnaaGreat.Calc
open Go Code
set_option linter.unusedSimpArgs false
set_option linter.unusedVariables false
set_option maxRecDepth 20000
set_option maxHeartbeats 4000000
attribute [local irreducible] WOpsT AW AK RK AKW UK UC
theorem ixW_ok (l:List Wir) (w:Wir) (hl:l.length ≤ 256) (hn:∀ x ∈ l,x.src ≠ w.src):FnE Tryz.prog 126 [.sl 2 (l.map wiV),.agg (wiV w)] [] (I (-1)) []:=by
 obtain ⟨w1,w2⟩ := w
 dsimp only [wiV] at hn ⊢
 refine N.fnC Tryz.func126 k126 fun Q hQ hQN => ?_
 repeat' (first | rw [List.length_map] | exact ⟨⟩ | intro (K:KT) hK | intro hcd | (refine go1 ?_ ?_ <;> try clear hK K) | fail)
 refine N.loop (σ := Nat) (fun j => [(0,.sl 2 (l.map wiV)),(3,.ptr 0 1 0 0),(7,I l.length),(8,I j)]) (fun j => [⟨1,2,[[.c (.string w1),.c (.string w2)]]⟩]) (fun j => j ≤ l.length) (fun j => l.length - j) 0 (Nat.zero_le _) (by exact .G [0] 1) fun j hj R hC => ?_
 by_cases hjl:j < l.length
 ·have hm := mget wiV l j hjl
  have h1 := hn _ (List.getElem_mem hjl)
  generalize l[j] = x at *
  obtain ⟨x1,x2⟩ := x
  dsimp only [wiV] at hm h1
  have h2:¬ w1 = x1 := fun h => h1 h.symm
  repeat' (first | refine rI hm ?_ | (show WOpsT _ (⟨_,.eqs _ _ _ _,none⟩ :: _) _ _ _ _; refine T.eqs (b := false) rfl rfl (by simp [eqLv,eqC,h2]) ?_) | exact ⟨⟩ | intro (K:KT) hK | intro hcd | (refine go1 ?_ ?_ <;> try clear hK K) | fail)
  all_goals first | exact hC _ _ (j + 1) (by omega) (by omega) (by exact .G [0] 1) | trace_state
 ·obtain rfl:j = l.length := by omega
  repeat' (first | exact ⟨⟩ | intro (K:KT) hK | intro hcd | (refine go1 ?_ ?_ <;> try clear hK K) | fail)
  exact WS.c rfl rfl
theorem ctW_ok (l:List Wir) (w:Wir) (hl:l.length ≤ 256) (hn:∀ x ∈ l,x.src ≠ w.src):FnE Tryz.prog 61 [.sl 2 (l.map wiV),.agg (wiV w)] [] (.c (.bool false)) []:=by
 have hx := ixW_ok l w hl hn
 obtain ⟨w1,w2⟩ := w
 dsimp only [wiV] at hx ⊢
 refine N.fnC Tryz.func61 k61 fun Q hQ hQN => ?_
 repeat' (first | refine T.call0 e126 rfl hx ?_ | exact ⟨⟩ | intro (K:KT) hK | intro hcd | (refine go1 ?_ ?_ <;> try clear hK K) | fail)
 all_goals first | exact WS.bool rfl (by decide) | exact WS.c rfl rfl
theorem mkcheck_ok (l:List Int):FnE Tryz.prog 22 [.agg (boV (mkBrd l))] [] (I 0) []:=by
 obtain ⟨n,h1,h2,h3,h4,h5⟩ := mkBrd_wires l
 have hap := (mkBrd_places l).2
 refine bcheck_ok _ (mkBrd_v l) (fun w hw => ?_) (fun i hi => ?_)
 ·obtain ⟨j,g1,g2,c,g3,g4,g5⟩ := h4 w hw
  obtain ⟨q1,q2,q3,q4,q5,q6⟩ := src_v j (by omega)
  obtain ⟨hj,e⟩ := List.getElem?_eq_some_iff.1 g3
  have hs:w.src = chipN j ++ sIrq := by rw [g2]
  refine wire_ok (mkBrd l) w (chipN j) 6 (j + 1) ?_ ?_ ?_ ?_ ?_ ?_ ?_ hj ?_ ?_ ?_ ?_
  ·rw [hs]; exact q1
  ·rw [hs]; exact q2
  ·rw [hs]; exact q4
  ·rw [hs]; exact q3
  ·rw [hs]; exact q5
  ·rw [hs]; exact q6
  ·rw [g2]
  ·rw [e]; exact g4
  ·intro k hk hkl
   rw [← g4,← e]
   exact (hap k (j + 1) hj hk).1.1
  ·omega
  ·rw [e]; exact g5
 ·refine ctW_ok _ _ (by rw [List.length_take]; omega) fun x hx => ?_
  obtain ⟨k,hk,rfl⟩ := List.getElem_of_mem hx
  rw [List.length_take] at hk
  rw [List.getElem_take]
  exact List.pairwise_iff_getElem.1 h5 k i (by omega) hi (by omega)
theorem DvOk.sml {c:Chp} {d:Dv} (h:DvOk c d):SmlD d := h.small
theorem mkNew_ok (l:List Int):FnE Tryz.prog 9 [.agg (boV (mkBrd l))] [] (.tup [.agg (maV 0 rstR 258 0 false ((mkBrd l).chips.map newV) 0 0 0),I 0]) []:=by
 obtain ⟨hv,hn2,hn6⟩ := mkBrd_kinds l
 exact machNew_ok _ hv (mkcheck_ok l) (by omega) (by omega)
end Go.Proofs.YtonhglhdlgbcnaaGreat.Calc
namespace Go.Proofs.YtonhglhdlgbcnaaGreat.Calc
open Go Code
set_option linter.unusedSimpArgs false
set_option linter.unusedVariables false
set_option maxRecDepth 20000
set_option maxHeartbeats 8000000
attribute [local irreducible] WOpsT AW AK RK AKW UK UC
theorem FnE.drop {P:Program} {f:FuncId} {args:List V} {h':List Blk} {r:V} (n:Nat) (hF:FnE P f args [] r h'):FnE P f args [] (out h' [] n r) []:=by
 intro X w ι vs H hsz hargs
 refine (hF X w ι vs H hsz hargs).mono ?_
 rintro e w' ⟨v,ι',rfl,H',hr,hFr,hR⟩
 obtain ⟨ι2,he,H2,hrel,hown⟩ := reindex H' [] (by simp) (by simp) n
 have hι:ι = [] := List.eq_nil_of_length_eq_zero H.len
 subst hι
 exact ⟨v,ι2,rfl,H2,hrel _ _ hr,⟨hFr.size,hFr.same,fun r hr => hFr.own r (hown r hr),hFr.os,hFr.tape,hFr.output⟩,Refs.nil _⟩
theorem stdM_sml':SmlP stdM:=by
 unfold SmlP SmlC
 decide +kernel
theorem mkMac_ok (l:List Int):MacOk (mkBrd l):=by
 obtain ⟨hv,hn2,hn6⟩ := mkBrd_kinds l
 obtain ⟨hpl,_⟩ := mkBrd_places l
 have hb := mkBrd_v l
 refine ⟨by omega,by omega,?_,?_,?_,stdM_sml'⟩
 ·have := hb.wnum; omega
 ·intro c hc
  have := (hb.places c hc).name.1
  omega
 ·intro c hc
  have h1 := (hv c hc).size
  have h2 := (hpl c hc).lo
  have h3 := (hpl c hc).hi
  omega
noncomputable def mac0 (l:List Int):Mac := ⟨0,⟨rstR,258,0,false⟩,(mkBrd l).chips.map newV,⟨0,0,0⟩⟩
theorem mac0_st (l:List Int):MacSt (mkBrd l) (mac0 l):=by
 obtain ⟨hv,hn2,hn6⟩ := mkBrd_kinds l
 refine ⟨⟨List.length_map ..,fun i h1 h2 => ?_⟩,Int.le_refl _,by show (0:Int) ≤ 1099511627776; decide⟩
 simp only [mac0,List.getElem_map]
 exact (newV_ok _ (hv _ (List.getElem_mem h1))).1
theorem mac0_new (l:List Int):FnE Tryz.prog 9 [.agg (boV (mkBrd l))] [] (.tup [.agg (maS (mac0 l)),I 0]) [] := mkNew_ok l
theorem maS_out (s:Mac) (n:Nat) (o x:V) (ho:∀ h,out h [] 1 o = o) (hx:∀ h,out h [] 1 x = x):out [⟨2,2,s.ds.map dvC⟩] [] 1 (.tup [.agg (maB s 0 2),o,x]) = .tup [.agg (maS s),o,x]:=by
 show V.tup [.agg (mrow _ _ _ _ _ (out _ [] 1 (.psl 0 2 0 s.ds.length)) _ _ _),out _ [] 1 o,out _ [] 1 x] = _
 rw [out_rowsK (f := dvC) rfl rfl (Nat.le_refl _),ho,hx]; rfl
theorem run_ok (l:List Int) (s:Mac) (ins:List Ev) (n:Nat) (hn:n ≤ 100000) (h:MacSt (mkBrd l) s) (hi:InsOk (mkBrd l) ins):FnE Tryz.prog 10 [.agg (boV (mkBrd l)),.agg (maS s),.sl 3 (ins.map evV),I n] [] (.tup [.agg (maS (runS (mkBrd l) ins s n)),.sl 3 ((runO (mkBrd l) ins s n).map evV),I 0]) []:=by
 have := FnE.drop 1 (runz_ok (mkBrd l) (mkMac_ok l) s ins n hn (by have := hi.len; omega) h (check_ok _ (mkMac_ok l) s ins h hi (mkcheck_ok l)))
 rw [maS_out _ 1 _ _ (fun _ => rfl) (fun _ => rfl)] at this
 exact this
theorem boV_zero (B:Brd):spl [V.c (.string ⟨#[]⟩),.c (.string ⟨#[]⟩),.c (.slice none 0 0),.c (.slice none 0 0),.c (.slice none 0 0),.c (.slice none 0 0),.c (.slice none 0 0),.c (.slice none 0 0)] 0 (boV B) = boV B := rfl
theorem boV_ren (B:Brd) (ks:List Nat):(boV B).map (ren ks) = boV B := rfl
theorem maS_zero (s:Mac):spl [I 0,I 0,I 0,I 0,I 0,I 0,I 0,I 0,I 0,I 0,I 0,I 0,.c (.bool false),.c (.slice none 0 0),I 0,I 0,I 0] 0 (maS s) = maS s := rfl
theorem maS_ren (s:Mac) (ks:List Nat):(maS s).map (ren ks) = maS s := rfl
theorem maS_t17 (s:Mac):(maS s).take 17 = maS s := rfl
theorem runS_t (B:Brd) (ins:List Ev) (s:Mac) (h:0 ≤ s.t):∀ n:Nat,s.t + n ≤ 1099511627776→(runS B ins s n).t = s.t + n:=by
 intro n
 induction n with
 | zero => intro _; exact (Int.add_zero _).symm
 | succ n ih =>
  intro hn
  show tNext (runS B ins s n).t = _
  rw [ih (by omega)]
  unfold tNext
  omega
end Go.Proofs.YtonhglhdlgbcnaaGreat.Calc
namespace Go.Proofs.YtonhglhdlgbcnaaGreat.Calc
open Go Code
set_option linter.unusedSimpArgs false
set_option linter.unusedVariables false
def MemK (c:Chp):Prop := c.kind = 0∨c.kind = 1∨c.kind = 2
theorem skipV_mem {c:Chp} (h:MemK c) (t:Nat) (d:Dv):skipV c t d = d:=by
 unfold skipV
 rw [if_neg (by rcases h with h | h | h <;> rw [h] <;> decide),if_neg (by rcases h with h | h | h <;> rw [h] <;> decide),if_neg (by rcases h with h | h | h <;> rw [h] <;> decide),if_neg (by rcases h with h | h | h <;> rw [h] <;> decide),if_neg (by rcases h with h | h | h <;> rw [h] <;> decide)]
theorem inF_mem {c:Chp} (h:MemK c) (v:Int) (d:Dv):inF c d v = d:=by
 unfold inF
 rw [if_neg (by rcases h with h | h | h <;> rw [h] <;> decide),if_neg (by rcases h with h | h | h <;> rw [h] <;> decide),if_neg (by rcases h with h | h | h <;> rw [h] <;> decide)]
 exact skipV_mem h 0 d
theorem zw_same {f:Chp→Dv→Dv} {cs:List Chp} {ds:List Dv} (hl:ds.length = cs.length) {i:Nat} {c:Chp} (hc:cs[i]? = some c) (h:∀ d,f c d = d):(List.zipWith f cs ds)[i]? = ds[i]?:=by
 rw [List.getElem?_zipWith,hc]
 cases ds[i]? with
 | none => rfl
 | some d => simp only [h d]
theorem giv_len (cs:List Chp) (t:Int):∀ (ins:List Ev) (s:Bool×List Dv),s.2.length = cs.length→(givM cs t ins s).2.length = cs.length:=by
 intro ins
 induction ins with
 | nil => intro s h; exact h
 | cons x l ih =>
  intro s h
  refine ih _ ?_
  unfold giv1 giveD
  split
  ·split
   ·exact h
   ·rw [List.length_zipWith]; omega
  ·exact h
theorem giv_mem (cs:List Chp) (t:Int) {i:Nat} {c:Chp} (hc:cs[i]? = some c) (hm:MemK c):∀ (ins:List Ev) (s:Bool×List Dv),s.2.length = cs.length→(givM cs t ins s).2[i]? = s.2[i]?:=by
 intro ins
 induction ins with
 | nil => intro s h; rfl
 | cons x l ih =>
  intro s h
  have h1:(giv1 cs t s x).2.length = cs.length := giv_len cs t [x] s h
  show (givM cs t l (giv1 cs t s x)).2[i]? = _
  rw [ih _ h1]
  unfold giv1 giveD
  split
  ·split
   ·rfl
   ·refine zw_same h hc fun d => ?_
    unfold giveC; split
    ·exact inF_mem hm _ d
    ·rfl
  ·rfl
theorem tick_mem {cs:List Chp} {ds:List Dv} (hl:ds.length = cs.length) {i:Nat} {c:Chp} (hc:cs[i]? = some c) (hm:MemK c):(tickL cs ds)[i]? = ds[i]? := zw_same hl hc fun d => skipV_mem hm 1 d
theorem acc_mem {cs:List Chp} {ds:List Dv} (h:DvsOk cs ds) (d ad z:Int) {i:Nat} {c:Chp} (hc:cs[i]? = some c) (hm:MemK c) :
  (accM cs d ad z ds).1[i]? = ds[i]?∨(d = 2∧findC cs ad = some i∧∃ x,ds[i]? = some x∧(accM cs d ad z ds).1[i]? = some (wrF c (ad - c.base) z x)):=by
 have hl := h.1
 unfold accM
 cases hf:findC cs ad with
 | none => exact .inl rfl
 | some j =>
  obtain ⟨h1,h2⟩ := findC_at hf
  have h3:j < ds.length := by omega
  simp only [List.getElem?_eq_getElem h1,List.getElem?_eq_getElem h3]
  by_cases hij:i = j
  ·subst hij
   have hce:cs[i] = c := by rw [List.getElem?_eq_getElem h1] at hc; exact Option.some.inj hc
   rw [hce]
   by_cases hd1:d = 1
   ·rw [if_pos hd1]
    have := (rdF_ok _ _ (h.2 i h1 h3) _ h2).2.1 (by rw [hce]; rcases hm with h | h | h <;> rw [h] <;> decide)
    rw [hce] at this
    rw [this]
    exact .inl (by rw [List.set_getElem_self,List.getElem?_eq_getElem h3])
   ·rw [if_neg hd1]
    by_cases hd2:d = 2
    ·rw [if_pos hd2]
     exact .inr ⟨hd2,rfl,ds[i],List.getElem?_eq_getElem h3,by rw [List.getElem?_set_self h3]⟩
    ·rw [if_neg hd2]
     exact .inl (by rw [List.getElem?_eq_getElem h3])
  ·refine .inl ?_
   split
   ·rw [List.getElem?_set_ne (Ne.symm hij)]
   ·split
    ·rw [List.getElem?_set_ne (Ne.symm hij)]
    ·rfl
theorem step_mem (B:Brd) (ins:List Ev) (s:Mac) (h:MacSt B s) {i:Nat} {c:Chp} (hc:B.chips[i]? = some c) (hm:MemK c) :
  (stepM B ins s).ds[i]? = s.ds[i]?∨((stepM B ins s).bus.d = 2∧findC B.chips (stepM B ins s).bus.addr = some i∧∃ x z,s.ds[i]? = some x∧(stepM B ins s).ds[i]? = some (wrF c ((stepM B ins s).bus.addr - c.base) z x)):=by
 have h1:DvsOk B.chips (gvS B ins s).2 := givM_ok _ _ _ _ h.1
 have h2:DvsOk B.chips (accS B ins s).1 := accM_ok _ _ _ _ _ h1
 have e1:(stepM B ins s).ds[i]? = (accS B ins s).1[i]? := tick_mem h2.1 hc hm
 have e2:(gvS B ins s).2[i]? = s.ds[i]? := giv_mem _ _ hc hm _ _ h.1.1
 rw [e1]
 rcases acc_mem h1 (askS B ins s).2.d (askS B ins s).2.addr (askS B ins s).2.data hc hm with e3 | ⟨e3,e4,x,e5,e6⟩
 ·exact .inl (by rw [show (accS B ins s).1[i]? = _ from e3,e2])
 ·exact .inr ⟨e3,e4,x,_,by rw [← e2]; exact e5,e6⟩
theorem mem_ok {c:Chp} {d:Dv} (h:DvOk c d) (hk:c.kind ≤ 2):MemK c:=by
 unfold MemK
 rcases h with ⟨z,hk,hs,h1,m,hm,hb⟩ | ⟨nb,hk,hs,h1,hd,n,hn,m,hm,hb⟩ | ⟨hk,hs,x,y,e,f,h⟩ | ⟨hk,hs,x,y,z,h⟩ | ⟨hk,hs,s1,l,g,f,o,e,n,z,h⟩ | ⟨hk,hs,p,q,m,h⟩ | ⟨hk,hs,x,y,hx,hy⟩ | ⟨nd,hk,hs,e,m,h⟩ <;> omega
end Go.Proofs.YtonhglhdlgbcnaaGreat.Calc
namespace Go.Proofs.YtonhglhdlgbcnaaGreat.Calc
open Go Code
set_option linter.unusedSimpArgs false
set_option linter.unusedVariables false
set_option maxRecDepth 20000
set_option maxHeartbeats 8000000
attribute [local irreducible] WOpsT AW AK RK AKW UK UC
theorem h6fact_go (B:Brd) (s0:Mac) (hbd:FnE Tryz.prog 8 [.c (.slice none 0 0)] [] (.agg (boV B)) []) (hnew:FnE Tryz.prog 9 [.agg (boV B)] [] (.tup [.agg (maS s0),I 0]) []) (hck:FnE Tryz.prog 22 [.agg (boV B)] [] (I 0) []) (hl:s0.ds.length = B.chips.length) (h1:1 ≤ B.chips.length):FnE Tryz.prog 15 [] [] (.c (.bool true)) []:=by
 refine N.fnC Tryz.func15 k15 fun Q hQ hQN => ?_
 repeat' (first | rw [boV_zero] | rw [boV_t8] | rw [boV_ren] | rw [maS_zero] | rw [maS_ren] | rw [maS_t17] | rw [List.length_map] | rw [hl] | (show WC _ _ _ _ _ _ _ _ _; first | refine T.call0 e8 rfl hbd ?_ | refine T.call0 e9 rfl hnew ?_ | refine T.call0 e22 rfl hck ?_) | exact ⟨⟩ | intro (K:KT) hK | intro hcd | (refine go1 ?_ ?_ <;> try clear hK K) | fail)
 all_goals first | exact WS.c rfl rfl | (exfalso; omega)
theorem h6fact_ok:FnE Tryz.prog 15 [] [] (.c (.bool true)) [] :=
 h6fact_go (mkBrd []) (mac0 []) (FnE.arg0 (mkBrd_ok []) .nil) (mac0_new []) (mkcheck_ok []) (mac0_st []).1.1 (mkMac_ok []).n1
theorem h6run_go (l inn:List Int) (n:Nat) (B:Brd) (s0 s1:Mac) (ins o1:List Ev) (hf:FnE Tryz.prog 15 [] [] (.c (.bool true)) []) (hbd:FnE Tryz.prog 8 [.sl 1 (cells l)] [] (.agg (boV B)) []) (hin:FnE Tryz.prog 14 [.agg (boV B),.sl 1 (cells inn)] [] (.sl 3 (ins.map evV)) []) (hnew:FnE Tryz.prog 9 [.agg (boV B)] [] (.tup [.agg (maS s0),I 0]) [])
  (hr1:FnE Tryz.prog 10 [.agg (boV B),.agg (maS s0),.sl 3 (ins.map evV),I n] [] (.tup [.agg (maS s1),.sl 3 (o1.map evV),I 0]) []) (hl:s1.ds.length = B.chips.length):FnE Tryz.prog 6 [.sl 1 (cells l),.sl 1 (cells inn),I n] [] (.tup [.agg (boV B),.sl 3 (ins.map evV),.agg (maS s0),.agg (maS s1),.c (.bool true)]) []:=by
 refine N.fnC Tryz.func6 k6 fun Q hQ hQN => ?_
 repeat' (first | rw [boV_zero] | rw [boV_t8] | rw [boV_ren] | rw [maS_zero] | rw [maS_ren] | rw [maS_t17] | rw [List.length_map] | rw [hl] | (show WC _ _ _ _ _ _ _ _ _; first | refine T.call0 e8 rfl hbd ?_ | refine T.call0 e14 rfl hin ?_ | refine T.call0 e9 rfl hnew ?_ | refine T.call0 e10 rfl hr1 ?_ | refine T.call0 e15 rfl hf ?_) | exact ⟨⟩ | intro (K:KT) hK | intro hcd | (refine go1 ?_ ?_ <;> try clear hK K) | fail)
 exact WS.drop (n := 0) rfl rfl
theorem mcycleT (l:List Int) (s:Mac) (ins:List Ev) (h:MacSt (mkBrd l) s) (hin:ins.length ≤ 100000):FnE Tryz.prog 7 [.agg (boV (mkBrd l)),.agg (maS s),.sl 3 (ins.map evV)] [] (.tup [.agg (maS (stepM (mkBrd l) ins s)),.sl 3 ((stepO (mkBrd l) ins s).map evV)]) []:=by
 have := FnE.drop 1 (mcycle_ok (mkBrd l) (mkMac_ok l) s ins hin h)
 have e:out [⟨2,2,(stepM (mkBrd l) ins s).ds.map dvC⟩] [] 1 (.tup [.agg (maB (stepM (mkBrd l) ins s) 0 2),.sl 3 ((stepO (mkBrd l) ins s).map evV)]) = .tup [.agg (maS (stepM (mkBrd l) ins s)),.sl 3 ((stepO (mkBrd l) ins s).map evV)]:=by
  show V.tup [.agg (mrow _ _ _ _ _ (out _ [] 1 (.psl 0 2 0 _)) _ _ _),_] = _
  rw [out_rowsK (f := dvC) rfl rfl (Nat.le_refl _)]; rfl
 rw [e] at this
 exact this
def diffN (a b:List Int):Nat→Int
 | 0 => 0
 | j + 1 => if b.getD j 0 ≠ a.getD j 0 then diffN a b j + 1 else diffN a b j
theorem diff_eq (a:List Int):∀ j,diffN a a j = 0:=by
 intro j
 induction j with
 | zero => rfl
 | succ j ih => unfold diffN; rw [if_neg (by simp),ih]
theorem diff_set (a:List Int) (k:Nat) (v:Int):∀ j,0 ≤ diffN a (a.set k v) j∧diffN a (a.set k v) j ≤ if k < j then 1 else 0:=by
 intro j
 induction j with
 | zero => exact ⟨Int.le_refl _,Int.le_refl _⟩
 | succ j ih =>
  unfold diffN
  by_cases hk:j = k
  ·subst hk
   rw [if_neg (by omega)] at ih
   rw [if_pos (Nat.lt_succ_self _)]
   split <;> omega
  ·rw [if_neg (by rw [List.getD_eq_getElem?_getD,List.getElem?_set_ne (Ne.symm hk),← List.getD_eq_getElem?_getD]; simp)]
   refine ⟨ih.1,Int.le_trans ih.2 ?_⟩
   by_cases hkj:k < j
   ·rw [if_pos hkj,if_pos (by omega)]; exact Int.le_refl _
   ·rw [if_neg hkj]; split <;> decide
theorem diff_r (a b:List Int):∀ j:Nat,0 ≤ diffN a b j∧diffN a b j ≤ j:=by
 intro j
 induction j with
 | zero => exact ⟨Int.le_refl _,Int.le_refl _⟩
 | succ j ih => unfold diffN; split <;> omega
def MemC (c:Chp) (z:Mac) (d e:Dv):Prop := e.2.length = d.2.length∧d.2.length ≤ 100000∧(e.2 = d.2∨(z.bus.d = 2∧c.base ≤ z.bus.addr∧z.bus.addr < c.base + c.size∧c.kind ≠ 1∧∃ k v,e.2 = d.2.set k v))
theorem memory_go (l inn:List Int) (n0:Int) (n:Nat) (hn:n0 % 300 = n) (B:Brd) (s0 y z:Mac) (ins o1:List Ev) (hrun:FnE Tryz.prog 6 [.sl 1 (cells l),.sl 1 (cells inn),I n] [] (.tup [.agg (boV B),.sl 3 (ins.map evV),.agg (maS s0),.agg (maS y),.c (.bool true)]) [])
  (hcy:FnE Tryz.prog 7 [.agg (boV B),.agg (maS y),.sl 3 (ins.map evV)] [] (.tup [.agg (maS z),.sl 3 (o1.map evV)]) []) (h1:y.ds.length = B.chips.length) (h2:z.ds.length = B.chips.length) (h12:B.chips.length ≤ 12) (ht:z.t = n + 1) (hpl:∀ c ∈ B.chips,0 ≤ c.base∧c.base ≤ 65536∧1 ≤ c.size∧c.size ≤ 65536)
  (hc:∀ i (h:i < B.chips.length) (h3:i < y.ds.length) (h4:i < z.ds.length),B.chips[i].kind ≤ 2→MemC B.chips[i] z y.ds[i] z.ds[i]):FnE Tryz.prog 3 [.sl 1 (cells l),.sl 1 (cells inn),I n0] [] (.c (.bool true)) []:=by
 have b1 := below_ok n0 300 (by decide) (by decide)
 rw [hn] at b1
 refine N.fnC Tryz.func3 k3 fun Q hQ hQN => ?_
 repeat' (first | rw [boV_zero] | rw [boV_t8] | rw [boV_ren] | rw [maS_zero] | rw [maS_ren] | rw [maS_t17] | rw [List.length_map] | rw [h1] | rw [h2] | (show WC _ _ _ _ _ _ _ _ _; first | refine T.call0 e5 rfl b1 ?_ | refine T.call0 e6 rfl hrun ?_ | refine T.call0 e7 rfl hcy ?_) | exact ⟨⟩ | intro (K:KT) hK | intro hcd | (refine go1 ?_ ?_ <;> try clear hK K) | fail)
 all_goals first | (exfalso; omega) | skip
 refine N.loop (σ := Nat) (fun i => [(2,I n),(10,.ptr 2 1 0 0),(12,.ptr 3 1 0 0),(51,.sl 5 (B.chips.map chV)),(52,I B.chips.length),(53,I i)]) (fun i => [⟨1,8,[boV B]⟩,⟨1,17,[maS s0]⟩,⟨1,17,[maS y]⟩,⟨1,17,[maS z]⟩]) (fun i => i ≤ B.chips.length) (fun i => B.chips.length - i) 0 (Nat.zero_le _) (Weaks.sel (by exact sB) rfl) fun i hi R hC => ?_
 by_cases hil:i < B.chips.length
 ·have hm := mget chV B.chips i hil
  have hi1:i < y.ds.length := by omega
  have hi2:i < z.ds.length := by omega
  have hd := dev_get hi1 rfl
  have he := dev_get hi2 rfl
  have hci := hc i hil hi1 hi2
  have hpi := hpl _ (List.getElem_mem hil)
  have nx := fun fr h => hC fr h (i + 1) (by omega) (by omega)
  clear hC hc
  generalize B.chips[i] = c at *
  generalize y.ds[i] = d at *
  generalize z.ds[i] = e at *
  obtain ⟨cn,ck,cb,cs,cd⟩ := c
  obtain ⟨d1,d2⟩ := d
  obtain ⟨e1,e2⟩ := e
  dsimp only [chV,dvC,MemC] at hm hd he hci hpi
  by_cases hk:ck ≤ 2
  ·obtain ⟨hle,hls,hor⟩ := hci hk
   repeat' (first | refine rI hm ?_ | refine rI hd ?_ | refine rI he ?_ | rw [bcells_len] | exact ⟨⟩ | intro (K:KT) hK | intro hcd | (refine go1 ?_ ?_ <;> try clear hK K) | fail)
   all_goals first | (exfalso; omega) | skip
   refine N.loop (σ := Nat) (fun k => [(2,I n),(10,.ptr 2 1 0 0),(12,.ptr 3 1 0 0),(14,I i),(15,.ptr 4 1 0 0),(16,I (diffN d2 e2 k)),(51,.sl 5 (B.chips.map chV)),(52,I B.chips.length),(53,I i),(86,.sl 1 (bcells e2)),(87,I e2.length),(88,I k)]) (fun k => [⟨1,8,[boV B]⟩,⟨1,17,[maS s0]⟩,⟨1,17,[maS y]⟩,⟨1,17,[maS z]⟩,⟨1,5,[[.c (.string cn),I ck,I cb,I cs,.sl 1 (bcells cd)]]⟩]) (fun k => k ≤ e2.length) (fun k => e2.length - k) 0 (Nat.zero_le _) (Weaks.sel (by exact sB) rfl) fun k hkl R2 hC2 => ?_
   by_cases hkl:k < e2.length
   ·have hz:(bcells e2)[(k:Int).toNat]? = some [.c (.int .u8 (e2.getD k 0))] := by rw [Int.toNat_natCast]; exact bget hkl
    have hy:(bcells d2)[(k:Int).toNat]? = some [.c (.int .u8 (d2.getD k 0))] := by rw [Int.toNat_natCast]; exact bget (by omega)
    have nx2 := fun fr h => hC2 fr h (k + 1) (by omega) (by omega)
    have hDr := diff_r d2 e2 k
    unfold diffN at nx2
    clear hC2
    generalize diffN d2 e2 k = D at *
    generalize e2.getD k 0 = u at *
    generalize d2.getD k 0 = w at *
    by_cases hne:u ≠ w
    ·rw [if_pos hne] at nx2
     repeat' (first | refine rI hz ?_ | refine rI hy ?_ | refine rI hd ?_ | exact ⟨⟩ | intro (K:KT) hK | intro hcd | (refine go1 ?_ ?_ <;> try clear hK K) | fail)
     exact nx2 _ _ (by exact .G [0,1,2,3,4] 1)
    ·rw [if_neg hne] at nx2
     repeat' (first | refine rI hz ?_ | refine rI hy ?_ | refine rI hd ?_ | exact ⟨⟩ | intro (K:KT) hK | intro hcd | (refine go1 ?_ ?_ <;> try clear hK K) | fail)
     exact nx2 _ _ (by exact .G [0,1,2,3,4] 1)
   ·obtain rfl:k = e2.length := by omega
    rcases hor with hor | ⟨hm1,hm2,hm3,hm4,v1,v2,hor⟩
    ·rw [hor,diff_eq]
     repeat' (first | exact ⟨⟩ | intro (K:KT) hK | intro hcd | (refine go1 ?_ ?_ <;> try clear hK K) | fail)
     all_goals first | exact nx _ _ (by exact .G [0,1,2,3] 1) | (exfalso; omega)
    ·have hD := diff_set d2 v1 v2 e2.length
     rw [← hor] at hD
     have hD2:diffN d2 e2 e2.length ≤ 1 := by have := hD.2; split at this <;> omega
     have hD1 := hD.1
     generalize diffN d2 e2 e2.length = D at *
     repeat' (first | exact ⟨⟩ | intro (K:KT) hK | intro hcd | (refine go1 ?_ ?_ <;> try clear hK K) | fail)
     all_goals first | exact nx _ _ (by exact .G [0,1,2,3] 1) | (exfalso; omega)
  ·skip
   repeat' (first | refine rI hm ?_ | refine rI hd ?_ | refine rI he ?_ | rw [bcells_len] | exact ⟨⟩ | intro (K:KT) hK | intro hcd | (refine go1 ?_ ?_ <;> try clear hK K) | fail)
   exact nx _ _ (by exact .G [0,1,2,3] 1)
 ·obtain rfl:i = B.chips.length := by omega
  repeat' (first | exact ⟨⟩ | intro (K:KT) hK | intro hcd | (refine go1 ?_ ?_ <;> try clear hK K) | fail)
  rw [decide_eq_true ht]
  exact WS.c rfl rfl
theorem memory_ex (B:Brd) (ins:List Ev) (s:Mac) (h:MacSt B s) (i:Nat) (h1:i < B.chips.length) (h2:i < s.ds.length) (h3:i < (stepM B ins s).ds.length) (hk:B.chips[i].kind ≤ 2):MemC B.chips[i] (stepM B ins s) s.ds[i] (stepM B ins s).ds[i]:=by
 have hd := h.1.2 i h1 h2
 have hsm := hd.small.2
 have hm := mem_ok hd hk
 have e1 := List.getElem?_eq_getElem h1
 have e2 := List.getElem?_eq_getElem h2
 have e3 := List.getElem?_eq_getElem h3
 rcases step_mem B ins s h e1 hm with e | ⟨e4,e5,x,z,e6,e7⟩
 ·rw [e2,e3] at e
  rw [Option.some.inj e]
  exact ⟨rfl,hsm,.inl rfl⟩
 ·obtain ⟨h4,h5⟩ := findC_at e5
  rw [e2] at e6
  rw [e3] at e7
  have hx := Option.some.inj e6
  have hz := Option.some.inj e7
  subst hx
  rw [hz]
  obtain ⟨-,-,w0,w1,w2⟩ := wrF_ok _ _ hd _ z h5
  generalize wrF B.chips[i] ((stepM B ins s).bus.addr - B.chips[i].base) z s.ds[i] = e at *
  have set:B.chips[i].kind ≠ 1→(∃ k v,e.2 = s.ds[i].2.set k v)→MemC B.chips[i] (stepM B ins s) s.ds[i] e := fun hk1 ⟨k,v,he⟩ => ⟨by rw [he,List.length_set],hsm,.inr ⟨e4,by omega,by omega,hk1,k,v,he⟩⟩
  rcases hm with hm | hm | hm
  ·exact set (by omega) ⟨_,_,by rw [w0 hm]⟩
  ·rw [w1 hm]; exact ⟨rfl,hsm,.inl rfl⟩
  ·rcases w2 hm with he | ⟨k,he⟩
   ·exact ⟨by rw [he],hsm,.inl he⟩
   ·exact set (by omega) ⟨_,_,he⟩
theorem mmemory_ok (l inn:List Int) (n0:Int):FnE Tryz.prog 3 [.sl 1 (cells l),.sl 1 (cells inn),I n0] [] (.c (.bool true)) []:=by
 obtain ⟨n,hn⟩:∃ n:Nat,n0 % 300 = n := ⟨(n0 % 300).toNat,by omega⟩
 have hB := mkMac_ok l
 have h0 := mac0_st l
 have hio := inpM_ok (mkBrd l) inn
 have h1 := runS_st (mkBrd l) (inpM (mkBrd l) inn) (mac0 l) h0 n
 have h2 := stepM_st (mkBrd l) (inpM (mkBrd l) inn) _ h1
 have hrun := h6run_go l inn n (mkBrd l) (mac0 l) _ _ _ h6fact_ok (mkBrd_ok l) (inputs_ok _ hB inn) (mac0_new l) (run_ok l _ _ n (by omega) h0 hio) h1.1.1
 refine memory_go l inn n0 n hn (mkBrd l) (mac0 l) _ _ _ _ hrun (mcycleT l _ _ h1 (by have := hio.len; omega)) h1.1.1 h2.1.1 hB.n12 ?_ hB.place fun i h h3 h4 hk => memory_ex _ _ _ h1 i h h3 h4 hk
 have e1:(mac0 l).t = 0 := rfl
 have e2 := runS_t (mkBrd l) (inpM (mkBrd l) inn) (mac0 l) (by rw [e1]; decide) (n + 1) (by rw [e1]; omega)
 rw [e1] at e2
 show (runS (mkBrd l) (inpM (mkBrd l) inn) (mac0 l) (n + 1)).t = _
 rw [e2]; omega
end Go.Proofs.YtonhglhdlgbcnaaGreat.Calc
