/- What the law MachJams needs beside the texts of MachMemory (CalcP, CalcQ, CdSlices, PureSkip, CdKChip, FnLawChip, CdMach, FnAlu, FnMachB, CdKMore, FnPokes, PureGlide, FnLawJams). No condition beyond those in each lemma. -/
import Derived.Test.YtonhglhdlgbcnaaGreatPLawMachMemoryA
import Derived.Test.YtonhglhdlgbcnaaGreatPLawMachMemoryB
import Derived.Test.YtonhglhdlgbcnaaGreatPLawMachMemoryC
import Derived.Test.YtonhglhdlgbcnaaGreatPLawMachMemoryD
import Derived.Test.YtonhglhdlgbcnaaGreatPLawMachMemoryE
import Derived.Test.YtonhglhdlgbcnaaGreatPLawMachMemoryF
import Derived.Test.YtonhglhdlgbcnaaGreatPLawMachMemoryG
import Derived.Test.YtonhglhdlgbcnaaGreatPLawMachMemoryH
import Derived.Test.YtonhglhdlgbcnaaGreatPLawMachMemoryI
import Derived.Test.YtonhglhdlgbcnaaGreatPLawMachMemoryJ
import Derived.Test.YtonhglhdlgbcnaaGreatPLawMachMemoryK
import Derived.Test.YtonhglhdlgbcnaaGreatPLawMachMemoryL
import Derived.Test.YtonhglhdlgbcnaaGreatPLawMachMemoryM
import Derived.Test.YtonhglhdlgbcnaaGreatPLawMachMemoryN
import Derived.Test.YtonhglhdlgbcnaaGreatPLawMachMemoryO
import Derived.Test.YtonhglhdlgbcnaaGreatPLawMachMemoryP
import Derived.Test.YtonhglhdlgbcnaaGreatPLawMachMemoryQ
import Derived.Test.YtonhglhdlgbcnaaGreatPLawMachMemoryR
import Derived.Test.YtonhglhdlgbcnaaGreatProg
import Derived.KernelRfl
namespace Go.Proofs.YtonhglhdlgbcnaaGreat.Calc
open Go
set_option linter.unusedSimpArgs false
section
variable {P:Program} {rest:List AOper} {tr:Tr} {fr:Fr} {h:List Blk} {K:KT} {d:Option Nat}
theorem cells_get (xs:List Int) (i:Nat):(cells xs)[i]? = (xs[i]?).map fun x => [I x] := by simp [cells]
end
section
variable {P:Program} {rest:List AOper} {tr:Tr} {fr:Fr} {h:List Blk} {K:KT} {d:Option Nat} {k:Nat} {st:List KF} {Q:Exit→Fr→List Blk→Prop}
theorem iget {m:List Int} {i:Nat} (hi:i < m.length):(cells m)[i]? = some [.c (.int .i64 (m.getD i 0))]:=by
 rw [cells_get,List.getElem?_eq_getElem hi,List.getD_eq_getElem?_getD,List.getElem?_eq_getElem hi]; rfl
end
end Go.Proofs.YtonhglhdlgbcnaaGreat.Calc
namespace Go.Proofs.YtonhglhdlgbcnaaGreat.Code
open Go Go.Proofs.YtonhglhdlgbcnaaGreat.Calc
set_option maxRecDepth 100000
def c27x1:AC := .reg [aB' 25 .add (.t 13) (i' 1),m' 13 25] [0,1,12,13]
def c27x4:AC := .seq (.dreg [m' 16 0,m' 17 5,aX' 18 1 16 17,aL' 19 18,m' 20 1,m' 21 5,aX' 22 1 20 21,aL' 23 22,aB' 24 .neq (.t 19) (.t 23)] (bf [[],[],[0,2],[0,3],[],[],[4,6],[4,7],[0,8]]) [0,1,12,13,24]) (.cond (.t 24) (.seq (.reg [o' 4 (.mv kF')] [4]) .ret) .skip)
def c27x10:AC := .seq (.reg [aB' 14 .lss (.t 13) (.t 12)] [0,1,12,13,14]) (.seq (.cond (.t 14) .skip (.exit 0)) (.seq (.block 1 (.seq (.reg [m' 15 13,m' 5 15] [0,1,5,12,13]) c27x4)) c27x1))
def c27x13:AC := .seq (.reg [m' 11 0,aT' 12 11,aV' 13 0] [0,1,12,13]) (.block 0 (.loop c27x10))
def c27x17:AC := .seq (.reg [m' 6 0,aT' 7 6,m' 8 1,aT' 9 8,aB' 10 .neq (.t 7) (.t 9)] [0,1,10]) (.cond (.t 10) (.seq (.reg [o' 4 (.mv kF')] [4]) .ret) .skip)
def c27:AC := .seq (.reg [o' 4 (.mv kF')] [0,1]) (.seq c27x17 (.seq c27x13 (.seq (.reg [o' 4 (.mv kT')] [4]) .ret)))
theorem k27:KQ Tryz.prog Tryz.f27 c27 [.t 4] := ⟨by kernel_rfl,by kernel_rfl⟩
theorem e27:enters Tryz.prog 27 = true := by kernel_rfl
def c28x1:AC := .reg [aB' 25 .add (.t 13) (i' 1),m' 13 25] [0,1,12,13]
def c28x4:AC := .seq (.dreg [m' 16 0,m' 17 5,aX' 18 1 16 17,aL' 19 18,m' 20 1,m' 21 5,aX' 22 1 20 21,aL' 23 22,aB' 24 .neq (.t 19) (.t 23)] (bf [[],[],[0,2],[0,3],[],[],[4,6],[4,7],[0,8]]) [0,1,12,13,24]) (.cond (.t 24) (.seq (.reg [o' 4 (.mv kF')] [4]) .ret) .skip)
def c28x10:AC := .seq (.reg [aB' 14 .lss (.t 13) (.t 12)] [0,1,12,13,14]) (.seq (.cond (.t 14) .skip (.exit 0)) (.seq (.block 1 (.seq (.reg [m' 15 13,m' 5 15] [0,1,5,12,13]) c28x4)) c28x1))
def c28x13:AC := .seq (.reg [m' 11 0,aT' 12 11,aV' 13 0] [0,1,12,13]) (.block 0 (.loop c28x10))
def c28x17:AC := .seq (.reg [m' 6 0,aT' 7 6,m' 8 1,aT' 9 8,aB' 10 .neq (.t 7) (.t 9)] [0,1,10]) (.cond (.t 10) (.seq (.reg [o' 4 (.mv kF')] [4]) .ret) .skip)
def c28:AC := .seq (.reg [o' 4 (.mv kF')] [0,1]) (.seq c28x17 (.seq c28x13 (.seq (.reg [o' 4 (.mv kT')] [4]) .ret)))
theorem k28:KQ Tryz.prog Tryz.f28 c28 [.t 4] := ⟨by kernel_rfl,by kernel_rfl⟩
theorem e28:enters Tryz.prog 28 = true := by kernel_rfl
def c71x1:AC := .reg [aB' 31 .add (.t 17) (i' 1),m' 17 31] [1,2,15,16,17]
def c71x4:AC := .seq (.reg [m' 26 2,aM' 27 2 8,aM' 28 2 9,o' 29 (.callc (.t 26) [.t 27,.t 28]),o' 30 (.not (.t 29))] [1,2,15,16,17,30]) (.cond (.t 30) (.seq (.reg [o' 6 (.mv kF')] [6]) .ret) .skip)
def c71x5:AC := .seq (.reg [m' 22 1,m' 23 7,aX' 24 2 22 23,aM' 25 2 24,o' 9 (.zero [(.slice none 0 0),(.slice none 0 0)]),aS' 2 9 25] [1,2,8,9,15,16,17]) c71x4
def c71x6:AC := .seq (.reg [m' 19 17,aX' 20 2 15 17,aM' 21 2 20,o' 8 (.zero [(.slice none 0 0),(.slice none 0 0)]),m' 7 19,aS' 2 8 21] [1,2,7,8,15,16,17]) c71x5
def c71x11:AC := .seq (.reg [aB' 18 .lss (.t 17) (.t 16)] [1,2,15,16,17,18]) (.seq (.cond (.t 18) .skip (.exit 0)) (.seq (.block 1 c71x6) c71x1))
def c71x14:AC := .seq (.reg [m' 15 0,aT' 16 15,aV' 17 0] [1,2,15,16,17]) (.block 0 (.loop c71x11))
def c71x18:AC := .seq (.reg [m' 10 0,aT' 11 10,m' 12 1,aT' 13 12,aB' 14 .neq (.t 11) (.t 13)] [0,1,2,14]) (.cond (.t 14) (.seq (.reg [o' 6 (.mv kF')] [6]) .ret) .skip)
def c71:AC := .seq (.reg [o' 6 (.mv kF')] [0,1,2]) (.seq c71x18 (.seq c71x14 (.seq (.reg [o' 6 (.mv kT')] [6]) .ret)))
theorem k71:KQ Tryz.prog Tryz.f71 c71 [.t 6] := ⟨by kernel_rfl,by kernel_rfl⟩
theorem e71:enters Tryz.prog 71 = true := by kernel_rfl
end Go.Proofs.YtonhglhdlgbcnaaGreat.Code
namespace Go.Proofs.YtonhglhdlgbcnaaGreat.Calc
open Go
set_option linter.unusedVariables false
set_option linter.unusedSimpArgs false
theorem emod_shift (x t m:Int) (hm:0 < m) (hx:0 ≤ x) (ht:0 ≤ t):(x + t) % m = if x % m + t < m then x % m + t else (x % m + t - m) % m:=by
 have h0 := Int.emod_nonneg x (show m ≠ 0 by omega)
 have h1:(x + t) % m = (x % m + t) % m := by rw [Int.emod_add_emod]
 rw [h1]
 split
 ·exact Int.emod_eq_of_lt (by omega) (by omega)
 ·rw [Int.sub_emod_right]
theorem skip4_add (x y a f:Int) (h:TimOk x y a f) (s t:Nat):∀ x' y' a' f',skip4 x y a f s = [x',y',a',f']→skip4 x y a f ((s:Int) + t) = skip4 x' y' a' f' t:=by
 intro x' y' a' f' he
 have hm := emod_shift ((s:Int) - x - 1) t (y + 1) (by omega)
 have hr1 := Int.emod_nonneg ((s:Int) - x - 1) (show y + 1 ≠ 0 by omega)
 have hr2 := Int.emod_lt_of_pos ((s:Int) - x - 1) (show 0 < y + 1 by omega)
 unfold skip4 at he ⊢
 by_cases hs:(s:Int) ≤ 0
 ·rw [if_pos hs] at he
  simp only [List.cons.injEq,and_true] at he
  obtain ⟨rfl,rfl,rfl,rfl⟩ := he
  have:(s:Int) = 0 := by omega
  rw [this,Int.zero_add]
 ·rw [if_neg hs] at he
  by_cases hc:a % 2 = 0
  ·rw [if_pos hc] at he
   simp only [List.cons.injEq,and_true] at he
   obtain ⟨rfl,rfl,rfl,rfl⟩ := he
   rw [if_neg (by omega),if_pos hc]
   split <;> first | rfl | rw [if_pos hc]
  ·rw [if_neg hc] at he
   by_cases hx:(s:Int) ≤ x
   ·rw [if_pos hx] at he
    simp only [List.cons.injEq,and_true] at he
    obtain ⟨rfl,rfl,rfl,rfl⟩ := he
    rw [if_neg (by omega),if_neg hc]
    by_cases ht:(t:Int) ≤ 0
    ·rw [if_pos ht,if_pos (by omega),show (t:Int) = 0 by omega,Int.add_zero]
    ·rw [if_neg ht,if_neg hc]
     by_cases hst:(s:Int) + t ≤ x
     ·rw [if_pos hst,if_pos (show (t:Int) ≤ x - s by omega),Int.sub_sub]
     ·rw [if_neg hst,if_neg (show ¬ (t:Int) ≤ x - s by omega),show (s:Int) + t - x - 1 = t - (x - s) - 1 by omega]
   ·rw [if_neg hx] at he
    rw [if_neg (by omega),if_neg hc,if_neg (by omega)]
    by_cases hp:a / 2 % 2 = 1
    ·rw [if_pos hp] at he ⊢
     simp only [List.cons.injEq,and_true] at he
     obtain ⟨rfl,rfl,rfl,rfl⟩ := he
     have hm := hm (by omega) (by omega)
     rw [show (s:Int) + t - x - 1 = s - x - 1 + t by omega,hm]
     generalize (((s:Int) - x - 1) % (y + 1)) = r at *
     by_cases ht:(t:Int) ≤ 0
     ·rw [if_pos ht,if_pos (by omega),show (t:Int) = 0 by omega,Int.add_zero]
     ·rw [if_neg ht,if_neg hc]
      by_cases hq:r + (t:Int) < y + 1
      ·rw [if_pos hq,if_pos (show (t:Int) ≤ y - r by omega),show y - (r + (t:Int)) = y - r - t by omega]
      ·rw [if_neg hq,if_neg (show ¬ (t:Int) ≤ y - r by omega),if_pos hp,show (t:Int) - (y - r) - 1 = r + t - (y + 1) by omega]
    ·rw [if_neg hp] at he ⊢
     simp only [List.cons.injEq,and_true] at he
     obtain ⟨rfl,rfl,rfl,rfl⟩ := he
     have e2:(a - a % 2) % 2 = 0 := by omega
     split <;> first | rfl | rw [if_pos e2]
theorem serSkip_add (s l g f o a n z:Int) (h:SerOk s l g f o a n z) (t u:Nat):∀ l' n' z',serSkip s l g f o a n z t = [s,l',g,f,o,a,n',z']→serSkip s l g f o a n z ((t:Int) + u) = serSkip s l' g f o a n' z' u:=by
 intro l' n' z' he
 unfold serSkip at he ⊢
 by_cases h1:(t:Int) ≤ 0∨l = 0
 ·rw [if_pos h1] at he
  simp only [List.cons.injEq,and_true,true_and] at he
  obtain ⟨rfl,rfl,rfl⟩ := he
  by_cases hl:l = 0
  ·rw [if_pos (.inr hl),if_pos (.inr hl)]
  ·rw [show (t:Int) = 0 by omega,Int.zero_add]
 ·rw [if_neg h1] at he
  rw [if_neg (by omega)]
  by_cases h2:(t:Int) < l
  ·rw [if_pos h2] at he
   simp only [List.cons.injEq,and_true,true_and] at he
   obtain ⟨rfl,rfl,rfl⟩ := he
   by_cases hu:(u:Int) ≤ 0
   ·rw [if_pos (by omega),if_pos (.inl hu),show (u:Int) = 0 by omega,Int.add_zero]
   ·by_cases h3:(t:Int) + u < l
    ·rw [if_pos h3,if_neg (by omega),if_pos (by omega),Int.sub_sub]
    ·rw [if_neg h3,if_neg (by omega),if_neg (by omega)]
  ·rw [if_neg h2] at he
   simp only [List.cons.injEq,and_true,true_and] at he
   obtain ⟨rfl,rfl,rfl⟩ := he
   rw [if_neg (by omega),if_pos (.inr rfl)]
theorem vpos_add (p:Int) (s t:Nat):vpos (vpos p s) t = vpos p (s + t) := by unfold vpos; omega
theorem vhitN_add (m:List Int) (p h:Int) (s:Nat):∀ t:Nat,vhitN m (vpos p s) (vhitN m p h s) t = vhitN m p h (s + t):=by
 intro t
 induction t with
 | zero => rfl
 | succ t ih =>
  show (if vhit m (vpos (vpos p s) (t + 1)) then 1 else vhitN m (vpos p s) (vhitN m p h s) t) = (if vhit m (vpos p (s + t + 1)) then 1 else vhitN m p h (s + t))
  rw [ih,vpos_add,Nat.add_assoc]
theorem Dr.skip_one (k:Nat) (a:Dr) (m:List Int) (hl:0 ≤ a.l):Dr.skip (k + 1) ((k + 1:Nat):Int) a m = Dr.skip k k (Dr.skip 1 1 a m).1 (Dr.skip 1 1 a m).2:=by
 have h0:∀ (j:Int) (b:Dr) (q:List Int),b.c ≤ 0→∀ f,Dr.skip f j b q = (b,q) := fun j b q hb f => by
  cases f with
  | zero => rfl
  | succ f => simp only [Dr.skip]; rw [if_pos (.inr hb)]
 have hz:∀ (b:Dr) (q:List Int) (f:Nat) (j:Int),j ≤ 0→Dr.skip f j b q = (b,q) := fun b q f j hj => by
  cases f with
  | zero => rfl
  | succ f => simp only [Dr.skip]; rw [if_pos (.inl hj)]
 by_cases hc:a.c ≤ 0
 ·rw [h0 _ _ _ hc,h0 1 a m hc]; exact (h0 _ _ _ hc _).symm
 ·by_cases h3:3 ≤ a.c∧a.k = 0
  ·have e1:∀ (f:Nat) (j:Int),0 < j→Dr.skip (f + 1) j a m = ({ a with c := 0 },m) := fun f j hj => by
    simp only [Dr.skip]; rw [if_neg (by omega),if_pos h3]
   rw [e1 k _ (by omega),e1 0 1 (by omega)]
   exact (h0 _ _ _ (Int.le_refl 0) _).symm
  ·have e1:Dr.skip 1 1 a m = if 1 < a.l then ({ a with l := a.l - 1 },m) else (Dr.done { a with l := 0 } m,Dr.doneM { a with l := 0 } m):=by
    simp only [Dr.skip]
    rw [if_neg (by omega),if_neg h3]
   have e2:Dr.skip (k + 1) ((k + 1:Nat):Int) a m = if ((k + 1:Nat):Int) < a.l then ({ a with l := a.l - ((k + 1:Nat):Int) },m) else Dr.skip k (((k + 1:Nat):Int) - max 1 a.l) (Dr.done { a with l := 0 } m) (Dr.doneM { a with l := 0 } m):=by
    simp only [Dr.skip]
    rw [if_neg (by omega),if_neg h3]
   rw [e1,e2]
   by_cases h1:1 < a.l
   ·rw [if_pos h1]
    dsimp only
    cases k with
    | zero =>
     rw [if_pos (by omega)]
     rfl
    | succ k =>
     have e3:Dr.skip (k + 1) ((k + 1:Nat):Int) { a with l := a.l - 1 } m = if ((k + 1:Nat):Int) < a.l - 1 then ({ a with l := a.l - 1 - ((k + 1:Nat):Int) },m) else Dr.skip k (((k + 1:Nat):Int) - max 1 (a.l - 1)) (Dr.done { a with l := 0 } m) (Dr.doneM { a with l := 0 } m):=by
      simp only [Dr.skip]
      rw [if_neg (by omega),if_neg (by omega)]
     rw [e3]
     by_cases h2:((k + 1 + 1:Nat):Int) < a.l
     ·rw [if_pos h2,if_pos (by omega)]
      rw [show a.l - 1 - ((k + 1:Nat):Int) = a.l - ((k + 1 + 1:Nat):Int) by omega]
     ·rw [if_neg h2,if_neg (by omega)]
      rw [show (((k + 1 + 1:Nat):Int) - max 1 a.l) = (((k + 1:Nat):Int) - max 1 (a.l - 1)) by omega]
      exact Dr.skip_fuel _ _ _ _ _ (by omega) (by omega)
   ·rw [if_neg h1,if_neg (by omega)]
    dsimp only
    rw [show (((k + 1:Nat):Int) - max 1 a.l) = (k:Int) by omega]
theorem Dr.skip_add (nd:Nat) (t:Nat):∀ (s:Nat) (a:Dr) (m:List Int),a.Ok m nd→Dr.skip (s + t) ((s + t:Nat):Int) a m = Dr.skip t t (Dr.skip s s a m).1 (Dr.skip s s a m).2:=by
 intro s
 induction s with
 | zero => intro a m H; rw [Nat.zero_add]; rfl
 | succ s ih =>
  intro a m H
  rw [show s + 1 + t = (s + t) + 1 by omega,Dr.skip_one _ _ _ H.l.1,ih _ _ (Dr.skip_ok _ _ _ _ _ H),Dr.skip_one s _ _ H.l.1]
theorem skipV_add (c:Chp) (d:Dv) (hd:DvOk c d) (s t:Nat):skipV c t (skipV c s d) = skipV c (s + t) d:=by
 obtain ⟨nm,k,b,z0,dat⟩ := c
 rcases hd with ⟨z,hk,hs,h1,m,hm,hb⟩ | ⟨nb,hk,hs,h1,hd,n,hn,m,hm,hb⟩ | ⟨hk,hs,x,y,e,f,h⟩ | ⟨hk,hs,x,y,z,h⟩ | ⟨hk,hs,s1,l,g,f,o,e,n,z,h⟩ | ⟨hk,hs,p,q,m,h⟩ | ⟨hk,hs,x,y,hx,hy⟩ | ⟨nd,hk,hs,e,m,h⟩
 all_goals dsimp only at hk hs; subst hs
 ·rcases hk with rfl | rfl <;> rfl
 ·subst hk; rfl
 ·subst hk
  obtain ⟨x',y',e',f',he,h2⟩ := skip4_ok x y e f h s
  have := skip4_add x y e f h s t x' y' e' f' he
  show skipV _ t (skip4 x y e f s,[]) = (skip4 x y e f ((s + t:Nat):Int),[])
  rw [he,Int.natCast_add,this]; rfl
 ·subst hk; rfl
 ·subst hk
  obtain ⟨l',n',z',he,h2⟩ := serSkip_ok s1 l g f o e n z h s
  have := serSkip_add s1 l g f o e n z h s t l' n' z' he
  show skipV _ t (serSkip s1 l g f o e n z s,[]) = (serSkip s1 l g f o e n z ((s + t:Nat):Int),[])
  rw [he,Int.natCast_add,this]; rfl
 ·subst hk
  show ([vpos (vpos p s) t,vhitN m (vpos p s) (vhitN m p q s) t],m) = ([vpos p (s + t),vhitN m p q (s + t)],m)
  rw [vpos_add,vhitN_add]
 ·subst hk
  show (vo2 (Vo.ticks t (Vo.ticks s x)) (Vo.ticks t (Vo.ticks s y)),([]:List Int)) = (vo2 (Vo.ticks (s + t) x) (Vo.ticks (s + t) y),[])
  rw [Vo.ticks_add,Vo.ticks_add]
 ·subst hk
  have := Dr.skip_add nd t s e m h
  show (dr10 (Dr.skip t t (Dr.skip s s e m).1 (Dr.skip s s e m).2).1,(Dr.skip t t (Dr.skip s s e m).1 (Dr.skip s s e m).2).2) = (dr10 (Dr.skip (s + t) ((s + t:Nat):Int) e m).1,(Dr.skip (s + t) ((s + t:Nat):Int) e m).2)
  rw [this]
end Go.Proofs.YtonhglhdlgbcnaaGreat.Calc
namespace Go.Proofs.YtonhglhdlgbcnaaGreat.Code
open Go Go.Proofs.YtonhglhdlgbcnaaGreat.Calc
set_option maxRecDepth 100000
def c12x0:AC := .seq (.reg [aF' 5 0 2,aL' 6 5,aF' 7 0 3,aL' 8 7,aC' 9 27 [.t 6,.t 8],m' 10 9,gT' 11 10 (.fad 1 (.t 2)),gT' 12 10 (.ld none (.t 11)),gT' 13 10 (.fad 1 (.t 3)),gT' 14 10 (.ld none (.t 13)),gT' 15 10 (.call 28 [.t 12,.t 14]),o' 16 (.pick (.t 10) (.t 15) kF'),m' 4 16] [4]) .ret
def c12:AC := .seq (.reg [o' 2 (.new 2 (.t 0)),o' 3 (.new 2 (.t 1)),o' 4 (.mv kF')] [2,3]) c12x0
theorem k12:KQ Tryz.prog Tryz.f12 c12 [.t 4] := ⟨by kernel_rfl,by kernel_rfl⟩
theorem e12:enters Tryz.prog 12 = true := by kernel_rfl
end Go.Proofs.YtonhglhdlgbcnaaGreat.Code
namespace Go.Proofs.YtonhglhdlgbcnaaGreat.Calc
open Go Code
set_option linter.unusedSimpArgs false
set_option linter.unusedVariables false
set_option maxRecDepth 20000
set_option maxHeartbeats 4000000
attribute [local irreducible] WOpsT AW AK RK AKW UK UC
theorem eqI_ok (a:List Int) (ha:a.length ≤ 100000):FnE Tryz.prog 27 [.sl 1 (cells a),.sl 1 (cells a)] [] (.c (.bool true)) []:=by
 refine N.fnC Tryz.func27 k27 fun Q hQ hQN => ?_
 repeat' (first | rw [cells_len] | exact ⟨⟩ | intro (K:KT) hK | intro hcd | (refine go1 ?_ ?_ <;> try clear hK K) | fail)
 all_goals first | (exfalso; omega) | skip
 refine N.loop (σ := Nat) (fun i => [(0,.sl 1 (cells a)),(1,.sl 1 (cells a)),(12,I a.length),(13,I i)]) (fun i => []) (fun i => i ≤ a.length) (fun i => a.length - i) 0 (Nat.zero_le _) (by exact .G [] 1) fun i hi C hC => ?_
 by_cases hil:i < a.length
 ·have hg:(cells a)[((i:Nat):Int).toNat]? = some [.c (.int .i64 (a.getD i 0))] := by rw [Int.toNat_natCast]; exact iget hil
  repeat' (first | refine rI hg ?_ | exact ⟨⟩ | intro (K:KT) hK | intro hcd | (refine go1 ?_ ?_ <;> try clear hK K) | fail)
  all_goals first | exact hC _ _ (i + 1) (by omega) (by omega) (by exact .G [] 1) | (exfalso; simp at *; done) | (exfalso; omega)
 ·obtain rfl:i = a.length := by omega
  repeat' (first | exact ⟨⟩ | intro (K:KT) hK | intro hcd | (refine go1 ?_ ?_ <;> try clear hK K) | fail)
  exact WS.c rfl rfl
theorem eqB_ok (a:List Int) (ha:a.length ≤ 100000):FnE Tryz.prog 28 [.sl 1 (bcells a),.sl 1 (bcells a)] [] (.c (.bool true)) []:=by
 refine N.fnC Tryz.func28 k28 fun Q hQ hQN => ?_
 repeat' (first | rw [bcells_len] | exact ⟨⟩ | intro (K:KT) hK | intro hcd | (refine go1 ?_ ?_ <;> try clear hK K) | fail)
 all_goals first | (exfalso; omega) | skip
 refine N.loop (σ := Nat) (fun i => [(0,.sl 1 (bcells a)),(1,.sl 1 (bcells a)),(12,I a.length),(13,I i)]) (fun i => []) (fun i => i ≤ a.length) (fun i => a.length - i) 0 (Nat.zero_le _) (by exact .G [] 1) fun i hi C hC => ?_
 by_cases hil:i < a.length
 ·have hg:(bcells a)[((i:Nat):Int).toNat]? = some [.c (.int .u8 (a.getD i 0))] := by rw [Int.toNat_natCast]; exact bget hil
  repeat' (first | refine rI hg ?_ | exact ⟨⟩ | intro (K:KT) hK | intro hcd | (refine go1 ?_ ?_ <;> try clear hK K) | fail)
  all_goals first | exact hC _ _ (i + 1) (by omega) (by omega) (by exact .G [] 1) | (exfalso; simp at *; done) | (exfalso; omega)
 ·obtain rfl:i = a.length := by omega
  repeat' (first | exact ⟨⟩ | intro (K:KT) hK | intro hcd | (refine go1 ?_ ?_ <;> try clear hK K) | fail)
  exact WS.c rfl rfl
theorem sameDev_ok (d:Dv) (h1:d.1.length ≤ 100000) (h2:d.2.length ≤ 100000):FnE Tryz.prog 12 [.agg (dvC d),.agg (dvC d)] [] (.c (.bool true)) []:=by
 obtain ⟨n,m⟩ := d
 have h1 := eqI_ok n h1
 have h2 := eqB_ok m h2
 unfold dvC
 refine N.fnC Tryz.func12 k12 fun Q hQ hQN => ?_
 repeat' (first | (show WC _ _ _ _ _ _ _ _ _; first | refine T.call0 e27 rfl h1 ?_ | refine T.call0 e28 rfl h2 ?_) | exact ⟨⟩ | intro (K:KT) hK | intro hcd | (refine go1 ?_ ?_ <;> try clear hK K) | fail)
 exact WS.c rfl rfl
end Go.Proofs.YtonhglhdlgbcnaaGreat.Calc
namespace Go.Proofs.YtonhglhdlgbcnaaGreat.Code
open Go Go.Proofs.YtonhglhdlgbcnaaGreat.Calc
set_option maxRecDepth 100000
def c26x0:AC := .seq (.reg [aF' 5 0 2,aL' 6 5,aF' 7 0 3,aL' 8 7,aB' 9 .eql (.t 6) (.t 8),m' 10 9,gT' 11 10 (.fad 1 (.t 2)),gT' 12 10 (.ld (some 12) (.t 11)),gT' 13 10 (.fad 1 (.t 3)),gT' 14 10 (.ld (some 12) (.t 13)),gT' 15 10 (.eqs [.i .i64,.i .i64,.i .i64,.i .i64,.i .i64,.i .i64,.i .i64,.i .i64,.i .i64,.i .i64,.i .i64,.b] false (.t 12) (.t 14)),o' 16 (.pick (.t 10) (.t 15) kF'),m' 17 16,gT' 18 17 (.fad 14 (.t 2)),gT' 19 17 (.ld (some 3) (.t 18)),gT' 20 17 (.fad 14 (.t 3)),gT' 21 17 (.ld (some 3) (.t 20)),gT' 22 17 (.eqs [.i .i64,.i .i64,.i .i64] false (.t 19) (.t 21)),o' 23 (.pick (.t 17) (.t 22) kF'),m' 24 23,gT' 25 24 (.fad 13 (.t 2)),gT' 26 24 (.ld none (.t 25)),gT' 27 24 (.fad 13 (.t 3)),gT' 28 24 (.ld none (.t 27)),gT' 29 24 (.call 71 [.t 26,.t 28,(.f 72)]),o' 30 (.pick (.t 24) (.t 29) kF'),m' 4 30] [4]) .ret
def c26:AC := .seq (.reg [o' 2 (.new 17 (.t 0)),o' 3 (.new 17 (.t 1)),o' 4 (.mv kF')] [2,3]) c26x0
theorem k26:KQ Tryz.prog Tryz.f26 c26 [.t 4] := ⟨by kernel_rfl,by kernel_rfl⟩
theorem e26:enters Tryz.prog 26 = true := by kernel_rfl
def c72x0:AC := .seq (.reg [aF' 5 0 2,aL' 6 5,aF' 7 0 3,aL' 8 7,aC' 9 27 [.t 6,.t 8],m' 10 9,gT' 11 10 (.fad 1 (.t 2)),gT' 12 10 (.ld none (.t 11)),gT' 13 10 (.fad 1 (.t 3)),gT' 14 10 (.ld none (.t 13)),gT' 15 10 (.call 28 [.t 12,.t 14]),o' 16 (.pick (.t 10) (.t 15) kF'),m' 4 16] [4]) .ret
def c72:AC := .seq (.reg [o' 2 (.new 2 (.t 0)),o' 3 (.new 2 (.t 1)),o' 4 (.mv kF')] [2,3]) c72x0
theorem k72:KQ Tryz.prog Tryz.f72 c72 [.t 4] := ⟨by kernel_rfl,by kernel_rfl⟩
theorem e72:enters Tryz.prog 72 = true := by kernel_rfl
end Go.Proofs.YtonhglhdlgbcnaaGreat.Code
namespace Go.Proofs.YtonhglhdlgbcnaaGreat.Calc
open Go Code
set_option linter.unusedSimpArgs false
set_option linter.unusedVariables false
set_option maxRecDepth 20000
set_option maxHeartbeats 8000000
attribute [local irreducible] WOpsT AW AK RK AKW UK UC
theorem fit_fits {r:Nat→Int} (h:Fits r):∀ i,i < 9→fitR r i = r i:=by
 intro i hi
 have := h i hi
 unfold fitR fitN
 split at this <;> (rename_i hh; first | rw [if_pos hh] | rw [if_neg hh]) <;> omega
end Go.Proofs.YtonhglhdlgbcnaaGreat.Calc
namespace Go.Proofs.YtonhglhdlgbcnaaGreat.Calc
open Go Code
set_option linter.unusedSimpArgs false
set_option linter.unusedVariables false
set_option maxRecDepth 20000
set_option maxHeartbeats 4000000
attribute [local irreducible] WOpsT AW AK RK AKW UK UC
theorem same1_ok (d:Dv) (hd:SmlD d):FnE Tryz.prog 72 [.agg (dvC d),.agg (dvC d)] [] (.c (.bool true)) []:=by
 obtain ⟨d1,d2⟩ := d
 obtain ⟨s1,s2⟩ := hd
 have h1 := eqI_ok d1 s1
 have h2 := eqB_ok d2 s2
 dsimp only [dvC]
 refine N.fnC Tryz.func72 k72 fun Q hQ hQN => ?_
 repeat' (first | (show WC _ _ _ _ _ _ _ _ _; first | refine T.call0 e27 rfl h1 ?_ | refine T.call0 e28 rfl h2 ?_) | exact ⟨⟩ | intro (K:KT) hK | intro hcd | (refine go1 ?_ ?_ <;> try clear hK K) | fail)
 all_goals first | exact WS.c rfl rfl | (exfalso; omega) | trace_state
theorem eqDv_ok (l:List Dv) (hl:l.length ≤ 100000) (f:Nat) (he:enters Tryz.prog f = true) (hf:∀ x ∈ l,FnE Tryz.prog f [.agg (dvC x),.agg (dvC x)] [] (.c (.bool true)) []):FnE Tryz.prog 71 [.sl 2 (l.map dvC),.sl 2 (l.map dvC),.fn f []] [] (.c (.bool true)) []:=by
 refine N.fnC Tryz.func71 k71 fun Q hQ hQN => ?_
 repeat' (first | rw [List.length_map] | exact ⟨⟩ | intro (K:KT) hK | intro hcd | (refine go1 ?_ ?_ <;> try clear hK K) | fail)
 all_goals first | (exfalso; omega) | skip
 refine N.loop (σ := Nat) (fun i => [(1,.sl 2 (l.map dvC)),(2,.fn f []),(15,.sl 2 (l.map dvC)),(16,I l.length),(17,I i)]) (fun i => []) (fun i => i ≤ l.length) (fun i => l.length - i) 0 (Nat.zero_le _) (by exact .G [] 1) fun i hi R hC => ?_
 by_cases hil:i < l.length
 ·have hm := mget dvC l i hil
  have hx := hf _ (List.getElem_mem hil)
  generalize l[i] = x at *
  obtain ⟨x1,x2⟩ := x
  dsimp only [dvC] at hm hx
  repeat' (first | refine rI hm ?_ | refine T.ofFn rfl (C.zero he rfl hx ?_) | rw [Bool.not_true] | exact ⟨⟩ | intro (K:KT) hK | intro hcd | (refine go1 ?_ ?_ <;> try clear hK K) | fail)
  all_goals first | exact hC _ _ (i + 1) (by omega) (by omega) (by exact .G [] 1) | (exfalso; omega) | (exfalso; simp at *; done)
 ·obtain rfl:i = l.length := by omega
  repeat' (first | exact ⟨⟩ | intro (K:KT) hK | intro hcd | (refine go1 ?_ ?_ <;> try clear hK K) | fail)
  exact WS.c rfl rfl
theorem msame_ok (t:Int) (r:Nat→Int) (op a:Int) (b:Bool) (ds:List Dv) (x y z:Int) (hd:∀ d ∈ ds,SmlD d) (hl:ds.length ≤ 100000):FnE Tryz.prog 26 [.agg (maV t r op a b ds x y z),.agg (maV t r op a b ds x y z)] [] (.c (.bool true)) []:=by
 have h := eqDv_ok ds hl 72 e72 fun d h => same1_ok d (hd d h)
 dsimp only [maV]
 refine N.fnC Tryz.func26 k26 fun Q hQ hQN => ?_
 repeat' (first | (show WOpsT _ (⟨_,.eqs _ _ _ _,none⟩ :: _) _ _ _ _; refine T.eqs (b := true) rfl rfl (by simp [eqLv,eqC]) ?_) | refine T.call0 e71 rfl h ?_ | exact ⟨⟩ | intro (K:KT) hK | intro hcd | (refine go1 ?_ ?_ <;> try clear hK K) | fail)
 all_goals first | exact WS.c rfl rfl | (exfalso; omega) | trace_state
end Go.Proofs.YtonhglhdlgbcnaaGreat.Calc
namespace Go.Proofs.YtonhglhdlgbcnaaGreat.Code
open Go Go.Proofs.YtonhglhdlgbcnaaGreat.Calc
set_option maxRecDepth 100000
def c4x0:AC := .seq (.reg [aF' 88 0 8,aL' 89 88,m' 90 1,aB' 91 .eql (.t 89) (.t 90),m' 4 91] [4]) .ret
def c4x1:AC := .reg [aB' 87 .add (.t 67) (i' 1),m' 67 87] [1,6,8,65,66,67]
def c4x4:AC := .seq (.dreg [aF' 72 13 8,aL' 73 72,m' 74 11,aX' 75 2 73 74,aM' 76 2 75,aM' 77 5 12,aF' 78 13 6,aL' 79 78,m' 80 11,aX' 81 2 79 80,aM' 82 2 81,m' 83 1,aC' 84 13 [.t 77,.t 82,.t 83],aC' 85 12 [.t 76,.t 84],o' 86 (.not (.t 85))] (bf [[],[0,1],[],[0,3],[0,4],[],[],[6,7],[],[6,9],[6,10],[],[5,12],[0,13],[0,14]]) [1,6,8,65,66,67,86]) (.cond (.t 86) (.seq (.reg [o' 4 (.mv kF')] [4]) .ret) .skip)
def c4x5:AC := .seq (.reg [m' 69 67,aX' 70 5 65 67,aM' 71 5 70,o' 12 (.zero zLC),m' 11 69,aS' 5 12 71] [1,6,8,11,12,65,66,67]) c4x4
def c4x10:AC := .seq (.reg [aB' 68 .lss (.t 67) (.t 66)] [1,6,8,65,66,67,68]) (.seq (.cond (.t 68) .skip (.exit 0)) (.seq (.block 1 c4x5) c4x1))
def c4x13:AC := .seq (.reg [aF' 64 6 5,aL' 65 64,aT' 66 65,aV' 67 0] [1,6,8,65,66,67]) (.block 0 (.loop c4x10))
def c4x17:AC := .seq (.reg [aC' 32 11 [],o' 33 (.not (.t 32)),m' 34 33,gF' 35 34 (.mv (.t 7)),gF' 36 34 (.bin .neq (.t 35) (i' 0)),o' 37 (.pick (.t 34) kT' (.t 36)),m' 38 37,gF' 39 38 (.mv (.t 10)),gF' 40 38 (.bin .neq (.t 39) (i' 0)),o' 41 (.pick (.t 38) kT' (.t 40)),m' 42 41,gF' 43 42 (.fad 13 (.t 8)),gF' 44 42 (.ld none (.t 43)),gF' 45 42 (.len (.t 44)),gF' 46 42 (.fad 6 (.t 5)),gF' 47 42 (.ld none (.t 46)),gF' 48 42 (.len (.t 47)),gF' 49 42 (.bin .neq (.t 45) (.t 48)),o' 50 (.pick (.t 42) kT' (.t 49)),m' 51 50,gF' 52 51 (.fad 1 (.t 8)),gF' 53 51 (.ld (some 12) (.t 52)),gF' 54 51 (.fad 1 (.t 6)),gF' 55 51 (.ld (some 12) (.t 54)),gF' 56 51 (.eqs [.i .i64,.i .i64,.i .i64,.i .i64,.i .i64,.i .i64,.i .i64,.i .i64,.i .i64,.i .i64,.i .i64,.b] true (.t 53) (.t 55)),o' 57 (.pick (.t 51) kT' (.t 56)),m' 58 57,gF' 59 58 (.fad 14 (.t 8)),gF' 60 58 (.ld (some 3) (.t 59)),gF' 61 58 (.build [(.int .i64 0),(.int .i64 0),(.int .i64 0)] []),gF' 62 58 (.eqs [.i .i64,.i .i64,.i .i64] true (.t 60) (.t 61)),o' 63 (.pick (.t 58) kT' (.t 62))] [1,5,6,8,63]) (.cond (.t 63) (.seq (.reg [o' 4 (.mv kF')] [4]) .ret) .skip)
def c4x19:AC := .seq (.reg [aM' 25 8 5,aM' 26 17 6,m' 27 1,aC' 28 10 [.t 25,.t 26,(.k (.slice none 0 0)),(.t 27)],m' 24 28,aE' 29 24 0,aE' 30 24 1,aE' 31 24 2,o' 8 (.zero zLM),aS' 17 8 29,m' 9 30,m' 10 31] [1,5,6,7,8,10]) (.seq c4x17 (.seq c4x13 c4x0))
def c4x20:AC := .seq (.reg [aF' 22 1 6,aF' 23 9 22,n' (.st 1 (.t 23) (i' 259))] [1,5,6,7]) c4x19
def c4x21:AC := .seq (.reg [aM' 18 8 5,aC' 19 9 [.t 18],m' 17 19,aE' 20 17 0,aE' 21 17 1,o' 6 (.zero zLM),aS' 17 6 20,m' 7 21] [1,5,6,7]) c4x20
def c4x22:AC := .seq (.reg [m' 15 1,aC' 16 5 [.t 15,i' 300],m' 1 16] [1,5]) c4x21
def c4x23:AC := .seq (.reg [m' 13 0,aC' 14 8 [.t 13],o' 5 (.zero zLB),aS' 8 5 14] [1,5]) c4x22
def c4:AC := .seq (.reg [o' 4 (.mv kF')] [0,1]) c4x23
theorem k4:KQ Tryz.prog Tryz.f4 c4 [.t 4] := ⟨by kernel_rfl,by kernel_rfl⟩
def c11x0:AC := .seq (.reg [m' 10 3,aB' 11 .eql (.t 10) (i' 0),m' 12 11,gT' 13 12 (.fad 13 (.t 2)),gT' 14 12 (.ld none (.t 13)),gT' 15 12 (.len (.t 14)),gT' 16 12 (.fad 6 (.t 1)),gT' 17 12 (.ld none (.t 16)),gT' 18 12 (.len (.t 17)),gT' 19 12 (.bin .eql (.t 15) (.t 18)),o' 20 (.pick (.t 12) (.t 19) kF'),m' 21 20,gT' 22 21 (.ld (some 17) (.t 2)),gT' 23 21 (.ld (some 17) (.t 2)),gT' 24 21 (.call 26 [.t 22,.t 23]),o' 25 (.pick (.t 21) (.t 24) kF'),m' 0 25] [0]) .ret
def c11x1:AC := .seq (.reg [aM' 6 8 1,aC' 7 9 [.t 6],m' 5 7,aE' 8 5 0,aE' 9 5 1,o' 2 (.zero zLM),aS' 17 2 8,m' 3 9] [1,2,3]) c11x0
def c11x2:AC := .seq (.reg [aC' 4 8 [(.k (.slice none 0 0))],o' 1 (.zero zLB),aS' 8 1 4] [1]) c11x1
def c11:AC := .seq (.reg [o' 0 (.mv kF')] []) c11x2
theorem k11:KQ Tryz.prog Tryz.f11 c11 [.t 0] := ⟨by kernel_rfl,by kernel_rfl⟩
theorem e11:enters Tryz.prog 11 = true := by kernel_rfl
end Go.Proofs.YtonhglhdlgbcnaaGreat.Code
namespace Go.Proofs.YtonhglhdlgbcnaaGreat.Calc
open Go Code
set_option linter.unusedSimpArgs false
set_option linter.unusedVariables false
set_option maxRecDepth 20000
set_option maxHeartbeats 4000000
attribute [local irreducible] WOpsT AW AK RK AKW UK UC
theorem machines_go (B:Brd) (ds:List Dv) (hlen:ds.length = B.chips.length) (hbd:FnE Tryz.prog 8 [.c (.slice none 0 0)] [] (.agg (boV B)) []) (hnew:FnE Tryz.prog 9 [.agg (boV B)] [] (.tup [.agg (maV 0 rstR 258 0 false ds 0 0 0),I 0]) []) (hs:FnE Tryz.prog 26 [.agg (maV 0 rstR 258 0 false ds 0 0 0),.agg (maV 0 rstR 258 0 false ds 0 0 0)] [] (.c (.bool true)) []):FnE Tryz.prog 11 [] [] (.c (.bool true)) []:=by
 obtain ⟨bn,⟨nm,ins,r1,r2,r3⟩,cs,ws⟩ := B
 dsimp only at hlen
 unfold boV cpC at hbd hnew
 dsimp only [List.cons_append,List.nil_append,maV] at hbd hnew hs
 generalize rstR = r at *
 have z1:spl [V.c (.string ⟨#[]⟩),.c (.string ⟨#[]⟩),.c (.slice none 0 0),.c (.slice none 0 0),.c (.slice none 0 0),.c (.slice none 0 0),.c (.slice none 0 0),.c (.slice none 0 0)] 0 [V.c (.string bn),.c (.string nm),.sl 4 (ins.map inC),.sl 4 (r1.map cyC),.sl 4 (r2.map cyC),.sl 4 (r3.map cyC),.sl 5 (cs.map chV),.sl 2 (ws.map wiV)] = [V.c (.string bn),.c (.string nm),.sl 4 (ins.map inC),.sl 4 (r1.map cyC),.sl 4 (r2.map cyC),.sl 4 (r3.map cyC),.sl 5 (cs.map chV),.sl 2 (ws.map wiV)] := rfl
 have z2:List.take 8 [V.c (.string bn),.c (.string nm),.sl 4 (ins.map inC),.sl 4 (r1.map cyC),.sl 4 (r2.map cyC),.sl 4 (r3.map cyC),.sl 5 (cs.map chV),.sl 2 (ws.map wiV)] = [V.c (.string bn),.c (.string nm),.sl 4 (ins.map inC),.sl 4 (r1.map cyC),.sl 4 (r2.map cyC),.sl 4 (r3.map cyC),.sl 5 (cs.map chV),.sl 2 (ws.map wiV)] := rfl
 have z3:spl [I 0,I 0,I 0,I 0,I 0,I 0,I 0,I 0,I 0,I 0,I 0,I 0,.c (.bool false),.c (.slice none 0 0),I 0,I 0,I 0] 0 [I 0,I (r 0),I (r 1),I (r 2),I (r 3),I (r 4),I (r 5),I (r 6),I (r 7),I (r 8),I 258,I 0,.c (.bool false),.sl 2 (ds.map dvC),I 0,I 0,I 0] = [I 0,I (r 0),I (r 1),I (r 2),I (r 3),I (r 4),I (r 5),I (r 6),I (r 7),I (r 8),I 258,I 0,.c (.bool false),.sl 2 (ds.map dvC),I 0,I 0,I 0] := rfl
 have z4:List.take 17 [I 0,I (r 0),I (r 1),I (r 2),I (r 3),I (r 4),I (r 5),I (r 6),I (r 7),I (r 8),I 258,I 0,.c (.bool false),.sl 2 (ds.map dvC),I 0,I 0,I 0] = [I 0,I (r 0),I (r 1),I (r 2),I (r 3),I (r 4),I (r 5),I (r 6),I (r 7),I (r 8),I 258,I 0,.c (.bool false),.sl 2 (ds.map dvC),I 0,I 0,I 0] := rfl
 refine N.fnC Tryz.func11 k11 fun Q hQ hQN => ?_
 repeat' (first | rw [z1] | rw [z2] | rw [z3] | rw [z4] | rw [List.length_map] | rw [hlen] | (show WC _ _ _ _ _ _ _ _ _; first | refine T.call0 e8 rfl hbd ?_ | refine T.call0 e9 rfl hnew ?_ | refine T.call0 e26 rfl hs ?_) | exact ⟨⟩ | intro (K:KT) hK | intro hcd | (refine go1 ?_ ?_ <;> try clear hK K) | fail)
 all_goals first | exact WS.c rfl rfl | (exfalso; omega) | trace_state
theorem newDs_sml (l:List Int):∀ d ∈ (mkBrd l).chips.map newV,SmlD d:=by
 intro d hd
 obtain ⟨c,hc,rfl⟩ := List.mem_map.1 hd
 exact (newV_ok c ((mkBrd_kinds l).1 c hc)).1.sml
theorem machines_ok:FnE Tryz.prog 11 [] [] (.c (.bool true)) []:=by
 obtain ⟨hv,hn2,hn6⟩ := mkBrd_kinds []
 exact machines_go (mkBrd []) _ (List.length_map ..) (FnE.arg0 (mkBrd_ok []) .nil) (mkNew_ok []) (msame_ok _ _ _ _ _ _ _ _ _ (newDs_sml []) (by rw [List.length_map]; omega))
end Go.Proofs.YtonhglhdlgbcnaaGreat.Calc
namespace Go.Proofs.YtonhglhdlgbcnaaGreat.Calc
open Go Code
set_option linter.unusedSimpArgs false
set_option linter.unusedVariables false
def plainM (cs:List Chp) (b:Bus):Bool := decide (b.d = 0) || (match findC cs b.addr with
 | none => true
 | some i => match cs[i]? with
  | some c => decide (c.kind ≤ 2)
  | none => true)
noncomputable def glT (B:Brd) (q:Bool) (k:Core) (ds:List Dv):Core×List Dv×Bus :=
 (tellM B.cpu (askM B.cpu k q).1 (accM B.chips (askM B.cpu k q).2.d (askM B.cpu k q).2.addr (askM B.cpu k q).2.data ds).2,(accM B.chips (askM B.cpu k q).2.d (askM B.cpu k q).2.addr (askM B.cpu k q).2.data ds).1,⟨(askM B.cpu k q).2.d,(askM B.cpu k q).2.addr,(accM B.chips (askM B.cpu k q).2.d (askM B.cpu k q).2.addr (askM B.cpu k q).2.data ds).2⟩)
noncomputable def glG (B:Brd) (q:Bool):Nat→Core→List Dv→Bus→Nat×Core×List Dv×Bus
 | 0,k,ds,b => (0,k,ds,b)
 | n + 1,k,ds,b =>
  if plainM B.chips (askM B.cpu k q).2 = true then
   ((glG B q n (glT B q k ds).1 (glT B q k ds).2.1 (glT B q k ds).2.2).1 + 1,(glG B q n (glT B q k ds).1 (glT B q k ds).2.1 (glT B q k ds).2.2).2)
  else (0,k,ds,b)
def skL (cs:List Chp) (j:Nat) (ds:List Dv):List Dv := List.zipWith (fun c d => skipV c j d) cs ds
theorem skL_len {cs:List Chp} {ds:List Dv} (h:ds.length = cs.length) (j:Nat):(skL cs j ds).length = cs.length := by unfold skL; rw [List.length_zipWith]; omega
theorem skL_get {cs:List Chp} {ds:List Dv} {i j:Nat} {c:Chp} {d:Dv} (hc:cs[i]? = some c) (hd:ds[i]? = some d):(skL cs j ds)[i]? = some (skipV c j d):=by
 unfold skL; rw [List.getElem?_zipWith,hc,hd]
theorem skL_zero {cs:List Chp} {ds:List Dv} (h:DvsOk cs ds):skL cs 0 ds = ds:=by
 apply List.ext_getElem?
 intro i
 by_cases hi:i < cs.length
 ·have h2:i < ds.length := by rw [h.1]; exact hi
  rw [skL_get (List.getElem?_eq_getElem hi) (List.getElem?_eq_getElem h2),List.getElem?_eq_getElem h2]
  have := h.2 i hi h2
  generalize cs[i] = c at *
  generalize ds[i] = d at *
  congr 1
  rcases this with ⟨z,hk,hs,h1,m,hm,hb⟩ | ⟨nb,hk,hs,h1,hd,n,hn,m,hm,hb⟩ | ⟨hk,hs,x,y,e,f,h⟩ | ⟨hk,hs,x,y,z,h⟩ | ⟨hk,hs,s1,l,g,f,o,e,n,z,h⟩ | ⟨hk,hs,p,q,m,h⟩ | ⟨hk,hs,x,y,hx,hy⟩ | ⟨nd,hk,hs,e,m,h⟩
  ·exact skipV_mem (by unfold MemK; omega) 0 _
  ·exact skipV_mem (by unfold MemK; omega) 0 _
  ·unfold skipV; rw [if_pos hk]; show (skip4 x y e f (0:Nat),[]) = _; unfold skip4; rw [if_pos (by omega)]
  ·unfold skipV; rw [if_neg (by omega),if_neg (by omega),if_neg (by omega),if_neg (by omega),if_neg (by omega)]
  ·unfold skipV; rw [if_neg (by omega),if_pos hk]; show (serSkip s1 l g f o e n z (0:Nat),[]) = _; unfold serSkip; rw [if_pos (by omega)]
  ·unfold skipV; rw [if_neg (by omega),if_neg (by omega),if_pos hk]
   show ([vpos p 0,vhitN m p q 0],m) = _
   have := h.pos
   unfold vpos vhitN
   rw [show (p + ((0:Nat):Int)) % 2560 = p by omega]
  ·unfold skipV; rw [if_neg (by omega),if_neg (by omega),if_neg (by omega),if_pos hk]; rfl
  ·unfold skipV; rw [if_neg (by omega),if_neg (by omega),if_neg (by omega),if_neg (by omega),if_pos hk]; rfl
 ·rw [List.getElem?_eq_none (by rw [skL_len h.1]; omega),List.getElem?_eq_none (by rw [h.1]; omega)]
theorem skL_tick {cs:List Chp} {ds:List Dv} (h:DvsOk cs ds) (j:Nat):tickL cs (skL cs j ds) = skL cs (j + 1) ds:=by
 apply List.ext_getElem?
 intro i
 by_cases hi:i < cs.length
 ·have h2:i < ds.length := by rw [h.1]; exact hi
  have e1 := List.getElem?_eq_getElem hi
  have e2 := List.getElem?_eq_getElem h2
  show (skL cs 1 (skL cs j ds))[i]? = _
  rw [skL_get e1 (skL_get e1 e2),skL_get e1 e2,skipV_add _ _ (h.2 i hi h2)]
 ·rw [List.getElem?_eq_none (by show (skL cs 1 _).length ≤ i; rw [skL_len (skL_len h.1 _)]; omega),List.getElem?_eq_none (by rw [skL_len h.1]; omega)]
def SameD (cs:List Chp) (ds es:List Dv):Prop := ∀ (i:Nat) (c:Chp),cs[i]? = some c→¬ MemK c→ds[i]? = es[i]?
structure GlI (B:Brd) (ins:List Ev) (s:Mac) (j:Nat) (k:Core) (ds:List Dv) (b:Bus):Prop where
 run:runS B ins s j = ⟨s.t + j,k,skL B.chips j ds,b⟩
 out:runO B ins s j = []
 ok:DvsOk B.chips ds
 same:SameD B.chips ds s.ds
end Go.Proofs.YtonhglhdlgbcnaaGreat.Calc
namespace Go.Proofs.YtonhglhdlgbcnaaGreat.Calc
open Go Code
set_option linter.unusedSimpArgs false
set_option linter.unusedVariables false
set_option maxRecDepth 20000
set_option maxHeartbeats 8000000
attribute [local irreducible] WOpsT AW AK RK AKW UK UC
theorem doing_jam (c:Cpu) (a:Int):doingM c 259 a = none:=by
 unfold doingM
 split
 ·rfl
 ·have:cycM c 259 = [] := by unfold cycM; rw [if_neg (by decide),if_neg (by decide),if_neg (by decide),if_neg (by decide)]
  rw [this]; rfl
theorem ask_jam (c:Cpu) (r:Nat→Int) (a:Int) (nmi irq:Bool):askM c ⟨r,259,a,nmi⟩ irq = (⟨fitR r,259,a,nmi⟩,⟨0,0,0⟩):=by
 unfold askM askA
 rw [if_neg (by show ¬ ((259:Int) = -1); decide)]
 unfold askB
 rw [if_neg (by show ¬ ((259:Int) = -1); decide)]
 dsimp only
 rw [doing_jam]
theorem tell_jam (c:Cpu) (r:Nat→Int) (a:Int) (nmi:Bool) (z:Int):tellM c ⟨r,259,a,nmi⟩ z = ⟨fitR r,259,a,nmi⟩:=by
 unfold tellM
 rw [if_neg (by show ¬ ((259:Int) = -1); decide)]
 unfold tellB
 dsimp only
 rw [doing_jam]
 rfl
theorem acc_none (cs:List Chp) (ad z:Int) (ds:List Dv):accM cs 0 ad z ds = (ds,z):=by
 unfold accM
 (repeat' split) <;> simp_all
structure JamI (B:Brd) (s:Mac) (n:Nat) (w:Mac):Prop where
 t:w.t = s.t + n
 r:∀ i,i < 9→w.k.r i = s.k.r i
 op:w.k.op = 259
 a:w.k.a = s.k.a
 nmi:w.k.nmi = s.k.nmi
 ds:w.ds = skL B.chips n s.ds
 bus:w.bus = ⟨0,0,0⟩
theorem jam_run (B:Brd) (s:Mac) (h:MacSt B s) (hr:Fits s.k.r) (ho:s.k.op = 259) (hb:s.bus = ⟨0,0,0⟩):∀ n:Nat,s.t + n ≤ 1099511627776→JamI B s n (runS B [] s n):=by
 intro n
 induction n with
 | zero => intro _; exact ⟨(Int.add_zero _).symm,fun _ _ => rfl,ho,rfl,rfl,(skL_zero h.1).symm,hb⟩
 | succ n ih =>
  intro hn
  obtain ⟨h1,h2,h3,h4,h5,h6,h7⟩ := ih (by omega)
  have hst := runS_st B [] s h n
  show JamI B s (n + 1) (stepM B [] (runS B [] s n))
  generalize runS B [] s n = w at *
  obtain ⟨t,⟨r,op,a,nmi⟩,ds,bus⟩ := w
  dsimp only at h1 h2 h3 h4 h5 h6 h7
  subst h1 h3 h4 h5 h6 h7
  have ha:askS B [] ⟨s.t + n,⟨r,259,s.k.a,s.k.nmi⟩,skL B.chips n s.ds,⟨0,0,0⟩⟩ = (⟨fitR r,259,s.k.a,s.k.nmi⟩,⟨0,0,0⟩) := ask_jam _ _ _ _ _
  have hac:accS B [] ⟨s.t + n,⟨r,259,s.k.a,s.k.nmi⟩,skL B.chips n s.ds,⟨0,0,0⟩⟩ = (skL B.chips n s.ds,0):=by
   unfold accS; rw [ha]; exact acc_none _ _ _ _
  unfold stepM
  rw [ha,hac]
  dsimp only
  rw [tell_jam,skL_tick h.1]
  have hfr:Fits r := fun i hi => by rw [h2 i hi]; exact hr i hi
  refine ⟨?_,fun i hi => ?_,rfl,rfl,rfl,rfl,rfl⟩
  ·have := h.2.1
   show tNext (s.t + n) = _
   unfold tNext; omega
  ·show fitR (fitR r) i = _
   rw [fit_fits (fitR_fits r) i hi,fit_fits hfr i hi,h2 i hi]
theorem maS_jam {B:Brd} {s w:Mac} {n:Nat} (h:JamI B s n w) (ho:s.k.op = 259):maS w = mrow (s.t + n) s.k.r 259 s.k.a s.k.nmi (.sl 2 ((skL B.chips n s.ds).map dvC)) 0 0 0:=by
 obtain ⟨h1,h2,h3,h4,h5,h6,h7⟩ := h
 unfold maS mrow
 rw [h1,h2 0 (by decide),h2 1 (by decide),h2 2 (by decide),h2 3 (by decide),h2 4 (by decide),h2 5 (by decide),h2 6 (by decide),h2 7 (by decide),h2 8 (by decide),h3,h4,h5,h6,h7]
theorem FnE.arg2 {P:Program} {f:FuncId} {a b c d:V} {vs:List V} {h h':List Blk} {r:V} (hF:FnE P f (c :: d :: b :: vs) h r h') (hs:Sub a b):FnE P f (c :: d :: a :: vs) h r h':=by
 refine hF.args rfl fun i x y hx hy => ?_
 match i with
 | 0 => simp at hx hy; subst hx; subst hy; exact .rfl
 | 1 => simp at hx hy; subst hx; subst hy; exact .rfl
 | 2 => simp at hx hy; subst hx; subst hy; exact hs
 | i + 3 => simp at hx hy; rw [hx] at hy; cases hy; exact .rfl
theorem nil_ok (B:Brd):InsOk B [] := ⟨Nat.zero_le _,fun i h => absurd h (by simp),fun x h => by simp at h,fun x h => by simp at h⟩
theorem mrow_op (t:Int) (r:Nat→Int) (op op' a:Int) (b:Bool) (d:V) (x y z:Int):spl (mrow t r op a b d x y z) 10 [I op'] = mrow t r op' a b d x y z := rfl
section
variable {P:Program} {rest:List AOper} {tr:Tr} {fr:Fr} {h:List Blk} {K:KT} {d:Option Nat}
theorem T.eqCo {ne:Bool} {x y:AO} {r:Nat→Int} {op a:Int} {b:Bool} (hx:x.ev (lk fr) = .agg (coA r op a b)) (hy:y.ev (lk fr) = .agg (coA r op a b)) (hK:WOpsT P rest (tr ++ [([],[])]) (put fr d (.c (.bool (!ne)))) h K):WOpsT P (⟨d,.eqs [.i .i64,.i .i64,.i .i64,.i .i64,.i .i64,.i .i64,.i .i64,.i .i64,.i .i64,.i .i64,.i .i64,.b] ne x y,none⟩ :: rest) tr fr h K :=
 T.eqs (us := [.int .i64 (r 0),.int .i64 (r 1),.int .i64 (r 2),.int .i64 (r 3),.int .i64 (r 4),.int .i64 (r 5),.int .i64 (r 6),.int .i64 (r 7),.int .i64 (r 8),.int .i64 op,.int .i64 a,.bool b]) (b := true) (by rw [hx]; rfl) (by rw [hy]; rfl) (by simp [eqLv,eqC]) (by simpa using hK)
end
theorem jams_go (l:List Int) (n0:Int) (n:Nat) (hn:n0 % 300 = n) (B:Brd) (r:Nat→Int) (a:Int) (b:Bool) (ds es:List Dv) (o:List Ev) (hm:FnE Tryz.prog 11 [] [] (.c (.bool true)) []) (hbd:FnE Tryz.prog 8 [.sl 1 (cells l)] [] (.agg (boV B)) [])
  (hnew:FnE Tryz.prog 9 [.agg (boV B)] [] (.tup [.agg (mrow 0 r 258 a b (.sl 2 (ds.map dvC)) 0 0 0),I 0]) [])
  (hr1:FnE Tryz.prog 10 [.agg (boV B),.agg (mrow 0 r 259 a b (.sl 2 (ds.map dvC)) 0 0 0),.c (.slice none 0 0),I n] [] (.tup [.agg (mrow n r 259 a b (.sl 2 (es.map dvC)) 0 0 0),.sl 3 (o.map evV),I 0]) [])
  (h1:ds.length = B.chips.length) (h2:es.length = B.chips.length) (h12:B.chips.length ≤ 12) (hsk:∀ i (h:i < B.chips.length) (h3:i < ds.length) (h4:i < es.length),SmlD es[i]∧FnE Tryz.prog 13 [.agg (chV B.chips[i]),.agg (dvC ds[i]),I n] [] (.agg (dvC es[i])) []):FnE Tryz.prog 4 [.sl 1 (cells l),I n0] [] (.c (.bool true)) []:=by
 have b1 := below_ok n0 300 (by decide) (by decide)
 rw [hn] at b1
 refine N.fnC Tryz.func4 k4 fun Q hQ hQN => ?_
 repeat' (first | rw [boV_zero] | rw [boV_t8] | rw [boV_ren] | rw [mrow_zero] | rw [mrow_ren] | rw [mrow_t17] | rw [mrow_op] | rw [List.length_map] | rw [h1] | rw [h2] | rw [mrow_co] | refine T.eqCo rfl rfl ?_ | (show WOpsT _ (⟨_,.eqs _ _ _ _,none⟩ :: _) _ _ _ _; refine T.eqs (us := [.int .i64 0,.int .i64 0,.int .i64 0]) (vs := [.int .i64 0,.int .i64 0,.int .i64 0]) (b := true) rfl rfl (by simp [eqLv,eqC]) ?_) | (show WC _ _ _ _ _ _ _ _ _; first | refine T.call0 e8 rfl hbd ?_ | refine T.call0 e9 rfl hnew ?_ | refine T.call0 e5 rfl b1 ?_ | refine T.call0 e10 rfl hr1 ?_ | refine T.call0 e11 rfl hm ?_) | exact ⟨⟩ | intro (K:KT) hK | intro hcd | (refine go1 ?_ ?_ <;> try clear hK K) | fail)
 all_goals first | (exfalso; omega) | skip
 refine N.loop (σ := Nat) (fun i => [(1,I n),(6,.ptr 1 1 0 0),(8,.ptr 2 1 0 0),(65,.sl 5 (B.chips.map chV)),(66,I B.chips.length),(67,I i)]) (fun i => [⟨1,8,[boV B]⟩,⟨1,17,[mrow 0 r 259 a b (.sl 2 (ds.map dvC)) 0 0 0]⟩,⟨1,17,[mrow n r 259 a b (.sl 2 (es.map dvC)) 0 0 0]⟩]) (fun i => i ≤ B.chips.length) (fun i => B.chips.length - i) 0 (Nat.zero_le _) (Weaks.sel (by exact sB) rfl) fun i hi R hC => ?_
 by_cases hil:i < B.chips.length
 ·have hm := mget chV B.chips i hil
  have hi1:i < ds.length := by omega
  have hi2:i < es.length := by omega
  have hd := dev_get hi1 rfl
  have he := dev_get hi2 rfl
  obtain ⟨hs,hsk⟩ := hsk i hil hi1 hi2
  have hsd := sameDev_ok _ hs.1 hs.2
  generalize B.chips[i] = c at *
  generalize ds[i] = d at *
  generalize es[i] = e at *
  obtain ⟨cn,ck,cb,cs,cd⟩ := c
  obtain ⟨d1,d2⟩ := d
  obtain ⟨e1,e2⟩ := e
  dsimp only [chV,dvC] at hm hd he hsk hsd
  repeat' (first | refine rI hm ?_ | refine rI hd ?_ | refine rI he ?_ | (show WC _ _ _ _ _ _ _ _ _; first | refine T.call0 e13 rfl hsk ?_ | refine T.call0 e12 rfl hsd ?_) | exact ⟨⟩ | intro (K:KT) hK | intro hcd | (refine go1 ?_ ?_ <;> try clear hK K) | fail)
  exact hC _ _ (i + 1) (by omega) (by omega) (by exact .G [0,1,2] 1)
 ·obtain rfl:i = B.chips.length := by omega
  repeat' (first | exact ⟨⟩ | intro (K:KT) hK | intro hcd | (refine go1 ?_ ?_ <;> try clear hK K) | fail)
  exact WS.c rfl rfl
theorem rst_fits:Fits rstR:=by
 intro i hi
 unfold rstR
 split <;> split <;> omega
theorem mjams_ok (l:List Int) (n0:Int):FnE Tryz.prog 4 [.sl 1 (cells l),I n0] [] (.c (.bool true)) []:=by
 obtain ⟨n,hn⟩:∃ n:Nat,n0 % 300 = n := ⟨(n0 % 300).toNat,by omega⟩
 have hB := mkMac_ok l
 have h0 := mac0_st l
 obtain ⟨s,hs⟩:∃ s:Mac,s = ⟨0,⟨rstR,259,0,false⟩,(mkBrd l).chips.map newV,⟨0,0,0⟩⟩ := ⟨_,rfl⟩
 have hst:MacSt (mkBrd l) s := by rw [hs]; exact h0
 have hj := jam_run (mkBrd l) s hst (by rw [hs]; exact rst_fits) (by rw [hs]) (by rw [hs]) n (by rw [hs]; dsimp only; omega)
 have hr := run_ok l s [] n (by omega) hst (nil_ok _)
 rw [maS_jam hj (by rw [hs])] at hr
 have hr2 := FnE.arg2 hr (a := .c (.slice none 0 0)) .nil
 have hl := hst.1.1
 have hds:s.ds = (mkBrd l).chips.map newV := by rw [hs]
 refine jams_go l n0 n hn (mkBrd l) rstR 0 false ((mkBrd l).chips.map newV) (skL (mkBrd l).chips n s.ds) (runO (mkBrd l) [] s n) machines_ok (mkBrd_ok l) (mac0_new l) ?_ (List.length_map ..) (skL_len hl n) hB.n12 fun i h h3 h4 => ?_
 ·subst hs
  dsimp only at hr2
  rw [Int.zero_add] at hr2
  exact hr2
 ·have hi:i < s.ds.length := by rw [hl]; exact h
  have he:(skL (mkBrd l).chips n s.ds)[i] = skipV (mkBrd l).chips[i] n s.ds[i] := by simp only [skL,List.getElem_zipWith]
  have hsk := chSkip_ok _ _ (hst.1.2 i h hi) n (by omega)
  rw [he]
  refine ⟨hsk.1.small,?_⟩
  have := hsk.2
  subst hs
  exact this
end Go.Proofs.YtonhglhdlgbcnaaGreat.Calc
