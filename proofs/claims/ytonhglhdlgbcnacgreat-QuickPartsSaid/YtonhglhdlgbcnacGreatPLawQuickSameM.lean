/- Several texts in one (FnChipEx, PureSkip, FnMakeB), for the proof of LawQuickSame. No condition beyond those in each lemma. -/
import Derived.Test.YtonhglhdlgbcnacGreatPLawQuickSameL
import Derived.Test.YtonhglhdlgbcnacGreatPLawQuickSameG
namespace Go.Proofs.YtonhglhdlgbcnacGreat.Calc
open Go Code
set_option linter.unusedSimpArgs false
set_option linter.unusedVariables false
set_option maxRecDepth 20000
set_option maxHeartbeats 4000000
abbrev Dv := List Int×List Int
def dvC (d:Dv):List V := [.sl 1 (cells d.1),.sl 1 (bcells d.2)]
inductive VKind (c:Chp):Prop where
 | mem (z:Nat) (hk:c.kind = 0∨c.kind = 1) (hs:c.size = z) (h1:1 ≤ z∧z ≤ 4096) (hd:c.data.length ≤ z) (hb:Bytes c.data)
 | bank (nb:Nat) (hk:c.kind = 2) (hs:c.size = 9) (h1:1 ≤ nb∧nb ≤ 3) (hd:c.data.length = 8 * nb) (hb:Bytes c.data)
 | dev (hk:c.kind = 3∨c.kind = 4∨c.kind = 5∨c.kind = 6∨c.kind = 7) (hs:c.size = szN c.kind.toNat) (hd:c.data = [])
 | drive (nd:Nat) (hk:c.kind = 8) (hs:c.size = 4) (hn:nd ≤ 16) (hd:c.data.length = 256 * nd) (hb:Bytes c.data)
inductive DvOk (c:Chp):Dv→Prop where
 | mem (z:Nat) (hk:c.kind = 0∨c.kind = 1) (hs:c.size = z) (h1:1 ≤ z∧z ≤ 4096) (m:List Int) (hm:m.length = z) (hb:Bytes m):DvOk c ([],m)
 | bank (nb:Nat) (hk:c.kind = 2) (hs:c.size = 9) (h1:1 ≤ nb∧nb ≤ 3) (hd:c.data.length = 8 * nb) (n:Int) (hn:0 ≤ n∧n < nb) (m:List Int) (hm:m.length = 8 * nb) (hb:Bytes m):DvOk c ([n],m)
 | timer (hk:c.kind = 3) (hs:c.size = 4) (x y a f:Int) (h:TimOk x y a f):DvOk c ([x,y,a,f],[])
 | port (hk:c.kind = 4) (hs:c.size = 2) (x y z:Int) (h:PortOk x y z):DvOk c ([x,y,z],[])
 | serial (hk:c.kind = 5) (hs:c.size = 3) (s l g f o a n z:Int) (h:SerOk s l g f o a n z):DvOk c ([s,l,g,f,o,a,n,z],[])
 | video (hk:c.kind = 6) (hs:c.size = 32) (p q:Int) (m:List Int) (h:VidOk p q m):DvOk c ([p,q],m)
 | sound (hk:c.kind = 7) (hs:c.size = 8) (x y:Vo) (hx:x.Ok) (hy:y.Ok):DvOk c (vo2 x y,[])
 | drive (nd:Nat) (hk:c.kind = 8) (hs:c.size = 4) (a:Dr) (m:List Int) (h:a.Ok m nd):DvOk c (dr10 a,m)
theorem chNew_ex (c:Chp) (hc:VKind c):∃ d:Dv,DvOk c d∧FnE Tryz.prog 21 [.agg (chV c)] [] (.agg (dvC d)) []:=by
 obtain ⟨nm,k,b,s,dat⟩ := c
 rcases hc with ⟨z,hk,hs,h1,hd,hb⟩ | ⟨nb,hk,hs,h1,hd,hb⟩ | ⟨hk,hs,hd⟩ | ⟨nd,hk,hs,hn,hd,hb⟩
 ·dsimp only at hk hs hd hb; subst hs
  exact ⟨([],cpy (List.replicate z 0) dat 0),.mem z hk rfl h1 _ (by rw [cpy_len,List.length_replicate]) (cpy_bytes (Bytes.zeros _) hb _),new_m nm b dat k z hk h1.2 hd⟩
 ·dsimp only at hk hs hd hb; subst hs; subst hk
  exact ⟨([0],dat),.bank nb rfl rfl h1 hd 0 (by omega) _ hd hb,new_k nm b dat nb h1 hd⟩
 ·dsimp only at hk hs hd; subst hd
  rcases hk with rfl | rfl | rfl | rfl | rfl
  ·exact ⟨([0,0,0,0],[]),.timer rfl hs _ _ _ _ (by decide),chNw3 nm b s [] timnew_ok⟩
  ·exact ⟨([255,0,0],[]),.port rfl hs _ _ _ (by decide),chNw4 nm b s [] prtnew_ok⟩
  ·exact ⟨([0,0,0,0,0,0,0,0],[]),.serial rfl hs _ _ _ _ _ _ _ _ (by decide),chNw5 nm b s [] sernew_ok⟩
  ·exact ⟨([2559,0],List.replicate 32 0),.video rfl hs _ _ _ ⟨by decide,by decide,List.length_replicate,Bytes.zeros _⟩,chNw6 nm b s [] vidnew_ok⟩
  ·exact ⟨([0,0,0,0,0,0,0,0,0,0,0,0],[]),.sound rfl hs ⟨0,0,0,0,0,0⟩ ⟨0,0,0,0,0,0⟩ (by unfold Vo.Ok; decide) (by unfold Vo.Ok; decide),chNw7 nm b s [] sndnew_ok⟩
 ·dsimp only at hk hs hd hb; subst hs; subst hk
  exact ⟨([0,0,0,0,0,0,0,0,0,0],dat),.drive nd rfl rfl ⟨0,0,0,0,0,0,0,0,0,0⟩ _ (by constructor <;> first | omega | exact hb | decide | (dsimp only; omega)),chNw8 nm b 4 dat (drvnew dat nd hd (by omega))⟩
theorem chRead_ex (c:Chp) (d:Dv) (hd:DvOk c d) (a:Int) (ha:0 ≤ a∧a < c.size):∃ (d':Dv) (v:Int),DvOk c d'∧(c.kind ≤ 2→d' = d)∧FnE Tryz.prog 71 [.agg (chV c),.agg (dvC d),I a] [] (.tup [.agg (dvC d'),I v]) []:=by
 obtain ⟨nm,k,b,s,dat⟩ := c
 rcases hd with ⟨z,hk,hs,h1,m,hm,hb⟩ | ⟨nb,hk,hs,h1,hd,n,hn,m,hm,hb⟩ | ⟨hk,hs,x,y,e,f,h⟩ | ⟨hk,hs,x,y,z,h⟩ | ⟨hk,hs,s1,l,g,f,o,e,n,z,h⟩ | ⟨hk,hs,p,q,m,h⟩ | ⟨hk,hs,x,y,hx,hy⟩ | ⟨nd,hk,hs,e,m,h⟩
 all_goals dsimp only at hk hs ha; subst hs
 ·exact ⟨_,_,.mem z hk rfl h1 m hm hb,fun _ => rfl,chRd0 nm b dat k z hk h1.2 m hm hb a ha⟩
 ·subst hk
  exact ⟨_,_,.bank nb rfl rfl h1 hd n hn m hm hb,fun _ => rfl,chRd2 nm b dat nb h1 hd n hn m hm hb a ha⟩
 ·subst hk
  obtain ⟨f',v,h2,hF⟩ := timrd_ex x y e f a h ha
  exact ⟨([x,y,e,f'],[]),v,.timer rfl rfl _ _ _ _ h2,fun h => absurd h (by dsimp only; decide),chRd3 nm b 4 dat hF⟩
 ·subst hk
  obtain ⟨v,hF⟩ := prtrd_ex x y z a h ha
  exact ⟨([x,y,z],[]),v,.port rfl rfl _ _ _ h,fun h => absurd h (by dsimp only; decide),chRd4 nm b 2 dat hF⟩
 ·subst hk
  obtain ⟨f',o',v,h2,hF⟩ := serrd_ex s1 l g f o e n z a h ha
  exact ⟨([s1,l,g,f',o',e,n,z],[]),v,.serial rfl rfl _ _ _ _ _ _ _ _ h2,fun h => absurd h (by dsimp only; decide),chRd5 nm b 3 dat hF⟩
 ·subst hk
  have hF := vidread_ok p q a m h ha
  refine ⟨([p,if a = 7 then 0 else q],m),_,.video rfl rfl _ _ _ ⟨h.pos,?_,h.len,h.mem⟩,fun h => absurd h (by dsimp only; decide),chRd6 nm b 32 dat hF⟩
  have := h.hit
  split <;> omega
 ·subst hk
  obtain ⟨v,hF⟩ := sndrd_ex x y hx hy a ha
  exact ⟨(vo2 x y,[]),v,.sound rfl rfl _ _ hx hy,fun h => absurd h (by dsimp only; decide),chRd7 nm b 8 dat hF⟩
 ·subst hk
  obtain ⟨e',v,h2,hF⟩ := drvrd_ex e m nd h a ha
  exact ⟨(dr10 e',m),v,.drive nd rfl rfl _ _ h2,fun h => absurd h (by dsimp only; decide),chRd8 nm b 4 dat hF⟩
theorem chWrite_ex (c:Chp) (d:Dv) (hd:DvOk c d) (a v:Int) (ha:0 ≤ a∧a < c.size):∃ d':Dv,DvOk c d'∧FnE Tryz.prog 72 [.agg (chV c),.agg (dvC d),I a,I v] [] (.agg (dvC d')) []:=by
 obtain ⟨nm,k,b,s,dat⟩ := c
 rcases hd with ⟨z,hk,hs,h1,m,hm,hb⟩ | ⟨nb,hk,hs,h1,hd,n,hn,m,hm,hb⟩ | ⟨hk,hs,x,y,e,f,h⟩ | ⟨hk,hs,x,y,z,h⟩ | ⟨hk,hs,s1,l,g,f,o,e,n,z,h⟩ | ⟨hk,hs,p,q,m,h⟩ | ⟨hk,hs,x,y,hx,hy⟩ | ⟨nd,hk,hs,e,m,h⟩
 all_goals dsimp only at hk hs ha; subst hs
 ·rcases hk with rfl | rfl
  ·exact ⟨([],m.set a.toNat (v % 256)),.mem z (.inl rfl) rfl h1 _ (by rw [List.length_set]; exact hm) (hb.set _ _ (by omega)),chWr0 nm b dat z h1.2 m hm a ha v⟩
  ·exact ⟨([],m),.mem z (.inr rfl) rfl h1 _ hm hb,chWr1 nm b dat z h1.2 m hm a ha v⟩
 ·subst hk
  by_cases h0:a = 0
  ·have hv:0 ≤ v % 256 % (nb:Int)∧v % 256 % (nb:Int) < nb := ⟨Int.emod_nonneg _ (by omega),Int.emod_lt_of_pos _ (by omega)⟩
   exact ⟨([v % 256 % nb],m),.bank nb rfl rfl h1 hd _ hv _ hm hb,chWr2 nm b dat nb h1 hd n hn m hm a ha v _ _ (by rw [if_pos h0])⟩
  ·exact ⟨([n],m.set (n * 8 + a - 1).toNat (v % 256)),.bank nb rfl rfl h1 hd n hn _ (by rw [List.length_set]; exact hm) (hb.set _ _ (by omega)),chWr2 nm b dat nb h1 hd n hn m hm a ha v _ _ (by rw [if_neg h0])⟩
 ·subst hk
  obtain ⟨x',y',e',h2,hF⟩ := timwr_ex x y e f a v h ha
  exact ⟨([x',y',e',f],[]),.timer rfl rfl _ _ _ _ h2,chWr3 nm b 4 dat hF⟩
 ·subst hk
  obtain ⟨y',z',h2,hF⟩ := prtwr_ex x y z a v h ha
  exact ⟨([x,y',z'],[]),.port rfl rfl _ _ _ h2,chWr4 nm b 2 dat hF⟩
 ·subst hk
  obtain ⟨s',l',e',h2,hF⟩ := serwr_ex s1 l g f o e n z a v h ha
  exact ⟨([s',l',g,f,o,e',n,z],[]),.serial rfl rfl _ _ _ _ _ _ _ _ h2,chWr5 nm b 3 dat hF⟩
 ·subst hk
  have hF := vidwrite_ok p q a v m h
  refine ⟨([p,q],if 0 ≤ a∧a < 32∧(a < 5∨7 < a) then m.set a.toNat (v % 2 ^ 8) else m),.video rfl rfl _ _ _ ⟨h.pos,h.hit,?_,?_⟩,chWr6 nm b 32 dat hF⟩
  ·split
   ·rw [List.length_set]; exact h.len
   ·exact h.len
  ·split
   ·exact h.mem.set _ _ (by omega)
   ·exact h.mem
 ·subst hk
  obtain ⟨x',y',h2,h3,hF⟩ := sndwr_ex x y hx hy a v ha
  exact ⟨(vo2 x' y',[]),.sound rfl rfl _ _ h2 h3,chWr7 nm b 8 dat hF⟩
 ·subst hk
  obtain ⟨e',h2,hF⟩ := drvwr_ex e m nd h a v ha
  exact ⟨(dr10 e',m),.drive nd rfl rfl _ _ h2,chWr8 nm b 4 dat hF⟩
def skipV (c:Chp) (t:Nat) (d:Dv):Dv :=
 if c.kind = 3 then match d.1 with
  | [x,y,a,f] => (skip4 x y a f t,[])
  | _ => d
 else if c.kind = 5 then match d.1 with
  | [s,l,g,f,o,a,n,z] => (serSkip s l g f o a n z t,[])
  | _ => d
 else if c.kind = 6 then match d.1 with
  | [p,q] => ([vpos p t,vhitN d.2 p q t],d.2)
  | _ => d
 else if c.kind = 7 then match d.1 with
  | [p,v,r,e,f,w,p',v',r',e',f',w'] => (vo2 (Vo.ticks t ⟨p,v,r,e,f,w⟩) (Vo.ticks t ⟨p',v',r',e',f',w'⟩),[])
  | _ => d
 else if c.kind = 8 then match d.1 with
  | [k,u,e,s,i,l,a,r,o,x] => (dr10 (Dr.skip t t ⟨k,u,e,s,i,l,a,r,o,x⟩ d.2).1,(Dr.skip t t ⟨k,u,e,s,i,l,a,r,o,x⟩ d.2).2)
  | _ => d
 else d
theorem skip4_ok (x y a f:Int) (h:TimOk x y a f) (t:Int):∃ x' y' a' f',skip4 x y a f t = [x',y',a',f']∧TimOk x' y' a' f':=by
 unfold skip4
 have hr1 := Int.emod_nonneg (t - x - 1) (show y + 1 ≠ 0 by omega)
 have hr2 := Int.emod_lt_of_pos (t - x - 1) (show 0 < y + 1 by omega)
 (repeat' split) <;> exact ⟨_,_,_,_,rfl,by omega⟩
theorem serSkip_ok (s l g f o a n z:Int) (h:SerOk s l g f o a n z) (t:Int):∃ l' n' z',serSkip s l g f o a n z t = [s,l',g,f,o,a,n',z']∧SerOk s l' g f o a n' z':=by
 unfold serSkip
 (repeat' split) <;> exact ⟨_,_,_,rfl,by omega⟩
theorem chSkip_ok (c:Chp) (d:Dv) (hd:DvOk c d) (t:Nat) (ht:t ≤ 5120):DvOk c (skipV c t d)∧FnE Tryz.prog 28 [.agg (chV c),.agg (dvC d),I t] [] (.agg (dvC (skipV c t d))) []:=by
 obtain ⟨nm,k,b,s,dat⟩ := c
 rcases hd with ⟨z,hk,hs,h1,m,hm,hb⟩ | ⟨nb,hk,hs,h1,hd,n,hn,m,hm,hb⟩ | ⟨hk,hs,x,y,e,f,h⟩ | ⟨hk,hs,x,y,z,h⟩ | ⟨hk,hs,s1,l,g,f,o,e,n,z,h⟩ | ⟨hk,hs,p,q,m,h⟩ | ⟨hk,hs,x,y,hx,hy⟩ | ⟨nd,hk,hs,e,m,h⟩
 all_goals dsimp only at hk hs; subst hs
 ·have e:skipV ⟨nm,k,b,z,dat⟩ t ([],m) = ([],m) := by unfold skipV; dsimp only; rcases hk with rfl | rfl <;> rfl
  rw [e]
  exact ⟨.mem z hk rfl h1 m hm hb,chSk0 nm b dat k z hk h1.2 m hm t⟩
 ·subst hk
  exact ⟨.bank nb rfl rfl h1 hd n hn m hm hb,chSk2 nm b dat nb h1 hd n hn m hm t⟩
 ·subst hk
  have hF := chSk3 nm b 4 dat (timskip_ok x y e f t [] h (by omega))
  obtain ⟨x',y',e',f',he,h2⟩ := skip4_ok x y e f h t
  refine ⟨?_,hF⟩
  show DvOk _ (skip4 x y e f t,[])
  rw [he]
  exact .timer rfl rfl _ _ _ _ h2
 ·subst hk
  have hF := prtin x y z x [] h
  rw [show x % 2 ^ 8 = x by omega] at hF
  exact ⟨.port rfl rfl _ _ _ h,chSk4 nm b 2 dat hF⟩
 ·subst hk
  have hF := chSk5 nm b 3 dat (serskip_ok s1 l g f o e n z t [] h)
  obtain ⟨l',n',z',he,h2⟩ := serSkip_ok s1 l g f o e n z h t
  refine ⟨?_,hF⟩
  show DvOk _ (serSkip s1 l g f o e n z t,[])
  rw [he]
  exact .serial rfl rfl _ _ _ _ _ _ _ _ h2
 ·subst hk
  have hF := vidskip_ok p q t m h
  rw [show vrounds (t:Int) = t by unfold vrounds; rw [if_neg (by omega)]; omega] at hF
  exact ⟨.video rfl rfl _ _ _ ⟨vpos_lt _ _,vhitN_lt _ _ _ h.hit _,h.len,h.mem⟩,chSk6 nm b 32 dat hF⟩
 ·subst hk
  have hF := sndskip_ok x y t [] hx hy
  rw [show (min (t:Int) 10000000).toNat = t by omega] at hF
  exact ⟨.sound rfl rfl _ _ (Vo.ticks_ok _ hx _) (Vo.ticks_ok _ hy _),chSk7 nm b 8 dat hF⟩
 ·subst hk
  have hF := drvskip e m nd t h (by omega)
  rw [Int.toNat_natCast] at hF
  exact ⟨.drive nd rfl rfl _ _ (Dr.skip_ok _ _ _ _ _ h),chSk8 nm b 4 dat hF⟩
end Go.Proofs.YtonhglhdlgbcnacGreat.Calc
namespace Go.Proofs.YtonhglhdlgbcnacGreat.Calc
open Go
set_option linter.unusedVariables false
set_option linter.unusedSimpArgs false
theorem emod_shift (x t m:Int) (hm:0 < m) (hx:0 ≤ x) (ht:0 ≤ t):(x + t) % m = if x % m + t < m then x % m + t else (x % m + t - m) % m:=by
 have h0 := Int.emod_nonneg x (show m ≠ 0 by omega)
 have h1:(x + t) % m = (x % m + t) % m := by rw [Int.emod_add_emod]
 rw [h1]
 split
 ·exact Int.emod_eq_of_lt (by omega) (by omega)
 ·rw [Int.sub_emod_right]
theorem skip4_add (x y a f:Int) (h:TimOk x y a f) (s t:Nat):∀ x' y' a' f',skip4 x y a f s = [x',y',a',f']→skip4 x y a f ((s:Int) + t) = skip4 x' y' a' f' t:=by
 intro x' y' a' f' he
 have hm := emod_shift ((s:Int) - x - 1) t (y + 1) (by omega)
 have hr1 := Int.emod_nonneg ((s:Int) - x - 1) (show y + 1 ≠ 0 by omega)
 have hr2 := Int.emod_lt_of_pos ((s:Int) - x - 1) (show 0 < y + 1 by omega)
 unfold skip4 at he ⊢
 by_cases hs:(s:Int) ≤ 0
 ·rw [if_pos hs] at he
  simp only [List.cons.injEq,and_true] at he
  obtain ⟨rfl,rfl,rfl,rfl⟩ := he
  have:(s:Int) = 0 := by omega
  rw [this,Int.zero_add]
 ·rw [if_neg hs] at he
  by_cases hc:a % 2 = 0
  ·rw [if_pos hc] at he
   simp only [List.cons.injEq,and_true] at he
   obtain ⟨rfl,rfl,rfl,rfl⟩ := he
   rw [if_neg (by omega),if_pos hc]
   split <;> first | rfl | rw [if_pos hc]
  ·rw [if_neg hc] at he
   by_cases hx:(s:Int) ≤ x
   ·rw [if_pos hx] at he
    simp only [List.cons.injEq,and_true] at he
    obtain ⟨rfl,rfl,rfl,rfl⟩ := he
    rw [if_neg (by omega),if_neg hc]
    by_cases ht:(t:Int) ≤ 0
    ·rw [if_pos ht,if_pos (by omega),show (t:Int) = 0 by omega,Int.add_zero]
    ·rw [if_neg ht,if_neg hc]
     by_cases hst:(s:Int) + t ≤ x
     ·rw [if_pos hst,if_pos (show (t:Int) ≤ x - s by omega),Int.sub_sub]
     ·rw [if_neg hst,if_neg (show ¬ (t:Int) ≤ x - s by omega),show (s:Int) + t - x - 1 = t - (x - s) - 1 by omega]
   ·rw [if_neg hx] at he
    rw [if_neg (by omega),if_neg hc,if_neg (by omega)]
    by_cases hp:a / 2 % 2 = 1
    ·rw [if_pos hp] at he ⊢
     simp only [List.cons.injEq,and_true] at he
     obtain ⟨rfl,rfl,rfl,rfl⟩ := he
     have hm := hm (by omega) (by omega)
     rw [show (s:Int) + t - x - 1 = s - x - 1 + t by omega,hm]
     generalize (((s:Int) - x - 1) % (y + 1)) = r at *
     by_cases ht:(t:Int) ≤ 0
     ·rw [if_pos ht,if_pos (by omega),show (t:Int) = 0 by omega,Int.add_zero]
     ·rw [if_neg ht,if_neg hc]
      by_cases hq:r + (t:Int) < y + 1
      ·rw [if_pos hq,if_pos (show (t:Int) ≤ y - r by omega),show y - (r + (t:Int)) = y - r - t by omega]
      ·rw [if_neg hq,if_neg (show ¬ (t:Int) ≤ y - r by omega),if_pos hp,show (t:Int) - (y - r) - 1 = r + t - (y + 1) by omega]
    ·rw [if_neg hp] at he ⊢
     simp only [List.cons.injEq,and_true] at he
     obtain ⟨rfl,rfl,rfl,rfl⟩ := he
     have e2:(a - a % 2) % 2 = 0 := by omega
     split <;> first | rfl | rw [if_pos e2]
theorem serSkip_add (s l g f o a n z:Int) (h:SerOk s l g f o a n z) (t u:Nat):∀ l' n' z',serSkip s l g f o a n z t = [s,l',g,f,o,a,n',z']→serSkip s l g f o a n z ((t:Int) + u) = serSkip s l' g f o a n' z' u:=by
 intro l' n' z' he
 unfold serSkip at he ⊢
 by_cases h1:(t:Int) ≤ 0∨l = 0
 ·rw [if_pos h1] at he
  simp only [List.cons.injEq,and_true,true_and] at he
  obtain ⟨rfl,rfl,rfl⟩ := he
  by_cases hl:l = 0
  ·rw [if_pos (.inr hl),if_pos (.inr hl)]
  ·rw [show (t:Int) = 0 by omega,Int.zero_add]
 ·rw [if_neg h1] at he
  rw [if_neg (by omega)]
  by_cases h2:(t:Int) < l
  ·rw [if_pos h2] at he
   simp only [List.cons.injEq,and_true,true_and] at he
   obtain ⟨rfl,rfl,rfl⟩ := he
   by_cases hu:(u:Int) ≤ 0
   ·rw [if_pos (by omega),if_pos (.inl hu),show (u:Int) = 0 by omega,Int.add_zero]
   ·by_cases h3:(t:Int) + u < l
    ·rw [if_pos h3,if_neg (by omega),if_pos (by omega),Int.sub_sub]
    ·rw [if_neg h3,if_neg (by omega),if_neg (by omega)]
  ·rw [if_neg h2] at he
   simp only [List.cons.injEq,and_true,true_and] at he
   obtain ⟨rfl,rfl,rfl⟩ := he
   rw [if_neg (by omega),if_pos (.inr rfl)]
theorem vpos_add (p:Int) (s t:Nat):vpos (vpos p s) t = vpos p (s + t) := by unfold vpos; omega
theorem vhitN_add (m:List Int) (p h:Int) (s:Nat):∀ t:Nat,vhitN m (vpos p s) (vhitN m p h s) t = vhitN m p h (s + t):=by
 intro t
 induction t with
 | zero => rfl
 | succ t ih =>
  show (if vhit m (vpos (vpos p s) (t + 1)) then 1 else vhitN m (vpos p s) (vhitN m p h s) t) = (if vhit m (vpos p (s + t + 1)) then 1 else vhitN m p h (s + t))
  rw [ih,vpos_add,Nat.add_assoc]
theorem Dr.skip_one (k:Nat) (a:Dr) (m:List Int) (hl:0 ≤ a.l):Dr.skip (k + 1) ((k + 1:Nat):Int) a m = Dr.skip k k (Dr.skip 1 1 a m).1 (Dr.skip 1 1 a m).2:=by
 have h0:∀ (j:Int) (b:Dr) (q:List Int),b.c ≤ 0→∀ f,Dr.skip f j b q = (b,q) := fun j b q hb f => by
  cases f with
  | zero => rfl
  | succ f => simp only [Dr.skip]; rw [if_pos (.inr hb)]
 have hz:∀ (b:Dr) (q:List Int) (f:Nat) (j:Int),j ≤ 0→Dr.skip f j b q = (b,q) := fun b q f j hj => by
  cases f with
  | zero => rfl
  | succ f => simp only [Dr.skip]; rw [if_pos (.inl hj)]
 by_cases hc:a.c ≤ 0
 ·rw [h0 _ _ _ hc,h0 1 a m hc]; exact (h0 _ _ _ hc _).symm
 ·by_cases h3:3 ≤ a.c∧a.k = 0
  ·have e1:∀ (f:Nat) (j:Int),0 < j→Dr.skip (f + 1) j a m = ({ a with c := 0 },m) := fun f j hj => by
    simp only [Dr.skip]; rw [if_neg (by omega),if_pos h3]
   rw [e1 k _ (by omega),e1 0 1 (by omega)]
   exact (h0 _ _ _ (Int.le_refl 0) _).symm
  ·have e1:Dr.skip 1 1 a m = if 1 < a.l then ({ a with l := a.l - 1 },m) else (Dr.done { a with l := 0 } m,Dr.doneM { a with l := 0 } m):=by
    simp only [Dr.skip]
    rw [if_neg (by omega),if_neg h3]
   have e2:Dr.skip (k + 1) ((k + 1:Nat):Int) a m = if ((k + 1:Nat):Int) < a.l then ({ a with l := a.l - ((k + 1:Nat):Int) },m) else Dr.skip k (((k + 1:Nat):Int) - max 1 a.l) (Dr.done { a with l := 0 } m) (Dr.doneM { a with l := 0 } m):=by
    simp only [Dr.skip]
    rw [if_neg (by omega),if_neg h3]
   rw [e1,e2]
   by_cases h1:1 < a.l
   ·rw [if_pos h1]
    dsimp only
    cases k with
    | zero =>
     rw [if_pos (by omega)]
     rfl
    | succ k =>
     have e3:Dr.skip (k + 1) ((k + 1:Nat):Int) { a with l := a.l - 1 } m = if ((k + 1:Nat):Int) < a.l - 1 then ({ a with l := a.l - 1 - ((k + 1:Nat):Int) },m) else Dr.skip k (((k + 1:Nat):Int) - max 1 (a.l - 1)) (Dr.done { a with l := 0 } m) (Dr.doneM { a with l := 0 } m):=by
      simp only [Dr.skip]
      rw [if_neg (by omega),if_neg (by omega)]
     rw [e3]
     by_cases h2:((k + 1 + 1:Nat):Int) < a.l
     ·rw [if_pos h2,if_pos (by omega)]
      rw [show a.l - 1 - ((k + 1:Nat):Int) = a.l - ((k + 1 + 1:Nat):Int) by omega]
     ·rw [if_neg h2,if_neg (by omega)]
      rw [show (((k + 1 + 1:Nat):Int) - max 1 a.l) = (((k + 1:Nat):Int) - max 1 (a.l - 1)) by omega]
      exact Dr.skip_fuel _ _ _ _ _ (by omega) (by omega)
   ·rw [if_neg h1,if_neg (by omega)]
    dsimp only
    rw [show (((k + 1:Nat):Int) - max 1 a.l) = (k:Int) by omega]
theorem Dr.skip_add (nd:Nat) (t:Nat):∀ (s:Nat) (a:Dr) (m:List Int),a.Ok m nd→Dr.skip (s + t) ((s + t:Nat):Int) a m = Dr.skip t t (Dr.skip s s a m).1 (Dr.skip s s a m).2:=by
 intro s
 induction s with
 | zero => intro a m H; rw [Nat.zero_add]; rfl
 | succ s ih =>
  intro a m H
  rw [show s + 1 + t = (s + t) + 1 by omega,Dr.skip_one _ _ _ H.l.1,ih _ _ (Dr.skip_ok _ _ _ _ _ H),Dr.skip_one s _ _ H.l.1]
theorem skipV_add (c:Chp) (d:Dv) (hd:DvOk c d) (s t:Nat):skipV c t (skipV c s d) = skipV c (s + t) d:=by
 obtain ⟨nm,k,b,z0,dat⟩ := c
 rcases hd with ⟨z,hk,hs,h1,m,hm,hb⟩ | ⟨nb,hk,hs,h1,hd,n,hn,m,hm,hb⟩ | ⟨hk,hs,x,y,e,f,h⟩ | ⟨hk,hs,x,y,z,h⟩ | ⟨hk,hs,s1,l,g,f,o,e,n,z,h⟩ | ⟨hk,hs,p,q,m,h⟩ | ⟨hk,hs,x,y,hx,hy⟩ | ⟨nd,hk,hs,e,m,h⟩
 all_goals dsimp only at hk hs; subst hs
 ·rcases hk with rfl | rfl <;> rfl
 ·subst hk; rfl
 ·subst hk
  obtain ⟨x',y',e',f',he,h2⟩ := skip4_ok x y e f h s
  have := skip4_add x y e f h s t x' y' e' f' he
  show skipV _ t (skip4 x y e f s,[]) = (skip4 x y e f ((s + t:Nat):Int),[])
  rw [he,Int.natCast_add,this]; rfl
 ·subst hk; rfl
 ·subst hk
  obtain ⟨l',n',z',he,h2⟩ := serSkip_ok s1 l g f o e n z h s
  have := serSkip_add s1 l g f o e n z h s t l' n' z' he
  show skipV _ t (serSkip s1 l g f o e n z s,[]) = (serSkip s1 l g f o e n z ((s + t:Nat):Int),[])
  rw [he,Int.natCast_add,this]; rfl
 ·subst hk
  show ([vpos (vpos p s) t,vhitN m (vpos p s) (vhitN m p q s) t],m) = ([vpos p (s + t),vhitN m p q (s + t)],m)
  rw [vpos_add,vhitN_add]
 ·subst hk
  show (vo2 (Vo.ticks t (Vo.ticks s x)) (Vo.ticks t (Vo.ticks s y)),([]:List Int)) = (vo2 (Vo.ticks (s + t) x) (Vo.ticks (s + t) y),[])
  rw [Vo.ticks_add,Vo.ticks_add]
 ·subst hk
  have := Dr.skip_add nd t s e m h
  show (dr10 (Dr.skip t t (Dr.skip s s e m).1 (Dr.skip s s e m).2).1,(Dr.skip t t (Dr.skip s s e m).1 (Dr.skip s s e m).2).2) = (dr10 (Dr.skip (s + t) ((s + t:Nat):Int) e m).1,(Dr.skip (s + t) ((s + t:Nat):Int) e m).2)
  rw [this]
end Go.Proofs.YtonhglhdlgbcnacGreat.Calc
namespace Go.Proofs.YtonhglhdlgbcnacGreat.Calc
open Go Code
set_option linter.unusedSimpArgs false
set_option linter.unusedVariables false
set_option maxRecDepth 20000
set_option maxHeartbeats 4000000
attribute [local irreducible] WOpsT AW AK RK AKW UK UC
def stV (l:List Stp):V := match l with
 | [] => .c (.slice none 0 0)
 | a :: l => .sl 4 ((a :: l).map stC)
def cyQ (c:Cyc):List V := [I c.bus,I c.at_,I c.reg,stV c.steps]
instance:Flat cyQ := ⟨fun a x hx => by
 obtain ⟨b,t,r,ss⟩ := a
 cases ss with
 | nil => simp [cyQ,stV] at hx; rcases hx with rfl | rfl | rfl | rfl <;> exact .inl ⟨_,rfl⟩
 | cons s ss => simp [cyQ,stV] at hx; rcases hx with rfl | rfl | rfl | rfl <;> first | exact .inl ⟨_,rfl⟩ | exact .inr ⟨_,_,rfl⟩⟩
theorem sub_rows {α:Type} (f g:α→List V) (e:Nat) (hg:∀ a,(g a).length = e) (hs:∀ a (j:Nat),(∀ y,(g a)[j]? = some y→∃ x,(f a)[j]? = some x∧Sub x y)) (l:List α):Sub (.sl e (l.map f)) (.sl e (l.map g)):=by
 refine .sl (by simp) (fun row hr => ?_) (fun i j b hb => ?_) (fun i j a b ha hb => ?_)
 ·obtain ⟨a,_,rfl⟩ := List.mem_map.1 hr; exact hg a
 ·unfold cellOf at *
  rw [List.getElem?_map] at *
  cases hl:l[i]? with
  | none => rw [hl] at hb; cases hb
  | some a =>
   rw [hl] at hb
   obtain ⟨x,h1,_⟩ := hs a j b hb
   exact ⟨x,h1⟩
 ·unfold cellOf at *
  rw [List.getElem?_map] at *
  cases hl:l[i]? with
  | none => rw [hl] at hb; cases hb
  | some q =>
   rw [hl] at ha hb
   obtain ⟨x,h1,h2⟩ := hs q j b hb
   have ha:(f q)[j]? = some a := ha
   rw [h1] at ha; cases ha; exact h2
def goReads:Nat→List Cyc→List Int→List Cyc×List Int
 | 0,acc,l => (acc,l)
 | n + 1,acc,l => goReads n (acc ++ [⟨1,0,sval l 7,[]⟩]) (srest l 7)
def moreC (l:List Int):Cyc×List Int := if sval l 3 = 0 then (⟨0,0,0,[]⟩,srest l 3) else (⟨sval l 3,1 + sval (srest l 3) 11,sval (srest (srest l 3) 11) 7,[]⟩,srest (srest (srest l 3) 11) 7)
def goMore:Nat→List Cyc→List Int→List Cyc×List Int
 | 0,acc,l => (acc,l)
 | n + 1,acc,l => goMore n (acc ++ [(moreC l).1]) (moreC l).2
def goSteps:Nat→List Int→List Stp×List Int
 | 0,l => ([],l)
 | 1,l => ([(mkStep l).1],(mkStep l).2)
 | _ + 2,l => ([(mkStep l).1,(mkStep (mkStep l).2).1],(mkStep (mkStep l).2).2)
def goFill:List Cyc→List Cyc→List Int→List Cyc×List Int
 | [],acc,l => (acc,l)
 | c :: todo,acc,l => goFill todo (acc ++ [⟨c.bus,c.at_,c.reg,(goSteps (sval l 3).toNat (srest l 3)).1⟩]) (goSteps (sval l 3).toNat (srest l 3)).2
def mkReads (n:Nat) (l:List Int):List Cyc×List Int := goReads n [] l
def mkMore (n:Nat) (l:List Int):List Cyc×List Int := goMore (sval (mkReads n l).2 4).toNat (mkReads n l).1 (srest (mkReads n l).2 4)
def mkCycles (n:Nat) (l:List Int):List Cyc×List Int := goFill (mkMore n l).1 [] (mkMore n l).2
def rwQ (done todo:List Cyc) (b a r:Int) (x:V):List (List V) := done.map cyQ ++ [I b,I a,I r,x] :: todo.map cyQ
end Go.Proofs.YtonhglhdlgbcnacGreat.Calc
