/- Several texts in one (FnChipAll, FnArith, FnAlu, FnDoS, PureCore), for the proof of LawMachParts. No condition beyond those in each lemma. -/
import Derived.Test.YtonhglhdlgbcnabGreatPLawMachPartsM
import Derived.Test.YtonhglhdlgbcnabGreatPLawMachPartsE
import Derived.Test.YtonhglhdlgbcnabGreatPLawMachPartsD
import Derived.Test.YtonhglhdlgbcnabGreatPLawMachPartsF
namespace Go.Proofs.YtonhglhdlgbcnabGreat.Calc
open Go Code
set_option linter.unusedSimpArgs false
set_option linter.unusedVariables false
set_option maxRecDepth 20000
set_option maxHeartbeats 4000000
attribute [local irreducible] WOpsT AW AK RK AKW UK UC
def outF (c:Chp) (d:Dv):Int :=
 if c.kind = 4 then match d.1 with
  | [_,y,z] => bits .and .i64 y z
  | _ => 0
 else if c.kind = 5 then match d.1 with
  | [_,_,_,_,_,_,n,z] => 256 * n + z
  | _ => 0
 else if c.kind = 6 then match d.1 with
  | [p,_] => vcol d.2 p
  | _ => 0
 else if c.kind = 7 then match d.1 with
  | [_,v,_,_,f,_,_,v',_,_,f',_] => v * f + v' * f'
  | _ => 0
 else if c.kind = 8 then match d.1 with
  | [_,t,_,_,_,_,_,_,_,_] => t
  | _ => 0
 else 0
def irqF (c:Chp) (d:Dv):Bool :=
 if c.kind = 3 then match d.1 with
  | [_,_,a,f] => decide (f = 1∧a / 4 % 2 = 1)
  | _ => false
 else if c.kind = 5 then match d.1 with
  | [_,l,_,f,_,a,_,_] => decide ((a % 2 = 1∧f = 1)∨(2 ≤ a∧l = 0))
  | _ => false
 else if c.kind = 8 then match d.1 with
  | [_,_,_,_,_,_,_,r,_,x] => decide (x = 1∧r = 1)
  | _ => false
 else false
noncomputable def nextF (c:Chp) (d:Dv):Int :=
 if c.kind = 3 then match d.1 with
  | [x,_,a,_] => if a % 2 = 0 then 100000 else x
  | _ => 0
 else if c.kind = 5 then match d.1 with
  | [_,l,_,_,_,_,_,_] => if l = 0 then 100000 else l - 1
  | _ => 0
 else if c.kind = 6 then match d.1 with
  | [p,_] => (nextOf d.2 p).choose
  | _ => 0
 else if c.kind = 7 then match d.1 with
  | [p,v,r,e,f,w,p',v',r',e',f',w'] => min (Vo.quiet ⟨p,v,r,e,f,w⟩) (Vo.quiet ⟨p',v',r',e',f',w'⟩)
  | _ => 0
 else if c.kind = 8 then match d.1 with
  | [_,_,a,_,_,l,_,_,_,_] => if a = 0 then 100000 else max 1 l - 1
  | _ => 0
 else 100000
def inF (c:Chp) (d:Dv) (v:Int):Dv :=
 if c.kind = 4 then match d.1 with
  | [_,y,z] => ([v % 2 ^ 8,y,z],[])
  | _ => d
 else if c.kind = 5 then match d.1 with
  | [s,l,g,f,o,e,n,z] => (if f = 1 then [s,l,g,f,1,e,n,z] else [s,l,v % 2 ^ 8,1,o,e,n,z],[])
  | _ => d
 else if c.kind = 8 then match d.1 with
  | [k,u,e,s,i,l,a,r,o,x] => (dr10 (Dr.change ⟨k,u,e,s,i,l,a,r,o,x⟩ (d.2.length / 256) v),d.2)
  | _ => d
 else skipV c 0 d
theorem Dr.change_ok (a:Dr) (m:List Int) (nd:Nat) (k:Int) (H:a.Ok m nd):(a.change nd k).Ok m nd:=by
 unfold Dr.change
 have h1 := H.k
 (repeat' split) <;> first | exact H | exact { H with k := by dsimp only; omega }
theorem inF_ok (c:Chp) (d:Dv) (hd:DvOk c d) (v:Int):DvOk c (inF c d v)∧FnE Tryz.prog 110 [.agg (chV c),.agg (dvC d),I v] [] (.agg (dvC (inF c d v))) []:=by
 obtain ⟨hk0,hs0⟩ := chSkip_ok c d hd 0 (by decide)
 obtain ⟨nm,k,b,s,dat⟩ := c
 rcases hd with ⟨z,hk,hs,h1,m,hm,hb⟩ | ⟨nb,hk,hs,h1,hd,n,hn,m,hm,hb⟩ | ⟨hk,hs,x,y,e,f,h⟩ | ⟨hk,hs,x,y,z,h⟩ | ⟨hk,hs,s1,l,g,f,o,e,n,z,h⟩ | ⟨hk,hs,p,q,m,h⟩ | ⟨hk,hs,x,y,hx,hy⟩ | ⟨nd,hk,hs,e,m,h⟩
 all_goals dsimp only at hk hs; subst hs
 ·have e0:inF ⟨nm,k,b,z,dat⟩ ([],m) v = skipV ⟨nm,k,b,z,dat⟩ 0 ([],m) := by unfold inF; dsimp only; rcases hk with rfl | rfl <;> rfl
  rw [e0]
  exact ⟨hk0,chIn0 nm b z dat k (by omega) hs0⟩
 ·subst hk
  exact ⟨hk0,chIn0 nm b 9 dat 2 (by decide) hs0⟩
 ·subst hk
  exact ⟨hk0,chIn3 nm b 4 dat hs0⟩
 ·subst hk
  exact ⟨.port rfl rfl _ _ _ (by omega),chIn4 nm b 2 dat (prtin x y z v [] h)⟩
 ·subst hk
  have hF := chIn5 nm b 3 dat (serin_ok s1 l g f o e n z v [] h)
  refine ⟨?_,hF⟩
  show DvOk _ (if f = 1 then _ else _,[])
  split
  ·exact .serial rfl rfl _ _ _ _ _ _ _ _ (by omega)
  ·exact .serial rfl rfl _ _ _ _ _ _ _ _ (by omega)
 ·subst hk
  exact ⟨hk0,chIn6 nm b 32 dat hs0⟩
 ·subst hk
  exact ⟨hk0,chIn7 nm b 8 dat hs0⟩
 ·subst hk
  have e0:inF ⟨nm,8,b,4,dat⟩ (dr10 e,m) v = (dr10 (e.change nd v),m):=by
   show (dr10 (Dr.change e (m.length / 256) v),m) = _
   rw [h.len,Nat.mul_div_cancel_left _ (by decide)]
  rw [e0]
  exact ⟨.drive nd rfl rfl _ _ (Dr.change_ok e m nd v h),chIn8 nm b 4 dat (drvchange e m nd v h)⟩
def WrP (c:Chp) (a v:Int) (d d':Dv):Prop := DvOk c d'∧FnE Tryz.prog 28 [.agg (chV c),.agg (dvC d),I a,I v] [] (.agg (dvC d')) []∧(c.kind = 0→d' = (d.1,d.2.set a.toNat (v % 256)))∧(c.kind = 1→d' = d)∧(c.kind = 2→d'.2 = d.2∨∃ k,d'.2 = d.2.set k (v % 256))
theorem chWr_ex (c:Chp) (d:Dv) (hd:DvOk c d) (a v:Int) (ha:0 ≤ a∧a < c.size):∃ d',WrP c a v d d':=by
 by_cases hk2:c.kind ≤ 2
 ·obtain ⟨nm,k,b,s,dat⟩ := c
  rcases hd with ⟨z,hk,hs,h1,m,hm,hb⟩ | ⟨nb,hk,hs,h1,hd,n,hn,m,hm,hb⟩ | ⟨hk,hs,x,y,e,f,h⟩ | ⟨hk,hs,x,y,z,h⟩ | ⟨hk,hs,s1,l,g,f,o,e,n,z,h⟩ | ⟨hk,hs,p,q,m,h⟩ | ⟨hk,hs,x,y,hx,hy⟩ | ⟨nd,hk,hs,e,m,h⟩
  all_goals dsimp only at hk hs hk2 ha
  ·subst hs
   rcases hk with rfl | rfl
   ·exact ⟨([],m.set a.toNat (v % 256)),.mem z (.inl rfl) rfl h1 _ (by rw [List.length_set]; exact hm) (hb.set _ _ (by omega)),chWr0 nm b dat z h1.2 m hm a ha v,fun _ => rfl,fun h => absurd h (by dsimp only; decide),fun h => absurd h (by dsimp only; decide)⟩
   ·exact ⟨([],m),.mem z (.inr rfl) rfl h1 _ hm hb,chWr1 nm b dat z h1.2 m hm a ha v,fun h => absurd h (by dsimp only; decide),fun _ => rfl,fun h => absurd h (by dsimp only; decide)⟩
  ·subst hs; subst hk
   by_cases h0:a = 0
   ·have hv:0 ≤ v % 256 % (nb:Int)∧v % 256 % (nb:Int) < nb := ⟨Int.emod_nonneg _ (by omega),Int.emod_lt_of_pos _ (by omega)⟩
    exact ⟨([v % 256 % nb],m),.bank nb rfl rfl h1 hd _ hv _ hm hb,chWr2 nm b dat nb h1 hd n hn m hm a ha v _ _ (by rw [if_pos h0]),fun h => absurd h (by dsimp only; decide),fun h => absurd h (by dsimp only; decide),fun _ => .inl rfl⟩
   ·exact ⟨([n],m.set (n * 8 + a - 1).toNat (v % 256)),.bank nb rfl rfl h1 hd n hn _ (by rw [List.length_set]; exact hm) (hb.set _ _ (by omega)),chWr2 nm b dat nb h1 hd n hn m hm a ha v _ _ (by rw [if_neg h0]),fun h => absurd h (by dsimp only; decide),fun h => absurd h (by dsimp only; decide),fun _ => .inr ⟨_,rfl⟩⟩
  all_goals omega
 ·obtain ⟨d',h1,h2⟩ := chWrite_ex c d hd a v ha
  exact ⟨d',h1,h2,fun h => by omega,fun h => by omega,fun h => by omega⟩
noncomputable def wrF (c:Chp) (a v:Int) (d:Dv):Dv := open Classical in if h:∃ d',WrP c a v d d' then h.choose else d
theorem wrF_ok (c:Chp) (d:Dv) (hd:DvOk c d) (a v:Int) (ha:0 ≤ a∧a < c.size):WrP c a v d (wrF c a v d):=by
 have h := chWr_ex c d hd a v ha
 unfold wrF; rw [dif_pos h]; exact h.choose_spec
noncomputable def rdF (c:Chp) (a:Int) (d:Dv):Dv×Int := open Classical in if h:∃ p:Dv×Int,DvOk c p.1∧(c.kind ≤ 2→p.1 = d)∧FnE Tryz.prog 29 [.agg (chV c),.agg (dvC d),I a] [] (.tup [.agg (dvC p.1),I p.2]) [] then h.choose else (d,0)
theorem rdF_ok (c:Chp) (d:Dv) (hd:DvOk c d) (a:Int) (ha:0 ≤ a∧a < c.size):DvOk c (rdF c a d).1∧(c.kind ≤ 2→(rdF c a d).1 = d)∧FnE Tryz.prog 29 [.agg (chV c),.agg (dvC d),I a] [] (.tup [.agg (dvC (rdF c a d).1),I (rdF c a d).2]) []:=by
 have h:∃ p:Dv×Int,DvOk c p.1∧(c.kind ≤ 2→p.1 = d)∧FnE Tryz.prog 29 [.agg (chV c),.agg (dvC d),I a] [] (.tup [.agg (dvC p.1),I p.2]) []:=by
  obtain ⟨d',v,h1,h2,h3⟩ := chRead_ex c d hd a ha
  exact ⟨(d',v),h1,h2,h3⟩
 unfold rdF; rw [dif_pos h]; exact h.choose_spec
theorem chShow_ok (c:Chp) (d:Dv) (hd:DvOk c d):FnE Tryz.prog 68 [.agg (chV c),.agg (dvC d)] [] (I (outF c d)) []∧FnE Tryz.prog 116 [.agg (chV c),.agg (dvC d)] [] (.c (.bool (irqF c d))) []∧True:=by
 obtain ⟨nm,k,b,s,dat⟩ := c
 rcases hd with ⟨z,hk,hs,h1,m,hm,hb⟩ | ⟨nb,hk,hs,h1,hd,n,hn,m,hm,hb⟩ | ⟨hk,hs,x,y,e,f,h⟩ | ⟨hk,hs,x,y,z,h⟩ | ⟨hk,hs,s1,l,g,f,o,e,n,z,h⟩ | ⟨hk,hs,p,q,m,h⟩ | ⟨hk,hs,x,y,hx,hy⟩ | ⟨nd,hk,hs,e,m,h⟩
 all_goals dsimp only at hk hs; subst hs
 ·have eo:outF ⟨nm,k,b,z,dat⟩ ([],m) = 0 := by unfold outF; dsimp only; rcases hk with rfl | rfl <;> rfl
  have ei:irqF ⟨nm,k,b,z,dat⟩ ([],m) = false := by unfold irqF; dsimp only; rcases hk with rfl | rfl <;> rfl
  rw [eo,ei]
  exact ⟨chOt0 nm b z dat k (by omega),chIq0 nm b z dat k (by omega),trivial⟩
 ·subst hk
  exact ⟨chOt0 nm b 9 dat 2 (by decide),chIq0 nm b 9 dat 2 (by decide),trivial⟩
 ·subst hk
  exact ⟨chOt0 nm b 4 dat 3 (by decide),chIq3 nm b 4 dat (timirq_ok x y e f [] h),trivial⟩
 ·subst hk
  exact ⟨chOt4 nm b 2 dat (prtout x y z [] h),chIq0 nm b 2 dat 4 (by decide),trivial⟩
 ·subst hk
  exact ⟨chOt5 nm b 3 dat (serout_ok s1 l g f o e n z [] h),chIq5 nm b 3 dat (serirq_ok s1 l g f o e n z [] h),trivial⟩
 ·subst hk
  exact ⟨chOt6 nm b 32 dat (vidout_ok p q m h),chIq0 nm b 32 dat 6 (by decide),trivial⟩
 ·subst hk
  exact ⟨chOt7 nm b 8 dat (sndout_ok x y [] hx hy),chIq0 nm b 8 dat 7 (by decide),trivial⟩
 ·subst hk
  exact ⟨chOt8 nm b 4 dat (drvout e m nd h),chIq8 nm b 4 dat (drvirq_ok e m nd h),trivial⟩
theorem byte_ind {p:Int→Prop} [DecidablePred p] (h:(List.range 256).all (fun n => decide (p (n:Int))) = true) (v:Int) (hv:0 ≤ v∧v < 256):p v:=by
 have := List.all_eq_true.1 h v.toNat (List.mem_range.2 (by omega))
 have h2 := of_decide_eq_true this
 rwa [show ((v.toNat:Nat):Int) = v by omega] at h2
theorem width8:FnE Tryz.prog 69 [I 8] [] (I 8) [] := width_ok 8
theorem add8 (a b c:Int) (ha:0 ≤ a∧a < 256) (hb:0 ≤ b∧b < 256) (hc:c = 0∨c = 1):FnE Tryz.prog 180 [I a,I b,I c,I 8] [] (.tup [I ((a + b + c) % 256),I ((a + b + c) / 256)]) []:=by
 refine N.fnC Tryz.func180 k180 fun Q hQ hQN => ?_
 have e1:c % 2 = c := by omega
 have e2:(a + b + c) / 2 ^ min 8 IntKind.i64.bits = (a + b + c) / 256 := rfl
 repeat' (first | rw [bits1] | rw [e1] | rw [e2] | (show WC _ _ _ _ _ _ _ _ _; first | refine T.call0 e69 rfl width8 ?_ | refine T.call0 e27 rfl (low_in a 8 8 rfl (by decide) ha) ?_ | refine T.call0 e27 rfl (low_in b 8 8 rfl (by decide) hb) ?_ | refine T.call0 e27 rfl (low_lit (a + b + c) 8 8 rfl (by decide)) ?_) | exact ⟨⟩ | intro (K:KT) hK | intro hcd | (refine go1 ?_ ?_ <;> try clear hK K) | fail)
 exact WS.tup2 rfl rfl rfl
theorem sub8 (a b c:Int) (ha:0 ≤ a∧a < 256) (hb:0 ≤ b∧b < 256) (hc:c = 0∨c = 1):FnE Tryz.prog 183 [I a,I b,I c,I 8] [] (.tup [I ((a - b - c) % 256),I (if a - b - c < 0 then 1 else 0)]) []:=by
 refine N.fnC Tryz.func183 k183 fun Q hQ hQN => ?_
 have e1:c % 2 = c := by omega
 have e2:IntKind.wrap .i64 (1 * 2 ^ min 8 IntKind.i64.bits) = 256 := rfl
 by_cases h:a - b - c < 0
 ·rw [if_pos h] at hQ hQN
  repeat' (first | rw [bits1] | rw [e1] | rw [e2] | (show WC _ _ _ _ _ _ _ _ _; first | refine T.call0 e69 rfl width8 ?_ | refine T.call0 e27 rfl (low_in a 8 8 rfl (by decide) ha) ?_ | refine T.call0 e27 rfl (low_in b 8 8 rfl (by decide) hb) ?_) | exact ⟨⟩ | intro (K:KT) hK | intro hcd | (refine go1 ?_ ?_ <;> try clear hK K) | fail)
  exact WS.tup2 rfl (by congr 1; omega) rfl
 ·rw [if_neg h] at hQ hQN
  repeat' (first | rw [bits1] | rw [e1] | rw [e2] | (show WC _ _ _ _ _ _ _ _ _; first | refine T.call0 e69 rfl width8 ?_ | refine T.call0 e27 rfl (low_in a 8 8 rfl (by decide) ha) ?_ | refine T.call0 e27 rfl (low_in b 8 8 rfl (by decide) hb) ?_) | exact ⟨⟩ | intro (K:KT) hK | intro hcd | (refine go1 ?_ ?_ <;> try clear hK K) | fail)
  exact WS.tup2 rfl (by congr 1; omega) rfl
theorem or_rol (v c:Int) (hv:0 ≤ v∧v < 256) (hc:c = 0∨c = 1):bits .or .i64 (IntKind.wrap .i64 (v * 2 ^ min 1 IntKind.i64.bits)) c = 2 * v + c:=by
 rcases hc with rfl | rfl
 ·exact byte_ind (p := fun v => bits .or .i64 (IntKind.wrap .i64 (v * 2 ^ min 1 IntKind.i64.bits)) 0 = 2 * v + 0) (by decide +kernel) v hv
 ·exact byte_ind (p := fun v => bits .or .i64 (IntKind.wrap .i64 (v * 2 ^ min 1 IntKind.i64.bits)) 1 = 2 * v + 1) (by decide +kernel) v hv
theorem or_ror (v c:Int) (hv:0 ≤ v∧v < 256) (hc:c = 0∨c = 1):bits .or .i64 v (IntKind.wrap .i64 (c * 2 ^ min 8 IntKind.i64.bits)) = v + c * 256:=by
 rcases hc with rfl | rfl
 ·exact byte_ind (p := fun v => bits .or .i64 v (IntKind.wrap .i64 (0 * 2 ^ min 8 IntKind.i64.bits)) = v + 0 * 256) (by decide +kernel) v hv
 ·exact byte_ind (p := fun v => bits .or .i64 v (IntKind.wrap .i64 (1 * 2 ^ min 8 IntKind.i64.bits)) = v + 1 * 256) (by decide +kernel) v hv
theorem rol8 (v c:Int) (hc:c = 0∨c = 1):FnE Tryz.prog 184 [I v,I c,I 8] [] (.tup [I ((2 * (v % 256) + c) % 256),I ((2 * (v % 256) + c) / 256)]) []:=by
 refine N.fnC Tryz.func184 k184 fun Q hQ hQN => ?_
 have e1:c % 2 = c := by omega
 have hl := low_lit v 8 8 rfl (by decide)
 rw [show v % 2 ^ 8 = v % 256 from rfl] at hl
 obtain ⟨u,hu⟩:∃ u,v % 256 = u := ⟨_,rfl⟩
 rw [hu] at hl hQ hQN
 have hv:0 ≤ u∧u < 256 := by omega
 have e2:(2 * u + c) / 2 ^ min 8 IntKind.i64.bits = (2 * u + c) / 256 := rfl
 repeat' (first | rw [bits1] | rw [e1] | rw [or_rol u c hv hc] | rw [e2] | (show WC _ _ _ _ _ _ _ _ _; first | refine T.call0 e69 rfl width8 ?_ | refine T.call0 e27 rfl hl ?_ | refine T.call0 e27 rfl (low_lit (2 * u + c) 8 8 rfl (by decide)) ?_) | exact ⟨⟩ | intro (K:KT) hK | intro hcd | (refine go1 ?_ ?_ <;> try clear hK K) | fail)
 exact WS.tup2 rfl rfl rfl
theorem ror8 (v c:Int) (hc:c = 0∨c = 1):FnE Tryz.prog 185 [I v,I c,I 8] [] (.tup [I ((v % 256 + c * 256) / 2),I ((v % 256 + c * 256) % 2)]) []:=by
 refine N.fnC Tryz.func185 k185 fun Q hQ hQN => ?_
 have e1:c % 2 = c := by omega
 have hl := low_lit v 8 8 rfl (by decide)
 rw [show v % 2 ^ 8 = v % 256 from rfl] at hl
 obtain ⟨u,hu⟩:∃ u,v % 256 = u := ⟨_,rfl⟩
 rw [hu] at hl hQ hQN
 have hv:0 ≤ u∧u < 256 := by omega
 have e2:(u + c * 256) / 2 ^ min 1 IntKind.i64.bits = (u + c * 256) / 2 := rfl
 repeat' (first | rw [bits1] | rw [e1] | rw [or_ror u c hv hc] | rw [e2] | (show WC _ _ _ _ _ _ _ _ _; first | refine T.call0 e69 rfl width8 ?_ | refine T.call0 e27 rfl hl ?_) | exact ⟨⟩ | intro (K:KT) hK | intro hcd | (refine go1 ?_ ?_ <;> try clear hK K) | fail)
 exact WS.tup2 rfl rfl rfl
def sgn8 (v:Int):Int := if 128 ≤ v % 256 then v % 256 - 256 else v % 256
theorem signed8 (v:Int):FnE Tryz.prog 165 [I v,I 8] [] (I (sgn8 v)) []:=by
 refine N.fnC Tryz.func165 k165 fun Q hQ hQN => ?_
 have e1:v % 2 ^ 8 / 2 ^ min 7 IntKind.i64.bits = v % 256 / 128 := rfl
 have e2:IntKind.wrap .i64 (1 * 2 ^ min 8 IntKind.i64.bits) = 256 := rfl
 repeat' (first | rw [e1] | rw [e2] | rw [show (8:Int) - 1 = 7 by decide] | (show WC _ _ _ _ _ _ _ _ _; first | refine T.call0 e69 rfl width8 ?_ | refine T.call0 e27 rfl (low_lit v 8 8 rfl (by decide)) ?_) | exact ⟨⟩ | intro (K:KT) hK | intro hcd | (refine go1 ?_ ?_ <;> try clear hK K) | fail)
 all_goals (refine WS.c rfl ?_; unfold sgn8; congr 1; omega)
def fl (p m:Int) (on:Bool):Int := if on then bits .or .i64 (bits .andNot .i64 p m) m else bits .andNot .i64 p m
end Go.Proofs.YtonhglhdlgbcnabGreat.Calc
namespace Go.Proofs.YtonhglhdlgbcnabGreat.Calc
open Go Code
set_option linter.unusedSimpArgs false
set_option linter.unusedVariables false
set_option maxRecDepth 20000
set_option maxHeartbeats 8000000
attribute [local irreducible] WOpsT AW AK RK AKW UK UC
def ri (r:Nat→Int):List V := [I (r 0),I (r 1),I (r 2),I (r 3),I (r 4),I (r 5),I (r 6),I (r 7),I (r 8)]
def upd (r:Nat→Int) (k:Nat) (v:Int):Nat→Int := fun i => if i = k then v else r i
theorem ri_get (r:Nat→Int) (k:Nat) (hk:k < 9):(ri r)[k]? = some (I (r k)):=by
 match k,hk with
 | 0,_ => rfl
 | 1,_ => rfl
 | 2,_ => rfl
 | 3,_ => rfl
 | 4,_ => rfl
 | 5,_ => rfl
 | 6,_ => rfl
 | 7,_ => rfl
 | 8,_ => rfl
theorem ri_set (r:Nat→Int) (k:Nat) (v:Int) (hk:k < 9):(ri r).set k (I v) = ri (upd r k v):=by
 match k,hk with
 | 0,_ => rfl
 | 1,_ => rfl
 | 2,_ => rfl
 | 3,_ => rfl
 | 4,_ => rfl
 | 5,_ => rfl
 | 6,_ => rfl
 | 7,_ => rfl
 | 8,_ => rfl
theorem ri_spl (r:Nat→Int) (k:Nat) (v:Int) (hk:k < 9):spl (ri r) k [.c (.int .i64 v)] = ri (upd r k v) := ri_set r k v hk
theorem ri_eq {r q:Nat→Int} (h:∀ i,i < 9→r i = q i):ri r = ri q:=by
 unfold ri
 rw [h 0 (by decide),h 1 (by decide),h 2 (by decide),h 3 (by decide),h 4 (by decide),h 5 (by decide),h 6 (by decide),h 7 (by decide),h 8 (by decide)]
theorem Sub.ri {r q:Nat→Int} (h:∀ i,i < 9→r i = q i):Sub (.agg (ri r)) (.agg (ri q)) := by rw [ri_eq h]; exact .rfl
theorem ri_ren (r:Nat→Int) (ks:List Nat):ren ks (.agg (ri r)) = .agg (ri r) := rfl
theorem ri_spl0 (r q:Nat→Int):spl (ri r) 0 (ri q) = ri q := rfl
theorem ri_splz (q:Nat→Int):spl [I 0,I 0,I 0,I 0,I 0,I 0,I 0,I 0,I 0] 0 (ri q) = ri q := rfl
def wide (i:Int):Bool := decide (i = 7∨i = 8)
theorem wide_ok (i:Int):FnE Tryz.prog 162 [I i] [] (.c (.bool (wide i))) []:=by
 refine N.fnC Tryz.func162 k162 fun Q hQ hQN => ?_
 repeat' (first | exact ⟨⟩ | intro (K:KT) hK | intro hcd | (refine go1 ?_ ?_ <;> try clear hK K) | fail)
 all_goals (refine WS.bool rfl ?_; unfold wide; simp only [decide_eq_true_eq,Bool.false_eq_true,iff_true,iff_false,true_iff,false_iff] <;> omega)
def bitsR (i:Int):Int := if i = 7∨i = 8 then 16 else 8
theorem bitsR_ok (i:Int):FnE Tryz.prog 150 [I i] [] (I (bitsR i)) []:=by
 refine N.fnC Tryz.func150 k150 fun Q hQ hQN => ?_
 have hw:wide i = decide (i = 7∨i = 8) := rfl
 by_cases h:i = 7∨i = 8
 ·skip
  repeat' (first | rw [hw] | refine N.cT rfl h ?_ | refine T.call0 e162 rfl (wide_ok i) ?_ | exact ⟨⟩ | intro (K:KT) hK | intro hcd | (refine go1 ?_ ?_ <;> try clear hK K) | fail)
  exact WS.c rfl (by unfold bitsR; rw [if_pos h])
 ·skip
  repeat' (first | rw [hw] | refine N.cF rfl h ?_ | refine T.call0 e162 rfl (wide_ok i) ?_ | exact ⟨⟩ | intro (K:KT) hK | intro hcd | (refine go1 ?_ ?_ <;> try clear hK K) | fail)
  exact WS.c rfl (by unfold bitsR; rw [if_neg h])
def fitN (i:Nat) (v:Int):Int := if i = 7∨i = 8 then v % 65536 else v % 256
def fitR (r:Nat→Int):Nat→Int := fun i => fitN i (r i)
def Fits (r:Nat→Int):Prop := ∀ i,i < 9→0 ≤ r i∧r i < if i = 7∨i = 8 then 65536 else 256
theorem fitR_fits (r:Nat→Int):Fits (fitR r):=by
 intro i hi
 unfold fitR fitN
 split <;> omega
def fitI (r:Nat→Int) (n:Nat):Nat→Int := fun i => if i < n then fitN i (r i) else r i
theorem fitI_step (r:Nat→Int) (n:Nat) (i:Nat):upd (fitI r n) n (fitN n (fitI r n n)) i = fitI r (n + 1) i:=by
 unfold upd fitI
 by_cases h:i = n
 ·subst h; rw [if_pos rfl,if_pos (Nat.lt_succ_self _),if_neg (Nat.lt_irrefl _)]
 ·rw [if_neg h]
  by_cases h2:i < n
  ·rw [if_pos h2,if_pos (by omega)]
  ·rw [if_neg h2,if_neg (by omega)]
theorem Fit_ok (r:Nat→Int):FnE Tryz.prog 111 [.agg (ri r)] [] (.agg (ri (fitR r))) []:=by
 refine N.fnC Tryz.func111 k111 fun Q hQ hQN => ?_
 repeat' (first | exact ⟨⟩ | intro (K:KT) hK | intro hcd | (refine goB ?_ ?_ <;> try clear hK K) | fail)
 refine N.block ?_
 refine N.loop (σ := Nat) (fun i => [(1,.ptr 0 1 0 0),(2,.ptr 1 1 0 0),(4,I i)]) (fun i => [⟨1,9,[ri (fitI r i)]⟩,⟨1,9,[ri fun _ => 0]⟩]) (fun i => i ≤ 9) (fun i => 9 - i) 0 (by omega) (Weaks.sel (by exact sB) rfl) fun i hi C hC => ?_
 by_cases h9:i < 9
 ·have e3:(i:Int).toNat * 1 = i := by omega
  have hl := low_ok (fitI r i i) (bitsR i)
  have hb:fitI r i i % 2 ^ wd (bitsR i) = fitN i (fitI r i i):=by
   unfold fitN bitsR
   by_cases h7:i = 7∨i = 8
   ·rw [if_pos h7,if_pos (by omega)]; rfl
   ·rw [if_neg h7,if_neg (by omega)]; rfl
  rw [hb] at hl
  repeat' (first | (show WOpsT _ (⟨_,.ld _ _,none⟩ :: _) _ _ _ _; refine T.ld rfl rfl rfl rfl (ri_get _ _ (by omega)) ?_) | rw [e3] | (show WOpsT _ (⟨_,.st _ _ _,none⟩ :: _) _ _ _ _; refine T.st rfl rfl rfl ⟨rfl,rfl⟩ rfl (show _ ≤ 9 by omega) ?_) | rw [ri_spl _ _ _ h9] | (show WC _ _ _ _ _ _ _ _ _; first | refine T.call0 e150 rfl (bitsR_ok i) ?_ | refine T.call0 e27 rfl hl ?_) | exact ⟨⟩ | intro (K:KT) hK | intro hcd | (refine go1 ?_ ?_ <;> try clear hK K) | fail)
  rw [show upd (fitI r i) i (fitN i (fitI r i i)) = fitI r (i + 1) from funext fun j => fitI_step r i j]
  exact hC _ _ (i + 1) (by omega) (by omega) (Weaks.sel (by exact sB) rfl)
 ·obtain rfl:i = 9 := by omega
  repeat' (first | exact ⟨⟩ | intro (K:KT) hK | intro hcd | (refine go1 ?_ ?_ <;> try clear hK K) | fail)
  exact WS.drop (n := 0) rfl (by
   show _ = V.agg (ri (fitI r 9))
   rw [show ri (fitI r 9) = ri (fitR r) from ri_eq fun i hi => by unfold fitI; rw [if_pos hi]; rfl])
def flagR (r:Nat→Int) (f:Int) (on:Bool):Nat→Int := upd r 4 (fl (r 4) f on)
theorem flag_ok (r:Nat→Int) (f:Int) (on:Bool):FnE Tryz.prog 164 [.agg (ri r),I f,.c (.bool on)] [] (.agg (ri (flagR r f on))) []:=by
 refine N.fnC Tryz.func164 k164 fun Q hQ hQN => ?_
 cases on
 ·skip
  repeat' (first | rw [ri_spl _ _ _ (by decide)] | exact ⟨⟩ | intro (K:KT) hK | intro hcd | (refine go1 ?_ ?_ <;> try clear hK K) | fail)
  exact WS.drop (n := 0) rfl rfl
 ·skip
  repeat' (first | rw [ri_spl _ _ _ (by decide)] | exact ⟨⟩ | intro (K:KT) hK | intro hcd | (refine go1 ?_ ?_ <;> try clear hK K) | fail)
  exact WS.drop (n := 0) rfl rfl
def nzR (r:Nat→Int) (n:Int):Nat→Int := flagR (flagR r 2 (decide (n = 0))) 128 (decide (128 ≤ n))
theorem nz_ok (r:Nat→Int) (n:Int):FnE Tryz.prog 160 [.agg (ri r),I n] [] (.agg (ri (nzR r n))) []:=by
 refine N.fnC Tryz.func160 k160 fun Q hQ hQN => ?_
 repeat' (first | rw [ri_ren] | rw [ri_spl0] | refine T.call0 e164 rfl (flag_ok _ _ _) ?_ | exact ⟨⟩ | intro (K:KT) hK | intro hcd | (refine go1 ?_ ?_ <;> try clear hK K) | fail)
 exact WS.drop (n := 0) rfl rfl
theorem carry_ok (r:Nat→Int):FnE Tryz.prog 181 [.agg (ri r)] [] (I (r 4 % 2)) []:=by
 refine N.fnC Tryz.func181 k181 fun Q hQ hQN => ?_
 repeat' (first | rw [bits1] | exact ⟨⟩ | intro (K:KT) hK | intro hcd | (refine go1 ?_ ?_ <;> try clear hK K) | fail)
 exact WS.c rfl rfl
def ixR (i:Int):Nat := (max 0 (min i 8)).toNat
theorem ixR_lt (i:Int):ixR i < 9 := by unfold ixR; omega
theorem ixR_cast (i:Int):max 0 (min i 8) = (ixR i:Int) := by unfold ixR; omega
theorem index_ok (i:Int):FnE Tryz.prog 159 [I i] [] (I (ixR i)) []:=by
 refine N.fnC Tryz.func159 k159 fun Q hQ hQN => ?_
 repeat' (first | exact ⟨⟩ | intro (K:KT) hK | intro hcd | (refine go1 ?_ ?_ <;> try clear hK K) | fail)
 exact WS.c rfl (by rw [ixR_cast])
def resR (r:Nat→Int) (t:Nat) (n c:Int):Nat→Int := upd (flagR (nzR r n) 1 (decide (c = 1))) t n
theorem result_ok (r:Nat→Int) (t:Nat) (n c:Int) (ht:t < 9):FnE Tryz.prog 182 [.agg (ri r),I t,I n,I c] [] (.agg (ri (resR r t n c))) []:=by
 refine N.fnC Tryz.func182 k182 fun Q hQ hQN => ?_
 have e3:(t:Int).toNat * 1 = t := by omega
 repeat' (first | rw [ri_ren] | rw [ri_spl0] | (show WOpsT _ (⟨_,.st _ _ _,none⟩ :: _) _ _ _ _; refine T.st rfl rfl rfl ⟨rfl,rfl⟩ rfl (show _ ≤ 9 by omega) ?_) | rw [e3] | rw [ri_spl _ _ _ ht] | (show WC _ _ _ _ _ _ _ _ _; first | refine T.call0 e160 rfl (nz_ok _ _) ?_ | refine T.call0 e164 rfl (flag_ok _ _ _) ?_) | exact ⟨⟩ | intro (K:KT) hK | intro hcd | (refine go1 ?_ ?_ <;> try clear hK K) | fail)
 exact WS.drop (n := 0) rfl rfl
def binR (d:Int) (t f:Nat) (r:Nat→Int):Nat→Int :=
 let a := r t % 256
 let b := r f % 256
 let c := r 4 % 2
 if d = 4 then resR r t ((a + b + c) % 256) ((a + b + c) / 256)
 else if d = 5 then resR r t ((a - b - (1 - c)) % 256) (if a - b - (1 - c) < 0 then 0 else 1)
 else if d = 6 then flagR (nzR r ((a - b) % 256)) 1 (decide (0 ≤ a - b))
 else let n := if d = 7 then bits .and .i64 a b else if d = 8 then bits .or .i64 a b else bits .xor .i64 a b
  upd (nzR r n) t n
theorem binary_ok (d:Int) (t f:Nat) (r:Nat→Int) (ht:t < 9) (hf:f < 9):FnE Tryz.prog 161 [I d,I t,I f,.agg (ri r)] [] (.agg (ri (binR d t f r))) []:=by
 have e3:(t:Int).toNat * 1 = t := by omega
 have e4:(f:Int).toNat * 1 = f := by omega
 obtain ⟨a,ha⟩:∃ a,r t % 256 = a := ⟨_,rfl⟩
 obtain ⟨b,hb⟩:∃ b,r f % 256 = b := ⟨_,rfl⟩
 obtain ⟨c,hc⟩:∃ c,r 4 % 2 = c := ⟨_,rfl⟩
 have l1 := low_lit (r t) 8 8 rfl (by decide)
 have l2 := low_lit (r f) 8 8 rfl (by decide)
 rw [show r t % 2 ^ 8 = a from ha] at l1
 rw [show r f % 2 ^ 8 = b from hb] at l2
 have ha1:0 ≤ a∧a < 256 := by omega
 have hb1:0 ≤ b∧b < 256 := by omega
 have hc1:c = 0∨c = 1 := by omega
 have kc := carry_ok r
 rw [hc] at kc
 by_cases h4:d = 4
 ·subst h4
  have hs:binR 4 t f r = resR r t ((a + b + c) % 256) ((a + b + c) / 256) := by unfold binR; rw [ha,hb,hc]; rfl
  rw [hs]
  refine N.fnC Tryz.func161 k161 fun Q hQ hQN => ?_
  repeat' (first | rw [ri_ren] | rw [ri_spl0] | (show WOpsT _ (⟨_,.ld _ _,none⟩ :: _) _ _ _ _; refine T.ld rfl rfl rfl rfl (ri_get _ _ (by omega)) ?_) | rw [e3] | rw [e4] | (show WC _ _ _ _ _ _ _ _ _; first | refine T.call0 e27 rfl l1 ?_ | refine T.call0 e27 rfl l2 ?_ | refine T.call0 e181 rfl kc ?_ | refine T.call0 e180 rfl (add8 a b c ha1 hb1 hc1) ?_ | refine T.call0 e182 rfl (result_ok _ t _ _ ht) ?_) | exact ⟨⟩ | intro (K:KT) hK | intro hcd | (refine go1 ?_ ?_ <;> try clear hK K) | fail)
  exact WS.drop (n := 0) rfl rfl
 by_cases h5:d = 5
 ·subst h5
  have hs:binR 5 t f r = resR r t ((a - b - (1 - c)) % 256) (1 - if a - b - (1 - c) < 0 then 1 else 0):=by
   unfold binR; rw [ha,hb,hc]
   show resR r t _ (if a - b - (1 - c) < 0 then 0 else 1) = _
   split <;> rfl
  rw [hs]
  refine N.fnC Tryz.func161 k161 fun Q hQ hQN => ?_
  repeat' (first | rw [ri_ren] | rw [ri_spl0] | (show WOpsT _ (⟨_,.ld _ _,none⟩ :: _) _ _ _ _; refine T.ld rfl rfl rfl rfl (ri_get _ _ (by omega)) ?_) | rw [e3] | rw [e4] | (show WOpsT _ (⟨_,.bin _ _ _,none⟩ :: _) _ _ _ _; refine T.sub rfl rfl (by split <;> omega) (by split <;> omega) ?_) | (show WC _ _ _ _ _ _ _ _ _; first | refine T.call0 e27 rfl l1 ?_ | refine T.call0 e27 rfl l2 ?_ | refine T.call0 e181 rfl kc ?_ | refine T.call0 e183 rfl (sub8 a b (1 - c) ha1 hb1 (by omega)) ?_ | refine T.call0 e182 rfl (result_ok _ t _ _ ht) ?_) | exact ⟨⟩ | intro (K:KT) hK | intro hcd | (refine go1 ?_ ?_ <;> try clear hK K) | fail)
  exact WS.drop (n := 0) rfl rfl
 by_cases h6:d = 6
 ·subst h6
  have hs:binR 6 t f r = flagR (nzR r ((a - b - 0) % 256)) 1 (decide ((if a - b - 0 < 0 then (1:Int) else 0) = 0)):=by
   unfold binR; rw [ha,hb,hc]
   show flagR (nzR r ((a - b) % 256)) 1 (decide (0 ≤ a - b)) = _
   rw [Int.sub_zero]
   congr 2
   split <;> simp <;> omega
  rw [hs]
  refine N.fnC Tryz.func161 k161 fun Q hQ hQN => ?_
  repeat' (first | rw [ri_ren] | rw [ri_spl0] | (show WOpsT _ (⟨_,.ld _ _,none⟩ :: _) _ _ _ _; refine T.ld rfl rfl rfl rfl (ri_get _ _ (by omega)) ?_) | rw [e3] | rw [e4] | (show WC _ _ _ _ _ _ _ _ _; first | refine T.call0 e27 rfl l1 ?_ | refine T.call0 e27 rfl l2 ?_ | refine T.call0 e183 rfl (sub8 a b 0 ha1 hb1 (by omega)) ?_ | refine T.call0 e160 rfl (nz_ok _ _) ?_ | refine T.call0 e164 rfl (flag_ok _ _ _) ?_) | exact ⟨⟩ | intro (K:KT) hK | intro hcd | (refine go1 ?_ ?_ <;> try clear hK K) | fail)
  exact WS.drop (n := 0) rfl rfl
 by_cases h7:d = 7
 ·subst h7
  have hs:binR 7 t f r = upd (nzR r (bits .and .i64 a b)) t (bits .and .i64 a b) := by unfold binR; rw [ha,hb,hc]; rfl
  rw [hs]
  refine N.fnC Tryz.func161 k161 fun Q hQ hQN => ?_
  repeat' (first | rw [ri_ren] | rw [ri_spl0] | (show WOpsT _ (⟨_,.ld _ _,none⟩ :: _) _ _ _ _; refine T.ld rfl rfl rfl rfl (ri_get _ _ (by omega)) ?_) | rw [e3] | rw [e4] | (show WOpsT _ (⟨_,.st _ _ _,none⟩ :: _) _ _ _ _; refine T.st rfl rfl rfl ⟨rfl,rfl⟩ rfl (show _ ≤ 9 by omega) ?_) | rw [ri_spl _ _ _ ht] | (show WC _ _ _ _ _ _ _ _ _; first | refine T.call0 e27 rfl l1 ?_ | refine T.call0 e27 rfl l2 ?_ | refine T.call0 e160 rfl (nz_ok _ _) ?_) | exact ⟨⟩ | intro (K:KT) hK | intro hcd | (refine go1 ?_ ?_ <;> try clear hK K) | fail)
  exact WS.drop (n := 0) rfl rfl
 by_cases h8:d = 8
 ·subst h8
  have hs:binR 8 t f r = upd (nzR r (bits .or .i64 a b)) t (bits .or .i64 a b) := by unfold binR; rw [ha,hb,hc]; rfl
  rw [hs]
  refine N.fnC Tryz.func161 k161 fun Q hQ hQN => ?_
  repeat' (first | rw [ri_ren] | rw [ri_spl0] | (show WOpsT _ (⟨_,.ld _ _,none⟩ :: _) _ _ _ _; refine T.ld rfl rfl rfl rfl (ri_get _ _ (by omega)) ?_) | rw [e3] | rw [e4] | (show WOpsT _ (⟨_,.st _ _ _,none⟩ :: _) _ _ _ _; refine T.st rfl rfl rfl ⟨rfl,rfl⟩ rfl (show _ ≤ 9 by omega) ?_) | rw [ri_spl _ _ _ ht] | (show WC _ _ _ _ _ _ _ _ _; first | refine T.call0 e27 rfl l1 ?_ | refine T.call0 e27 rfl l2 ?_ | refine T.call0 e160 rfl (nz_ok _ _) ?_) | exact ⟨⟩ | intro (K:KT) hK | intro hcd | (refine go1 ?_ ?_ <;> try clear hK K) | fail)
  exact WS.drop (n := 0) rfl rfl
 ·have hs:binR d t f r = upd (nzR r (bits .xor .i64 a b)) t (bits .xor .i64 a b):=by
   unfold binR; rw [ha,hb,hc]
   dsimp only
   rw [if_neg h4,if_neg h5,if_neg h6,if_neg h7,if_neg h8]
  rw [hs]
  refine N.fnC Tryz.func161 k161 fun Q hQ hQN => ?_
  repeat' (first | rw [ri_ren] | rw [ri_spl0] | (show WOpsT _ (⟨_,.ld _ _,none⟩ :: _) _ _ _ _; refine T.ld rfl rfl rfl rfl (ri_get _ _ (by omega)) ?_) | rw [e3] | rw [e4] | (show WOpsT _ (⟨_,.st _ _ _,none⟩ :: _) _ _ _ _; refine T.st rfl rfl rfl ⟨rfl,rfl⟩ rfl (show _ ≤ 9 by omega) ?_) | rw [ri_spl _ _ _ ht] | (show WC _ _ _ _ _ _ _ _ _; first | refine T.call0 e27 rfl l1 ?_ | refine T.call0 e27 rfl l2 ?_ | refine T.call0 e160 rfl (nz_ok _ _) ?_) | exact ⟨⟩ | intro (K:KT) hK | intro hcd | (refine go1 ?_ ?_ <;> try clear hK K) | fail)
  exact WS.drop (n := 0) rfl rfl
def shiftR (d:Int) (t:Nat) (r:Nat→Int):Nat→Int :=
 let c := if d = 12∨d = 13 then 0 else r 4 % 2
 if d = 12∨d = 14 then resR r t ((2 * (r t % 256) + c) % 256) ((2 * (r t % 256) + c) / 256) else resR r t ((r t % 256 + c * 256) / 2) ((r t % 256 + c * 256) % 2)
theorem shift_ok (d:Int) (t:Nat) (r:Nat→Int) (ht:t < 9):FnE Tryz.prog 163 [I d,I t,.agg (ri r)] [] (.agg (ri (shiftR d t r))) []:=by
 have e3:(t:Int).toNat * 1 = t := by omega
 obtain ⟨c,hc⟩:∃ c,r 4 % 2 = c := ⟨_,rfl⟩
 have hc1:c = 0∨c = 1 := by omega
 have kc := carry_ok r
 rw [hc] at kc
 by_cases h1:d = 12∨d = 13
 ·by_cases h2:d = 12∨d = 14
  ·have hs:shiftR d t r = resR r t ((2 * (r t % 256) + 0) % 256) ((2 * (r t % 256) + 0) / 256) := by unfold shiftR; dsimp only; rw [if_pos h1,if_pos h2]
   rw [hs]
   refine N.fnC Tryz.func163 k163 fun Q hQ hQN => ?_
   repeat' (first | rw [ri_ren] | rw [ri_spl0] | (show WOpsT _ (⟨_,.ld _ _,none⟩ :: _) _ _ _ _; refine T.ld rfl rfl rfl rfl (ri_get _ _ (by omega)) ?_) | rw [e3] | (show WC _ _ _ _ _ _ _ _ _; first | refine T.call0 e181 rfl kc ?_ | refine T.call0 e184 rfl (rol8 (r t) 0 (by omega)) ?_ | refine T.call0 e182 rfl (result_ok _ t _ _ ht) ?_) | exact ⟨⟩ | intro (K:KT) hK | intro hcd | (refine go1 ?_ ?_ <;> try clear hK K) | fail)
   all_goals exact WS.drop (n := 0) rfl rfl
  ·have hs:shiftR d t r = resR r t ((r t % 256 + 0 * 256) / 2) ((r t % 256 + 0 * 256) % 2) := by unfold shiftR; dsimp only; rw [if_pos h1,if_neg h2]
   rw [hs]
   refine N.fnC Tryz.func163 k163 fun Q hQ hQN => ?_
   repeat' (first | rw [ri_ren] | rw [ri_spl0] | (show WOpsT _ (⟨_,.ld _ _,none⟩ :: _) _ _ _ _; refine T.ld rfl rfl rfl rfl (ri_get _ _ (by omega)) ?_) | rw [e3] | (show WC _ _ _ _ _ _ _ _ _; first | refine T.call0 e181 rfl kc ?_ | refine T.call0 e185 rfl (ror8 (r t) 0 (by omega)) ?_ | refine T.call0 e182 rfl (result_ok _ t _ _ ht) ?_) | exact ⟨⟩ | intro (K:KT) hK | intro hcd | (refine go1 ?_ ?_ <;> try clear hK K) | fail)
   all_goals exact WS.drop (n := 0) rfl rfl
 ·by_cases h2:d = 12∨d = 14
  ·have hs:shiftR d t r = resR r t ((2 * (r t % 256) + c) % 256) ((2 * (r t % 256) + c) / 256) := by unfold shiftR; dsimp only; rw [if_neg h1,if_pos h2,hc]
   rw [hs]
   refine N.fnC Tryz.func163 k163 fun Q hQ hQN => ?_
   repeat' (first | rw [ri_ren] | rw [ri_spl0] | (show WOpsT _ (⟨_,.ld _ _,none⟩ :: _) _ _ _ _; refine T.ld rfl rfl rfl rfl (ri_get _ _ (by omega)) ?_) | rw [e3] | (show WC _ _ _ _ _ _ _ _ _; first | refine T.call0 e181 rfl kc ?_ | refine T.call0 e184 rfl (rol8 (r t) c hc1) ?_ | refine T.call0 e182 rfl (result_ok _ t _ _ ht) ?_) | exact ⟨⟩ | intro (K:KT) hK | intro hcd | (refine go1 ?_ ?_ <;> try clear hK K) | fail)
   all_goals exact WS.drop (n := 0) rfl rfl
  ·have hs:shiftR d t r = resR r t ((r t % 256 + c * 256) / 2) ((r t % 256 + c * 256) % 2) := by unfold shiftR; dsimp only; rw [if_neg h1,if_neg h2,hc]
   rw [hs]
   refine N.fnC Tryz.func163 k163 fun Q hQ hQN => ?_
   repeat' (first | rw [ri_ren] | rw [ri_spl0] | (show WOpsT _ (⟨_,.ld _ _,none⟩ :: _) _ _ _ _; refine T.ld rfl rfl rfl rfl (ri_get _ _ (by omega)) ?_) | rw [e3] | (show WC _ _ _ _ _ _ _ _ _; first | refine T.call0 e181 rfl kc ?_ | refine T.call0 e185 rfl (ror8 (r t) c hc1) ?_ | refine T.call0 e182 rfl (result_ok _ t _ _ ht) ?_) | exact ⟨⟩ | intro (K:KT) hK | intro hcd | (refine go1 ?_ ?_ <;> try clear hK K) | fail)
   all_goals exact WS.drop (n := 0) rfl rfl
def midR (d:Int) (t f:Nat) (n:Int) (r:Nat→Int):Nat→Int :=
 if d = 1 then upd r t (r f)
 else if d = 2 then upd r t n
 else if d = 3 then nzR r (r t % 256)
 else if 4 ≤ d∧d ≤ 9 then binR d t f r
 else if d = 10∨d = 11 then
  let m := (r t + 1 - 2 * (d - 10)) % 2 ^ wd (bitsR t)
  upd (if t = 7∨t = 8 then r else nzR r m) t m
 else if 12 ≤ d∧d ≤ 15 then shiftR d t r
 else if d = 16∨d = 17 then flagR r (n % 256) (decide (d = 16))
 else if d = 18 then upd r t (putv (r t) 0 8 (r f))
 else if d = 19 then upd r t (putv (r t) 8 8 (r f))
 else if d = 20 then upd r t (r f / 2 ^ 0 % 2 ^ 8)
 else if d = 21 then upd r t (r f / 2 ^ 8 % 2 ^ 8)
 else if d = 22 then upd r t (r t + r f % 256)
 else if d = 23 then upd r t (r t + sgn8 (r f))
 else r
def doR (d t f n:Int) (r:Nat→Int):(Nat→Int)×Bool :=
 if d = 24 then (fitR r,xor (decide (bits .and .i64 (fitR r 4) (n % 256) ≠ 0)) (decide (f = 1)))
 else (fitR (midR d (ixR t) (ixR f) n (fitR r)),false)
theorem low8 (v:Int):FnE Tryz.prog 27 [I v,I 8] [] (I (v % 256)) [] := low_lit v 8 8 rfl (by decide)
theorem ri_mren (r:Nat→Int) (ks:List Nat):(ri r).map (ren ks) = ri r := rfl
end Go.Proofs.YtonhglhdlgbcnabGreat.Calc
namespace Go.Proofs.YtonhglhdlgbcnabGreat.Calc
open Go
set_option linter.unusedVariables false
def coA (r:Nat→Int) (op a:Int) (nmi:Bool):List V := [I (r 0),I (r 1),I (r 2),I (r 3),I (r 4),I (r 5),I (r 6),I (r 7),I (r 8),I op,I a,.c (.bool nmi)]
structure Core where
 r:Nat→Int
 op:Int
 a:Int
 nmi:Bool
def coC (k:Core):List V := coA k.r k.op k.a k.nmi
def cycM (c:Cpu) (op:Int):List Cyc :=
 if op = 256 then c.irq else if op = 257 then c.nmi else if op = 258 then c.res
 else if 0 ≤ op∧op ≤ 255 then (match c.ins.findIdx? (fun x => decide (x.op = op)) with
  | some i => (match c.ins[i]? with | some x => x.cy | none => [])
  | none => []) else []
def doingM (c:Cpu) (op a:Int):Option Cyc := if op = -1∨a < 0 then none else (cycM c op)[a.toNat]?
def fixM (a:Int):Int := [65534,65535,65530,65531,65532,65533].getD (a - 6).toNat 0
def placeM (a:Int) (r:Nat→Int):Int×(Nat→Int) :=
 if a = 0 then (r 7,upd r 7 ((r 7 + 1) % 65536))
 else if a = 1 then (r 7,r)
 else if a = 2 then (r 8,r)
 else if a = 3 then ((r 8 + 1) % 65536,r)
 else if a = 4 then (256 + r 3,upd r 3 ((r 3 - 1) % 256))
 else if a = 5 then (256 + (r 3 + 1) % 256,upd r 3 ((r 3 + 1) % 256))
 else if a < 0∨12 ≤ a then (0,r)
 else (fixM a,r)
def startM (c:Cpu) (k:Core) (irq:Bool):Core :=
 if k.nmi = true∧0 < c.nmi.length then ⟨k.r,257,0,false⟩
 else if irq = true∧bits .and .i64 (k.r 4) 4 = 0∧0 < c.irq.length then ⟨k.r,256,0,k.nmi⟩
 else k
structure Bus where
 d:Int
 addr:Int
 data:Int
def buC (b:Bus):List V := [I b.d,I b.addr,I b.data]
def askA (c:Cpu) (k:Core) (irq:Bool):Core := if k.op = -1 then startM c ⟨fitR k.r,k.op,k.a,k.nmi⟩ irq else ⟨fitR k.r,k.op,k.a,k.nmi⟩
def dataM (x:Cyc) (r:Nat→Int):Int := if x.bus = 2∧0 ≤ x.reg∧x.reg < 9 then r x.reg.toNat % 256 else 0
def askB (c:Cpu) (k:Core):Core×Bus :=
 if k.op = -1 then (⟨(placeM 0 k.r).2,k.op,k.a,k.nmi⟩,⟨1,(placeM 0 k.r).1,0⟩)
 else match doingM c k.op k.a with
  | none => (k,⟨0,0,0⟩)
  | some x => if x.bus = 0 then (k,⟨0,0,0⟩) else (⟨(placeM x.at_ k.r).2,k.op,k.a,k.nmi⟩,⟨x.bus,(placeM x.at_ k.r).1,dataM x k.r⟩)
def askM (c:Cpu) (k:Core) (irq:Bool):Core×Bus := askB c (askA c k irq)
def stepsM:List Stp→(Nat→Int)→(Nat→Int)×Bool
 | [],r => (r,false)
 | s :: l,r => if (doR s.op s.to s.fr s.n r).2 = true then ((doR s.op s.to s.fr s.n r).1,true) else stepsM l (doR s.op s.to s.fr s.n r).1
def regM (x:Cyc) (r:Nat→Int) (data:Int):Nat→Int := if x.bus = 1∧0 ≤ x.reg∧x.reg < 9 then upd r x.reg.toNat data else r
def tellA (c:Cpu) (r:Nat→Int) (a:Int) (nmi:Bool) (data:Int):Core :=
 if (gotM (fun x => decide (x.op = data)) c.ins).2 = false then ⟨r,259,0,nmi⟩
 else if 0 < (gotM (fun x => decide (x.op = data)) c.ins).1.cy.length then ⟨r,data,0,nmi⟩ else ⟨r,-1,0,nmi⟩
def tellB (c:Cpu) (k:Core) (data:Int):Core := match doingM c k.op k.a with
  | none => if k.op = 259 then k else ⟨k.r,-1,0,k.nmi⟩
  | some x =>
   if (stepsM x.steps (regM x k.r data)).2 = true∨((cycM c k.op).length:Int) ≤ k.a + 1 then ⟨(stepsM x.steps (regM x k.r data)).1,-1,0,k.nmi⟩
   else ⟨(stepsM x.steps (regM x k.r data)).1,k.op,k.a + 1,k.nmi⟩
def tellM (c:Cpu) (k:Core) (data:Int):Core :=
 if k.op = -1 then tellA c (fitR k.r) k.a k.nmi (data % 256) else tellB c ⟨fitR k.r,k.op,k.a,k.nmi⟩ (data % 256)
end Go.Proofs.YtonhglhdlgbcnabGreat.Calc
