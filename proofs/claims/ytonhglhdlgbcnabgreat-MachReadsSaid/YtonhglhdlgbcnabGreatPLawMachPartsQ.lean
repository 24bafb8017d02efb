/- Several texts in one (FnCoreC, FnStepC, FnStepD, FnStepE), for the proof of LawMachParts. No condition beyond those in each lemma. -/
import Derived.Test.YtonhglhdlgbcnabGreatPLawMachPartsP
import Derived.Test.YtonhglhdlgbcnabGreatPLawMachPartsO
import Derived.Test.YtonhglhdlgbcnabGreatPLawMachPartsF
namespace Go.Proofs.YtonhglhdlgbcnabGreat.Calc
open Go Code
set_option linter.unusedSimpArgs false
set_option linter.unusedVariables false
set_option maxRecDepth 20000
set_option maxHeartbeats 4000000
attribute [local irreducible] WOpsT AW AK RK AKW UK UC
theorem cycM_sml (c:Cpu) (hc:SmlP c) (op:Int):SmlC (cycM c op):=by
 obtain ⟨h1,h2,h3,h4,h5⟩ := hc
 unfold cycM
 split
 ·exact h4
 split
 ·exact h5
 split
 ·exact h3
 split
 ·split
  ·split
   ·rename_i x hx
    exact h2 x (List.mem_of_getElem? hx)
   ·exact ⟨by simp,by simp⟩
  ·exact ⟨by simp,by simp⟩
 ·exact ⟨by simp,by simp⟩
theorem stepsM_drop (l:List Stp) (i:Nat) (hi:i < l.length) (r:Nat→Int):stepsM (l.drop i) r = if (doR l[i].op l[i].to l[i].fr l[i].n r).2 = true then ((doR l[i].op l[i].to l[i].fr l[i].n r).1,true) else stepsM (l.drop (i + 1)) (doR l[i].op l[i].to l[i].fr l[i].n r).1:=by
 rw [List.drop_eq_getElem_cons hi]; rfl
theorem tell_c (c:Cpu) (hc:SmlP c) (k:Core) (data:Int):FnE Tryz.prog 66 [.agg (cpC c),.agg (coC k),I data] [] (.agg (coC (tellM c k data))) []:=by
 obtain ⟨r,op,a,nmi⟩ := k
 have hfit := Fit_ok r
 have hlow := low8 data
 have hlen := hc.1
 unfold tellM
 dsimp only
 show FnE _ _ [.agg (cpC c),.agg (coA r op a nmi),I data] [] _ []
 generalize fitR r = q at *
 generalize data % 256 = d at *
 by_cases h1:op = -1
 ·rw [if_pos h1]
  subst h1
  have hf := find_ok c hc d
  unfold tellA
  generalize gotM (fun x => decide (x.op = d)) c.ins = g at *
  obtain ⟨⟨o,s,m,cy⟩,ok⟩ := g
  dsimp only at hf ⊢
  cases ok
  ·rw [if_pos rfl]
   refine N.fnC Tryz.func66 k66 fun Q hQ hQN => ?_
   repeat' (first | rw [co_mren] | rw [co_co] | rw [co_t12] | rw [co_t9] | rw [ri_t9] | rw [cp_t5] | rw [co_z] | rw [ri_mren] | rw [co_r] | rw [co_op] | rw [co_at] | rw [co_nmi] | rw [ri_splz] | rw [List.length_map] | (show WC _ _ _ _ _ _ _ _ _; first | refine T.call0 e27 rfl hlow ?_ | refine T.call0 e111 rfl hfit ?_ | refine T.call0 e117 rfl hf ?_) | exact ⟨⟩ | intro (K:KT) hK | intro hcd | (refine go1 ?_ ?_ <;> try clear hK K) | fail)
   all_goals first | exact WS.drop (n := 0) rfl rfl | (exfalso; omega)
  ·rw [if_neg (by decide)]
   by_cases hy:0 < cy.length
   ·rw [if_pos hy]
    refine N.fnC Tryz.func66 k66 fun Q hQ hQN => ?_
    repeat' (first | rw [co_mren] | rw [co_co] | rw [co_t12] | rw [co_t9] | rw [ri_t9] | rw [cp_t5] | rw [co_z] | rw [ri_mren] | rw [co_r] | rw [co_op] | rw [co_at] | rw [co_nmi] | rw [ri_splz] | rw [List.length_map] | (show WC _ _ _ _ _ _ _ _ _; first | refine T.call0 e27 rfl hlow ?_ | refine T.call0 e111 rfl hfit ?_ | refine T.call0 e117 rfl hf ?_) | exact ⟨⟩ | intro (K:KT) hK | intro hcd | (refine go1 ?_ ?_ <;> try clear hK K) | fail)
    all_goals first | exact WS.drop (n := 0) rfl rfl | (exfalso; omega)
   ·rw [if_neg hy]
    refine N.fnC Tryz.func66 k66 fun Q hQ hQN => ?_
    repeat' (first | rw [co_mren] | rw [co_co] | rw [co_t12] | rw [co_t9] | rw [ri_t9] | rw [cp_t5] | rw [co_z] | rw [ri_mren] | rw [co_r] | rw [co_op] | rw [co_at] | rw [co_nmi] | rw [ri_splz] | rw [List.length_map] | (show WC _ _ _ _ _ _ _ _ _; first | refine T.call0 e27 rfl hlow ?_ | refine T.call0 e111 rfl hfit ?_ | refine T.call0 e117 rfl hf ?_) | exact ⟨⟩ | intro (K:KT) hK | intro hcd | (refine go1 ?_ ?_ <;> try clear hK K) | fail)
    all_goals first | exact WS.drop (n := 0) rfl rfl | (exfalso; omega)
 rw [if_neg h1]
 unfold tellB
 dsimp only
 cases hd:doingM c op a with
 | none =>
  dsimp only
  have hdo := doing_none c q op a nmi hlen hd
  have he := ended_c c q op a nmi
  by_cases h9:op = 259
  ·rw [if_pos h9] at he ⊢
   refine N.fnC Tryz.func66 k66 fun Q hQ hQN => ?_
   repeat' (first | rw [co_mren] | rw [co_co] | rw [co_t12] | rw [co_t9] | rw [ri_t9] | rw [cp_t5] | rw [co_z] | rw [ri_mren] | rw [co_r] | rw [co_op] | rw [co_at] | rw [co_nmi] | rw [ri_splz] | rw [List.length_map] | (show WC _ _ _ _ _ _ _ _ _; first | refine T.call0 e27 rfl hlow ?_ | refine T.call0 e111 rfl hfit ?_ | refine T.call0 e114 rfl hdo ?_ | refine T.call0 e118 rfl he ?_) | exact ⟨⟩ | intro (K:KT) hK | intro hcd | (refine go1 ?_ ?_ <;> try clear hK K) | fail)
   all_goals first | exact WS.drop (n := 0) rfl rfl | (exfalso; omega)
  ·rw [if_neg h9] at he ⊢
   refine N.fnC Tryz.func66 k66 fun Q hQ hQN => ?_
   repeat' (first | rw [co_mren] | rw [co_co] | rw [co_t12] | rw [co_t9] | rw [ri_t9] | rw [cp_t5] | rw [co_z] | rw [ri_mren] | rw [co_r] | rw [co_op] | rw [co_at] | rw [co_nmi] | rw [ri_splz] | rw [List.length_map] | (show WC _ _ _ _ _ _ _ _ _; first | refine T.call0 e27 rfl hlow ?_ | refine T.call0 e111 rfl hfit ?_ | refine T.call0 e114 rfl hdo ?_ | refine T.call0 e118 rfl he ?_) | exact ⟨⟩ | intro (K:KT) hK | intro hcd | (refine go1 ?_ ?_ <;> try clear hK K) | fail)
   all_goals first | exact WS.drop (n := 0) rfl rfl | (exfalso; omega)
 | some x =>
  dsimp only
  have hdo := doing_some c q op a nmi hlen x hd
  have hcy := cycles_c c op hlen
  have hsm := cycM_sml c hc op
  obtain ⟨hsm1,hsm2⟩ := hsm
  have hx6:x.steps.length ≤ 6∧0 ≤ a∧a < 8:=by
   unfold doingM at hd
   split at hd
   ·cases hd
   ·have h2 := (List.getElem?_eq_some_iff.1 hd).1
    exact ⟨hsm2 x (List.mem_of_getElem? hd),by omega,by omega⟩
  obtain ⟨xb,xa,xr,xs⟩ := x
  dsimp only at hx6 ⊢
  unfold regM
  dsimp only
  generalize cycM c op = cl at *
  by_cases hw:xb = 1∧0 ≤ xr∧xr < 9
  ·rw [if_pos hw]
   have e5:0 + xr.toNat * 1 = xr.toNat := by omega
   have hx9:xr.toNat < 9 := by omega
   generalize hrr:upd q xr.toNat d = rr
   refine N.fnC Tryz.func66 k66 fun Q hQ hQN => ?_
   repeat' (first | rw [co_mren] | rw [co_co] | rw [co_t12] | rw [co_t9] | rw [ri_t9] | rw [cp_t5] | rw [co_z] | rw [ri_mren] | rw [co_r] | rw [co_op] | rw [co_at] | rw [co_nmi] | rw [ri_splz] | rw [List.length_map] | rw [e5] | (show WOpsT _ (⟨_,.st _ _ _,none⟩ :: _) _ _ _ _; refine T.st rfl rfl rfl ⟨rfl,rfl⟩ rfl (show _ ≤ 12 by omega) ?_) | rw [co_reg _ _ _ _ _ _ hx9] | rw [hrr] | (show WC _ _ _ _ _ _ _ _ _; first | refine T.call0 e27 rfl hlow ?_ | refine T.call0 e111 rfl hfit ?_ | refine T.call0 e114 rfl hdo ?_) | exact ⟨⟩ | intro (K:KT) hK | intro hcd | (refine go1 ?_ ?_ <;> try clear hK K) | fail)
   refine N.loop (σ := Nat×(Nat→Int)) (fun s => [(3,.ptr 0 1 0 0),(4,.ptr 1 1 0 0),(6,.ptr 2 1 0 0),(77,.sl 4 (xs.map stC)),(78,I xs.length),(79,I s.1)]) (fun s => [⟨1,5,[cpC c]⟩,⟨1,12,[coA s.2 op (a + 1) nmi]⟩,⟨1,12,[[I 0,I 0,I 0,I 0,I 0,I 0,I 0,I 0,I 0,I 0,I 0,.c (.bool false)]]⟩]) (fun s => s.1 ≤ xs.length∧stepsM xs rr = stepsM (xs.drop s.1) s.2) (fun s => xs.length - s.1) (0,rr) ⟨by omega,rfl⟩ (by exact .G [0,1,2] 1) fun w hi R hC => ?_
   obtain ⟨i,pr⟩ := w
   obtain ⟨hi,hst⟩ := hi
   dsimp only at hi hst hC ⊢
   by_cases hil:i < xs.length
   ·have hm := mget stC xs i hil
    rw [stepsM_drop xs i hil pr] at hst
    obtain ⟨y,hy⟩:∃ y,xs[i] = y := ⟨_,rfl⟩
    rw [hy] at hm hst
    obtain ⟨so,st,sf,sn⟩ := y
    have hdd := do_ok so st sf sn pr
    dsimp only at hst
    generalize doR so st sf sn pr = w at *
    obtain ⟨p2,en⟩ := w
    dsimp only at hst hdd
    cases en
    ·rw [if_neg (by decide)] at hst
     repeat' (first | rw [co_mren] | rw [co_co] | rw [co_t12] | rw [co_t9] | rw [ri_t9] | rw [cp_t5] | rw [co_z] | rw [ri_mren] | rw [co_r] | rw [co_op] | rw [co_at] | rw [co_nmi] | rw [ri_splz] | rw [List.length_map] | refine rI hm ?_ | refine T.call0 e119 rfl hdd ?_ | exact ⟨⟩ | intro (K:KT) hK | intro hcd | (refine go1 ?_ ?_ <;> try clear hK K) | fail)
     exact hC _ _ (i + 1,p2) ⟨by dsimp only; omega,hst⟩ (by dsimp only; omega) (by exact .G [0,1,2] 1)
    ·rw [if_pos rfl] at hst
     rw [hst,if_pos (.inl rfl)] at hQ hQN
     repeat' (first | rw [co_mren] | rw [co_co] | rw [co_t12] | rw [co_t9] | rw [ri_t9] | rw [cp_t5] | rw [co_z] | rw [ri_mren] | rw [co_r] | rw [co_op] | rw [co_at] | rw [co_nmi] | rw [ri_splz] | rw [List.length_map] | refine rI hm ?_ | refine T.call0 e119 rfl hdd ?_ | exact ⟨⟩ | intro (K:KT) hK | intro hcd | (refine go1 ?_ ?_ <;> try clear hK K) | fail)
     exact WS.drop (n := 0) rfl rfl
   ·obtain rfl:i = xs.length := by omega
    rw [List.drop_length] at hst
    rw [hst] at hQ hQN
    by_cases hl2:(cl.length:Int) ≤ a + 1
    ·rw [if_pos (.inr hl2)] at hQ hQN
     repeat' (first | rw [co_mren] | rw [co_co] | rw [co_t12] | rw [co_t9] | rw [ri_t9] | rw [cp_t5] | rw [co_z] | rw [ri_mren] | rw [co_r] | rw [co_op] | rw [co_at] | rw [co_nmi] | rw [ri_splz] | rw [List.length_map] | refine T.call0 e120 rfl hcy ?_ | exact ⟨⟩ | intro (K:KT) hK | intro hcd | (refine go1 ?_ ?_ <;> try clear hK K) | fail)
     all_goals first | exact WS.drop (n := 0) rfl rfl | (exfalso; omega)
    ·rw [if_neg (by
      rintro (h | h)
      ·cases h
      ·exact hl2 h)] at hQ hQN
     repeat' (first | rw [co_mren] | rw [co_co] | rw [co_t12] | rw [co_t9] | rw [ri_t9] | rw [cp_t5] | rw [co_z] | rw [ri_mren] | rw [co_r] | rw [co_op] | rw [co_at] | rw [co_nmi] | rw [ri_splz] | rw [List.length_map] | refine T.call0 e120 rfl hcy ?_ | exact ⟨⟩ | intro (K:KT) hK | intro hcd | (refine go1 ?_ ?_ <;> try clear hK K) | fail)
     all_goals first | exact WS.drop (n := 0) rfl rfl | (exfalso; omega)
  ·rw [if_neg hw]
   generalize hrr:q = rr at *
   refine N.fnC Tryz.func66 k66 fun Q hQ hQN => ?_
   repeat' (first | rw [co_mren] | rw [co_co] | rw [co_t12] | rw [co_t9] | rw [ri_t9] | rw [cp_t5] | rw [co_z] | rw [ri_mren] | rw [co_r] | rw [co_op] | rw [co_at] | rw [co_nmi] | rw [ri_splz] | rw [List.length_map] | (show WC _ _ _ _ _ _ _ _ _; first | refine T.call0 e27 rfl hlow ?_ | refine T.call0 e111 rfl hfit ?_ | refine T.call0 e114 rfl hdo ?_) | exact ⟨⟩ | intro (K:KT) hK | intro hcd | (refine go1 ?_ ?_ <;> try clear hK K) | fail)
   all_goals
    refine N.loop (σ := Nat×(Nat→Int)) (fun s => [(3,.ptr 0 1 0 0),(4,.ptr 1 1 0 0),(6,.ptr 2 1 0 0),(77,.sl 4 (xs.map stC)),(78,I xs.length),(79,I s.1)]) (fun s => [⟨1,5,[cpC c]⟩,⟨1,12,[coA s.2 op (a + 1) nmi]⟩,⟨1,12,[[I 0,I 0,I 0,I 0,I 0,I 0,I 0,I 0,I 0,I 0,I 0,.c (.bool false)]]⟩]) (fun s => s.1 ≤ xs.length∧stepsM xs rr = stepsM (xs.drop s.1) s.2) (fun s => xs.length - s.1) (0,rr) ⟨by omega,rfl⟩ (by exact .G [0,1,2] 1) fun w hi R hC => ?_
    obtain ⟨i,pr⟩ := w
    obtain ⟨hi,hst⟩ := hi
    dsimp only at hi hst hC ⊢
    by_cases hil:i < xs.length
    ·have hm := mget stC xs i hil
     rw [stepsM_drop xs i hil pr] at hst
     obtain ⟨y,hy⟩:∃ y,xs[i] = y := ⟨_,rfl⟩
     rw [hy] at hm hst
     obtain ⟨so,st,sf,sn⟩ := y
     have hdd := do_ok so st sf sn pr
     dsimp only at hst
     generalize doR so st sf sn pr = w at *
     obtain ⟨p2,en⟩ := w
     dsimp only at hst hdd
     cases en
     ·rw [if_neg (by decide)] at hst
      repeat' (first | rw [co_mren] | rw [co_co] | rw [co_t12] | rw [co_t9] | rw [ri_t9] | rw [cp_t5] | rw [co_z] | rw [ri_mren] | rw [co_r] | rw [co_op] | rw [co_at] | rw [co_nmi] | rw [ri_splz] | rw [List.length_map] | refine rI hm ?_ | refine T.call0 e119 rfl hdd ?_ | exact ⟨⟩ | intro (K:KT) hK | intro hcd | (refine go1 ?_ ?_ <;> try clear hK K) | fail)
      exact hC _ _ (i + 1,p2) ⟨by dsimp only; omega,hst⟩ (by dsimp only; omega) (by exact .G [0,1,2] 1)
     ·rw [if_pos rfl] at hst
      rw [hst,if_pos (.inl rfl)] at hQ hQN
      repeat' (first | rw [co_mren] | rw [co_co] | rw [co_t12] | rw [co_t9] | rw [ri_t9] | rw [cp_t5] | rw [co_z] | rw [ri_mren] | rw [co_r] | rw [co_op] | rw [co_at] | rw [co_nmi] | rw [ri_splz] | rw [List.length_map] | refine rI hm ?_ | refine T.call0 e119 rfl hdd ?_ | exact ⟨⟩ | intro (K:KT) hK | intro hcd | (refine go1 ?_ ?_ <;> try clear hK K) | fail)
      exact WS.drop (n := 0) rfl rfl
    ·obtain rfl:i = xs.length := by omega
     rw [List.drop_length] at hst
     rw [hst] at hQ hQN
     by_cases hl2:(cl.length:Int) ≤ a + 1
     ·rw [if_pos (.inr hl2)] at hQ hQN
      repeat' (first | rw [co_mren] | rw [co_co] | rw [co_t12] | rw [co_t9] | rw [ri_t9] | rw [cp_t5] | rw [co_z] | rw [ri_mren] | rw [co_r] | rw [co_op] | rw [co_at] | rw [co_nmi] | rw [ri_splz] | rw [List.length_map] | refine T.call0 e120 rfl hcy ?_ | exact ⟨⟩ | intro (K:KT) hK | intro hcd | (refine go1 ?_ ?_ <;> try clear hK K) | fail)
      all_goals first | exact WS.drop (n := 0) rfl rfl | (exfalso; omega)
     ·rw [if_neg (by
       rintro (h | h)
       ·cases h
       ·exact hl2 h)] at hQ hQN
      repeat' (first | rw [co_mren] | rw [co_co] | rw [co_t12] | rw [co_t9] | rw [ri_t9] | rw [cp_t5] | rw [co_z] | rw [ri_mren] | rw [co_r] | rw [co_op] | rw [co_at] | rw [co_nmi] | rw [ri_splz] | rw [List.length_map] | refine T.call0 e120 rfl hcy ?_ | exact ⟨⟩ | intro (K:KT) hK | intro hcd | (refine go1 ?_ ?_ <;> try clear hK K) | fail)
      all_goals first | exact WS.drop (n := 0) rfl rfl | (exfalso; omega)
end Go.Proofs.YtonhglhdlgbcnabGreat.Calc
namespace Go.Proofs.YtonhglhdlgbcnabGreat.Calc
open Go Code
set_option linter.unusedSimpArgs false
set_option linter.unusedVariables false
set_option maxRecDepth 20000
set_option maxHeartbeats 8000000
attribute [local irreducible] WOpsT AW AK RK AKW UK UC
structure Mac where
 t:Int
 k:Core
 ds:List Dv
 bus:Bus
def evI (cs:List Chp) (t:Int) (os ns:List Int) (i:Nat):List Ev := match cs[i]?,os[i]?,ns[i]? with
 | some c,some o,some n => if n = o then [] else [⟨t,c.name,n⟩]
 | _,_,_ => []
def evN (cs:List Chp) (t:Int) (os ns:List Int) (n:Nat):List Ev := (List.range n).flatMap (evI cs t os ns)
theorem evN_succ (cs:List Chp) (t:Int) (os ns:List Int) (n:Nat):evN cs t os ns (n + 1) = evN cs t os ns n ++ evI cs t os ns n:=by
 unfold evN; rw [List.range_succ,List.flatMap_append]; simp
theorem evI_len (cs:List Chp) (t:Int) (os ns:List Int) (n:Nat):(evI cs t os ns n).length ≤ 1:=by
 unfold evI; (repeat' split) <;> simp
theorem evN_len (cs:List Chp) (t:Int) (os ns:List Int) (n:Nat):(evN cs t os ns n).length ≤ n:=by
 induction n with
 | zero => simp [evN]
 | succ n ih => rw [evN_succ,List.length_append]; have := evI_len cs t os ns n; omega
def outL (cs:List Chp) (ds:List Dv):List Int := List.zipWith outF cs ds
def tickL (cs:List Chp) (ds:List Dv):List Dv := List.zipWith (fun c d => skipV c 1 d) cs ds
theorem outL_get {cs:List Chp} {ds:List Dv} {i:Nat} (h1:i < cs.length) (h2:i < ds.length) (h3:i < (outL cs ds).length):(outL cs ds)[i] = outF cs[i] ds[i] := by simp only [outL,List.getElem_zipWith]
theorem tickL_get {cs:List Chp} {ds:List Dv} {i:Nat} (h1:i < cs.length) (h2:i < ds.length) (h3:i < (tickL cs ds).length):(tickL cs ds)[i] = skipV cs[i] 1 ds[i] := by simp only [tickL,List.getElem_zipWith]
def lineM (B:Brd) (ds:List Dv):Bool := lineR (B.chips.map (hearC B)) (List.zipWith irqF B.chips ds)
def tNext (t:Int):Int := max (-1) (min t 1099511627775) + 1
def gvS (B:Brd) (ins:List Ev) (s:Mac):Bool×List Dv := givM B.chips s.t ins (s.k.nmi,s.ds)
def askS (B:Brd) (ins:List Ev) (s:Mac):Core×Bus := askM B.cpu ⟨s.k.r,s.k.op,s.k.a,(gvS B ins s).1⟩ (lineM B (gvS B ins s).2)
noncomputable def accS (B:Brd) (ins:List Ev) (s:Mac):List Dv×Int := accM B.chips (askS B ins s).2.d (askS B ins s).2.addr (askS B ins s).2.data (gvS B ins s).2
noncomputable def stepM (B:Brd) (ins:List Ev) (s:Mac):Mac := ⟨tNext s.t,tellM B.cpu (askS B ins s).1 (accS B ins s).2,tickL B.chips (accS B ins s).1,⟨(askS B ins s).2.d,(askS B ins s).2.addr,(accS B ins s).2⟩⟩
noncomputable def stepO (B:Brd) (ins:List Ev) (s:Mac):List Ev := evN B.chips s.t (outL B.chips s.ds) (outL B.chips (tickL B.chips (accS B ins s).1)) B.chips.length
theorem placeM_r (x:Int) (r:Nat→Int) (hr:Fits r):0 ≤ (placeM x r).1∧(placeM x r).1 < 65536:=by
 have r7 := hr 7 (by decide)
 have r8 := hr 8 (by decide)
 have r3 := hr 3 (by decide)
 simp at r7 r8 r3
 unfold placeM
 split
 ·dsimp only; omega
 split
 ·dsimp only; omega
 split
 ·dsimp only; omega
 split
 ·dsimp only; omega
 split
 ·dsimp only; omega
 split
 ·dsimp only; omega
 split
 ·dsimp only; omega
 ·rename_i h0 h1 h2 h3 h4 h5 h6
  have:x = 6∨x = 7∨x = 8∨x = 9∨x = 10∨x = 11 := by omega
  rcases this with rfl | rfl | rfl | rfl | rfl | rfl <;> (dsimp only; decide)
theorem startM_rr (c:Cpu) (k:Core) (irq:Bool):(startM c k irq).r = k.r:=by
 unfold startM; (repeat' split) <;> rfl
theorem askM_addr (c:Cpu) (k:Core) (irq:Bool):0 ≤ (askM c k irq).2.addr∧(askM c k irq).2.addr < 65536:=by
 have hf := fitR_fits k.r
 have hr:(askA c k irq).r = fitR k.r:=by
  unfold askA; split
  ·exact startM_rr _ _ _
  ·rfl
 unfold askM
 generalize askA c k irq = k2 at *
 unfold askB
 split
 ·dsimp only; rw [hr]; exact placeM_r _ _ hf
 ·split
  ·exact ⟨Int.le_refl 0,by show (0:Int) < 65536; decide⟩
  ·split
   ·exact ⟨Int.le_refl 0,by show (0:Int) < 65536; decide⟩
   ·dsimp only; rw [hr]; exact placeM_r _ _ hf
structure MacOk (B:Brd):Prop where
 n1:1 ≤ B.chips.length
 n12:B.chips.length ≤ 12
 w:B.wires.length ≤ 256
 names:∀ c ∈ B.chips,c.name.size ≤ 1000
 place:∀ c ∈ B.chips,0 ≤ c.base∧c.base ≤ 65536∧1 ≤ c.size∧c.size ≤ 65536
 cpu:SmlP B.cpu
theorem tick1_ok (c:Chp) (d:Dv) (hd:DvOk c d):DvOk c (skipV c 1 d)∧FnE Tryz.prog 67 [.agg (chV c),.agg (dvC d)] [] (.agg (dvC (skipV c 1 d))) []:=by
 obtain ⟨h1,h2⟩ := chSkip_ok c d hd 1 (by decide)
 refine ⟨h1,?_⟩
 generalize skipV c 1 d = e at *
 obtain ⟨xn,xk,xb,xs,xd⟩ := c
 obtain ⟨d1,d2⟩ := d
 obtain ⟨e1,e2⟩ := e
 dsimp only [chV,dvC] at h2 ⊢
 refine N.fnC Tryz.func67 k67 fun Q hQ hQN => ?_
 repeat' (first | refine T.call0 e121 rfl h2 ?_ | exact ⟨⟩ | intro (K:KT) hK | intro hcd | (refine go1 ?_ ?_ <;> try clear hK K) | fail)
 exact WS.drop (n := 0) rfl rfl
theorem mrow_ren (t:Int) (r:Nat→Int) (op a:Int) (b:Bool) (d:V) (x y z:Int) (ks:List Nat):(mrow t r op a b d x y z).map (ren ks) = mrow t r op a b (ren ks d) x y z := rfl
theorem mrow_bus (t:Int) (r:Nat→Int) (op a:Int) (b:Bool) (d:V) (x y z x' y' z':Int):spl (mrow t r op a b d x y z) 14 [I x',I y',I z'] = mrow t r op a b d x' y' z' := rfl
theorem mrow_t (t t':Int) (r:Nat→Int) (op a:Int) (b:Bool) (d:V) (x y z:Int):spl (mrow t r op a b d x y z) 0 [I t'] = mrow t' r op a b d x y z := rfl
theorem mrow_t17 (t:Int) (r:Nat→Int) (op a:Int) (b:Bool) (d:V) (x y z:Int):(mrow t r op a b d x y z).take 17 = mrow t r op a b d x y z := rfl
theorem boV_t8 (B:Brd):(boV B).take 8 = boV B := rfl
theorem boV_cpu (B:Brd):((boV B).drop 1).take 5 = cpC B.cpu := rfl
theorem step_ok (B:Brd) (hB:MacOk B) (s:Mac) (v:Nat) (ins:List Ev) (hin:ins.length ≤ 100000) (ht:0 ≤ s.t∧s.t ≤ 1099511627776) (hds:DvsOk B.chips s.ds):FnE Tryz.prog 25 [.agg (boV B),.ptr 0 1 0 0,.sl 3 (ins.map evV)] [⟨1,17,[mrow s.t s.k.r s.k.op s.k.a s.k.nmi (.psl 1 v 0 B.chips.length) s.bus.d s.bus.addr s.bus.data]⟩,⟨v,2,s.ds.map dvC⟩] (.sl 3 ((stepO B ins s).map evV))
  [⟨1,17,[mrow (stepM B ins s).t (stepM B ins s).k.r (stepM B ins s).k.op (stepM B ins s).k.a (stepM B ins s).k.nmi (.psl 1 v 0 B.chips.length) (stepM B ins s).bus.d (stepM B ins s).bus.addr (stepM B ins s).bus.data]⟩,⟨v,2,(stepM B ins s).ds.map dvC⟩]:=by
 obtain ⟨t,⟨r,op,a,b⟩,ds,⟨x,y,z⟩⟩ := s
 obtain ⟨hn1,hn12,hw,hz,hcs,hcpu⟩ := hB
 dsimp only at ht hds ⊢
 have hl := hds.1
 -- what is shown ahead
 have ho := outs_ok B t r op a b v ds x y z (outL B.chips ds) hn12 hl (by unfold outL; rw [List.length_zipWith]; omega) (fun i h => by
  have := (chShow_ok _ _ (hds.2 i h (by omega))).1
  unfold outL; rw [List.getElem_zipWith]; exact this)
 have hos:(outL B.chips ds).length = B.chips.length := by unfold outL; rw [List.length_zipWith]; omega
 rw [hl] at ho
 -- inputs
 have hg := gives_ok B t r op a b v B.chips.length ds x y z ins hn12 rfl hin hds
 have hds2 := givM_ok B.chips t ins (b,ds) hds
 unfold stepM stepO accS askS gvS
 dsimp only
 generalize givM B.chips t ins (b,ds) = g at *
 obtain ⟨b2,ds2⟩ := g
 dsimp only at hg hds2 ⊢
 have hl2 := hds2.1
 -- the line
 have hln := line_ok B t r op a b2 v ds2 x y z (B.chips.map (hearC B)) (List.zipWith irqF B.chips ds2) hn12 hl2 (List.length_map ..) (by rw [List.length_zipWith]; omega) (heard_ok B hn12 hw hz) (fun i h => by
  have := (chShow_ok _ _ (hds2.2 i h (by omega))).2.1
  rw [List.getElem_zipWith]; exact this)
 rw [hl2] at hln
 unfold lineM
 generalize lineR (B.chips.map (hearC B)) (List.zipWith irqF B.chips ds2) = q at *
 -- what is asked
 have hask := ask_c B.cpu ⟨r,op,a,b2⟩ q hcpu.1
 have had := askM_addr B.cpu ⟨r,op,a,b2⟩ q
 generalize askM B.cpu ⟨r,op,a,b2⟩ q = w at *
 obtain ⟨⟨r3,op3,a3,b3⟩,⟨d3,ad3,da3⟩⟩ := w
 dsimp only [coC,buC] at hask had ⊢
 -- what is done
 have hac := access_ok B t r3 op3 a3 b3 v B.chips.length ds2 d3 ad3 da3 hn12 rfl hcs had hds2
 have hds4 := accM_ok B.chips d3 ad3 da3 ds2 hds2
 generalize accM B.chips d3 ad3 da3 ds2 = w at *
 obtain ⟨ds4,da4⟩ := w
 dsimp only at hac hds4 ⊢
 have hl4 := hds4.1
 have htl := tell_c B.cpu hcpu ⟨r3,op3,a3,b3⟩ da4
 generalize tellM B.cpu ⟨r3,op3,a3,b3⟩ da4 = w at *
 obtain ⟨r5,op5,a5,b5⟩ := w
 dsimp only [coC] at htl ⊢
 have hlt:(tickL B.chips ds4).length = ds4.length := by unfold tickL; rw [List.length_zipWith]; omega
 have htk:∀ i (h:i < B.chips.length) (h4:i < ds4.length) (h5:i < (tickL B.chips ds4).length),DvOk B.chips[i] (tickL B.chips ds4)[i]∧FnE Tryz.prog 67 [.agg (chV B.chips[i]),.agg (dvC ds4[i])] [] (.agg (dvC (tickL B.chips ds4)[i])) [] := fun i h h4 h5 => by
  have := tick1_ok _ _ (hds4.2 i h (by omega))
  rw [tickL_get h h4]; exact this
 have hlo:(outL B.chips (tickL B.chips ds4)).length = B.chips.length := by unfold outL; rw [List.length_zipWith]; omega
 have hno:∀ i (h:i < B.chips.length) (h5:i < (tickL B.chips ds4).length) (h6:i < (outL B.chips (tickL B.chips ds4)).length),FnE Tryz.prog 68 [.agg (chV B.chips[i]),.agg (dvC (tickL B.chips ds4)[i])] [] (I (outL B.chips (tickL B.chips ds4))[i]) [] := fun i h h5 h6 => by
  have := (chShow_ok _ _ (htk i h (by omega) (by omega)).1).1
  rw [outL_get h h5]; exact this
 generalize outL B.chips ds = os at *
 generalize outL B.chips (tickL B.chips ds4) = ns at *
 generalize tickL B.chips ds4 = ds5 at *
 clear hds hds2 hds4
 refine N.fnC Tryz.func25 k25 fun Q hQ hQN => ?_
 repeat' (first | rw [mrow_ren] | rw [rows_ren] | rw [mrow_co] | rw [mco_mren] | rw [mrow_stc] | rw [mrow_bus] | rw [mrow_t17] | rw [boV_t8] | rw [boV_cpu] | (show WC _ _ _ _ _ _ _ _ _; first | refine T.callQ [1] e61 rfl (ho) (by exact pA) rfl rfl rfl (by exact rN) ?_ | refine T.cP [0,1] e62 (hg) ?_ | refine T.callQ [1] e64 rfl (hln) (by exact pA) rfl rfl rfl (by exact rN) ?_ | refine T.call0 e63 rfl hask ?_ | refine T.cP [0,1] e65 (hac) ?_ | refine T.call0 e66 rfl htl ?_) | exact ⟨⟩ | intro (K:KT) hK | intro hcd | (refine go1 ?_ ?_ <;> try clear hK K) | fail)
 rw [List.length_map]
 refine N.loop (σ := Nat) (fun i => [(1,.ptr 0 1 0 0),(7,.sl 1 (cells os)),(8,.psl 3 ((evN B.chips t os ns i).length + 1) 0 (evN B.chips t os ns i).length),(61,.sl 5 (B.chips.map chV)),(62,I B.chips.length),(63,I i)]) (fun i => [⟨1,17,[mrow t r5 op5 a5 b5 (.psl 1 v 0 B.chips.length) d3 ad3 da4]⟩,⟨v,2,(mix ds5 ds4 i).map dvC⟩,⟨1,8,[boV B]⟩,⟨(evN B.chips t os ns i).length + 1,3,(evN B.chips t os ns i).map evV⟩]) (fun i => i ≤ B.chips.length) (fun i => B.chips.length - i) 0 (Nat.zero_le _) (Weaks.nilAs 8 3 (by decide) rfl (Weaks.sel (by exact sB) (by rw [mix_0]; rfl))) fun i hi R hC => ?_
 by_cases hil:i < B.chips.length
 ·have hm := mget chV B.chips i hil
  have hi4:i < ds4.length := by omega
  have hi5:i < ds5.length := by omega
  have hd := dev_get (ds := mix ds5 ds4 i) (i := i) (by rw [mix_len hlt]; exact hi4) (mix_get hlt hi4)
  have hl5:(mix ds5 ds4 (i + 1)).length = ds4.length := mix_len hlt _
  have hst:((mix ds5 ds4 i).map dvC).set (i:Int).toNat (dvC ds5[i]) = (mix ds5 ds4 (i + 1)).map dvC := by rw [← mix_set hlt hi4,Int.toNat_natCast,List.map_set]
  have hd2:((mix ds5 ds4 (i + 1)).map dvC)[(i:Int).toNat]? = some (dvC ds5[i]):=by
   rw [← hst,Int.toNat_natCast,List.getElem?_set_self (by rw [List.length_map,mix_len hlt]; exact hi4)]
  have ht1 := (htk i hil hi4 hi5).2
  have ho1 := hno i hil hi5 (by omega)
  have hgo:(cells os)[(i:Int).toNat]? = some [I (os[i]'(by omega))] := cget os i (by omega)
  have hE := evN_len B.chips t os ns i
  have nx := fun fr h => hC fr h (i + 1) (by omega) (by omega)
  rw [evN_succ] at nx
  have hev:evI B.chips t os ns i = if ns[i]'(by omega) = os[i]'(by omega) then [] else [⟨t,B.chips[i].name,ns[i]'(by omega)⟩]:=by
   unfold evI; simp only [List.getElem?_eq_getElem hil,List.getElem?_eq_getElem (show i < os.length by omega),List.getElem?_eq_getElem (show i < ns.length by omega)]
  rw [hev] at nx
  clear hC hev
  generalize evN B.chips t os ns i = E at *
  generalize os[i]'(by omega) = o at *
  generalize ns[i]'(by omega) = n at *
  generalize mix ds5 ds4 (i + 1) = m2 at *
  generalize mix ds5 ds4 i = m1 at *
  generalize B.chips[i] = c at *
  generalize ds4[i] = d at *
  generalize ds5[i] = e at *
  obtain ⟨cn,ck,cb,cs,cd⟩ := c
  obtain ⟨d1,d2⟩ := d
  obtain ⟨e1,e2⟩ := e
  dsimp only [chV,dvC] at hm hd hd2 hst ht1 ho1 nx
  have hst2:(m1.map dvC).set (i:Int).toNat (spl [.sl 1 (cells d1),.sl 1 (bcells d2)] 0 [.sl 1 (cells e1),.sl 1 (bcells e2)]) = m2.map dvC := hst
  by_cases hno:n = o
  ·rw [if_pos hno,List.append_nil] at nx
   repeat' (first | refine rI hm ?_ | refine rI hgo ?_ | refine rL hd ?_ | refine rL hd2 ?_ | refine rS hd ?_ | rw [hst2] | (show WC _ _ _ _ _ _ _ _ _; first | refine T.call0 e67 rfl ht1 ?_ | refine T.call0 e68 rfl ho1 ?_) | exact ⟨⟩ | intro (K:KT) hK | intro hcd | (refine go1 ?_ ?_ <;> try clear hK K) | fail)
   exact nx _ _ (by exact .G [0,1,2,3] 1)
  ·rw [if_neg hno] at nx
   repeat' (first | refine rI hm ?_ | refine rI hgo ?_ | refine rL hd ?_ | refine rL hd2 ?_ | refine rS hd ?_ | rw [hst2] | (show WOpsT _ (⟨_,.app _ _ _ _,none⟩ :: _) _ _ _ _; refine T.app rfl rfl rfl ⟨by decide,by decide⟩ ⟨rfl,rfl,by rw [List.length_map,Nat.zero_add],by simp; omega⟩ ?_) | (show WC _ _ _ _ _ _ _ _ _; first | refine T.call0 e67 rfl ht1 ?_ | refine T.call0 e68 rfl ho1 ?_) | exact ⟨⟩ | intro (K:KT) hK | intro hcd | (refine go1 ?_ ?_ <;> try clear hK K) | fail)
   rw [List.length_append,List.map_append] at nx
   refine nx _ _ (Weaks.gc [0,1,2,3] 1 rfl (by exact sE) ?_)
   show [_,_,_,_] = [_,outB _ _ _ ⟨v,2,m2.map dvC⟩,_,outB _ _ _ ⟨E.length + 1 + 1,3,E.map evV ++ [[I t,.c (.string cn),I n]]⟩]
   rw [outB_flat,outB_flatA]; rfl
 ·obtain rfl:i = B.chips.length := by omega
  rw [show mix ds5 ds4 B.chips.length = ds5 by rw [← hl4]; exact mix_end hlt]
  repeat' (first | rw [mrow_t] | exact ⟨⟩ | intro (K:KT) hK | intro hcd | (refine go1 ?_ ?_ <;> try clear hK K) | fail)
  exact WS.gc [0,1] 1 rfl (by exact oO) (by show Sub (out _ [0,1] 1 (.psl 3 _ 0 _)) _; rw [out_rowsK (f := evV) rfl rfl (Nat.le_refl _)]; exact .rfl)
def maS (s:Mac):List V := mrow s.t s.k.r s.k.op s.k.a s.k.nmi (.sl 2 (s.ds.map dvC)) s.bus.d s.bus.addr s.bus.data
def maB (s:Mac) (b v:Nat):List V := mrow s.t s.k.r s.k.op s.k.a s.k.nmi (.psl b v 0 s.ds.length) s.bus.d s.bus.addr s.bus.data
def MacSt (B:Brd) (s:Mac):Prop := DvsOk B.chips s.ds∧0 ≤ s.t∧s.t ≤ 1099511627776
theorem tNext_r (t:Int) (h:0 ≤ t∧t ≤ 1099511627776):0 ≤ tNext t∧tNext t ≤ 1099511627776 := by unfold tNext; omega
theorem stepM_st (B:Brd) (ins:List Ev) (s:Mac) (h:MacSt B s):MacSt B (stepM B ins s):=by
 refine ⟨?_,tNext_r _ h.2⟩
 have h1:DvsOk B.chips (gvS B ins s).2 := givM_ok _ _ _ _ h.1
 have h2:DvsOk B.chips (accS B ins s).1 := accM_ok _ _ _ _ _ h1
 exact zw_ok _ (fun c _ d hd => (tick1_ok c d hd).1) h2
noncomputable def runS (B:Brd) (ins:List Ev) (s:Mac):Nat→Mac
 | 0 => s
 | i + 1 => stepM B ins (runS B ins s i)
noncomputable def runO (B:Brd) (ins:List Ev) (s:Mac):Nat→List Ev
 | 0 => []
 | i + 1 => runO B ins s i ++ stepO B ins (runS B ins s i)
theorem runS_st (B:Brd) (ins:List Ev) (s:Mac) (h:MacSt B s):∀ i,MacSt B (runS B ins s i):=by
 intro i
 induction i with
 | zero => exact h
 | succ i ih => exact stepM_st B ins _ ih
theorem runO_len (B:Brd) (ins:List Ev) (s:Mac):∀ i,(runO B ins s i).length ≤ B.chips.length * i:=by
 intro i
 induction i with
 | zero => exact Nat.le_refl 0
 | succ i ih =>
  unfold runO
  rw [List.length_append]
  have := evN_len B.chips (runS B ins s i).t (outL B.chips (runS B ins s i).ds) (outL B.chips (tickL B.chips (accS B ins (runS B ins s i)).1)) B.chips.length
  have h2:(stepO B ins (runS B ins s i)).length ≤ B.chips.length := this
  rw [Nat.mul_succ]; omega
theorem runS_add (B:Brd) (ins:List Ev) (s:Mac) (a z:Nat):runS B ins s (a + z) = runS B ins (runS B ins s a) z:=by
 induction z with
 | zero => rfl
 | succ z ih => show stepM _ _ (runS _ _ _ (a + z)) = stepM _ _ (runS _ _ _ z); rw [ih]
theorem runO_add (B:Brd) (ins:List Ev) (s:Mac) (a z:Nat):runO B ins s (a + z) = runO B ins s a ++ runO B ins (runS B ins s a) z:=by
 induction z with
 | zero => exact (List.append_nil _).symm
 | succ z ih => show runO _ _ _ (a + z) ++ stepO _ _ (runS _ _ _ (a + z)) = _ ++ (runO _ _ _ z ++ stepO _ _ _); rw [ih,runS_add,List.append_assoc]
theorem mrow_all (t t':Int) (r r':Nat→Int) (op a op' a':Int) (b b':Bool) (d d':V) (x y z x' y' z':Int):spl (mrow t r op a b d x y z) 0 (mrow t' r' op' a' b' d' x' y' z') = mrow t' r' op' a' b' d' x' y' z' := rfl
theorem mrow_zero (t:Int) (r:Nat→Int) (op a:Int) (b:Bool) (d:V) (x y z:Int):spl [I 0,I 0,I 0,I 0,I 0,I 0,I 0,I 0,I 0,I 0,I 0,I 0,.c (.bool false),.c (.slice none 0 0),I 0,I 0,I 0] 0 (mrow t r op a b d x y z) = mrow t r op a b d x y z := rfl
theorem DvsOk.sml {cs:List Chp} {ds:List Dv} (h:DvsOk cs ds):∀ d ∈ ds,SmlD d:=by
 intro d hd
 obtain ⟨i,hi,rfl⟩ := List.getElem_of_mem hd
 exact (h.2 i (by rw [← h.1]; exact hi) hi).small
theorem copiesS (B:Brd) (hB:MacOk B) (s:Mac) (h:MacSt B s):FnE Tryz.prog 24 [.agg (maS s)] [] (.agg (maB s 0 2)) [⟨2,2,s.ds.map dvC⟩] :=
 mcopies_ok s.t s.k.r s.k.op s.k.a s.k.nmi s.ds s.bus.d s.bus.addr s.bus.data h.1.sml (by rw [h.1.1]; exact hB.n1) (by rw [h.1.1]; exact hB.n12)
theorem runz_ok (B:Brd) (hB:MacOk B) (s:Mac) (ins:List Ev) (n:Nat) (hn:n ≤ 100000) (hin:ins.length ≤ 100000) (h:MacSt B s) (hck:FnE Tryz.prog 23 [.agg (boV B),.agg (maS s),.sl 3 (ins.map evV)] [] (I 0) []):FnE Tryz.prog 8 [.agg (boV B),.agg (maS s),.sl 3 (ins.map evV),I n] [] (.tup [.agg (maB (runS B ins s n) 0 2),.sl 3 ((runO B ins s n).map evV),I 0]) [⟨2,2,(runS B ins s n).ds.map dvC⟩]:=by
 have hcp := copiesS B hB s h
 have hl := h.1.1
 unfold maB maS at *
 rw [hl] at hcp
 refine N.fnC Tryz.func8 k8 fun Q hQ hQN => ?_
 repeat' (first | rw [mrow_ren] | rw [rows_ren] | rw [mrow_all] | rw [mrow_zero] | rw [mrow_t17] | rw [boV_t8] | (show WC _ _ _ _ _ _ _ _ _; first | refine T.call0 e23 rfl hck ?_ | refine T.callN e24 rfl (hcp) (by simp) ?_) | exact ⟨⟩ | intro (K:KT) hK | intro hcd | (refine go1 ?_ ?_ <;> try clear hK K) | fail)
 all_goals first | (exfalso; omega) | skip
 refine N.loop (σ := Nat) (fun i => [(2,.sl 3 (ins.map evV)),(4,.ptr 0 1 0 0),(5,.ptr 1 1 0 0),(8,.ptr 2 1 0 0),(12,.psl 4 (i + 1) 0 (runO B ins s i).length),(31,I n),(32,I i)]) (fun i => [⟨1,8,[boV B]⟩,⟨1,17,[mrow (runS B ins s i).t (runS B ins s i).k.r (runS B ins s i).k.op (runS B ins s i).k.a (runS B ins s i).k.nmi (.psl 3 2 0 B.chips.length) (runS B ins s i).bus.d (runS B ins s i).bus.addr (runS B ins s i).bus.data]⟩,⟨1,17,[[I 0,I 0,I 0,I 0,I 0,I 0,I 0,I 0,I 0,I 0,I 0,I 0,.c (.bool false),.c (.slice none 0 0),I 0,I 0,I 0]]⟩,⟨2,2,(runS B ins s i).ds.map dvC⟩,⟨i + 1,3,(runO B ins s i).map evV⟩]) (fun i => i ≤ n) (fun i => n - i) 0 (Nat.zero_le _) (Weaks.nilAs 12 3 (by decide) rfl (Weaks.sel (by exact sB) rfl)) fun i hi R hC => ?_
 by_cases hil:i < n
 ·have nx := fun fr h => hC fr h (i + 1) (by omega) (by omega)
  have hr := runS_st B ins s h i
  have hst := step_ok B hB (runS B ins s i) 2 ins hin hr.2 hr.1
  have hol := runO_len B ins s i
  have ho2:(runO B ins s i).length ≤ 1200000:=by
   have h1 := hB.n12
   have h2:B.chips.length * i ≤ 12 * 100000 := Nat.mul_le_mul h1 (by omega)
   omega
  have hsl:(stepO B ins (runS B ins s i)).length ≤ 12 := Nat.le_trans (evN_len _ _ _ _ _) hB.n12
  unfold runS runO at nx
  clear hC
  generalize stepM B ins (runS B ins s i) = s' at *
  generalize stepO B ins (runS B ins s i) = o at *
  generalize runO B ins s i = E at *
  generalize runS B ins s i = s1 at *
  obtain ⟨t1,⟨r1,op1,a1,b1⟩,ds1,⟨x1,y1,z1⟩⟩ := s1
  obtain ⟨t',⟨r',op',a',b'⟩,ds',⟨x',y',z'⟩⟩ := s'
  dsimp only at hst nx ⊢
  repeat' (first | rw [mrow_ren] | rw [rows_ren] | rw [mrow_t17] | rw [boV_t8] | (show WOpsT _ (⟨_,.app _ _ _ _,none⟩ :: _) _ _ _ _; refine T.app rfl rfl rfl ⟨by decide,by decide⟩ ⟨rfl,rfl,by rw [List.length_map,Nat.zero_add],by simp; omega⟩ ?_) | refine T.cP [1,3] e25 (hst) ?_ | exact ⟨⟩ | intro (K:KT) hK | intro hcd | (refine go1 ?_ ?_ <;> try clear hK K) | fail)
  rw [List.length_map,← List.length_append,← List.map_append]
  exact nx _ _ (by exact .G [0,1,2,3,4] 1)
 ·obtain rfl:i = n := by omega
  have hl2 := (runS_st B ins s h i).1.1
  rw [hl2] at hQ hQN
  repeat' (first | rw [mrow_all] | rw [mrow_zero] | rw [mrow_t17] | exact ⟨⟩ | intro (K:KT) hK | intro hcd | (refine go1 ?_ ?_ <;> try clear hK K) | fail)
  exact WS.gc [3] 1 rfl (by show [_] = [outB _ [3] 1 ⟨2,2,(runS B ins s i).ds.map dvC⟩]; rw [outB_flat]) (by
   show Sub (.tup [.agg (mrow _ _ _ _ _ (out _ [3] 1 (.psl 3 2 0 _)) _ _ _),out _ [3] 1 (.psl 4 _ 0 _),I 0]) _
   rw [out_rowsK (f := evV) rfl rfl (Nat.le_refl _)]
   exact .rfl)
theorem ixFC_ok (f:Nat) (he:enters Tryz.prog f = true) (x:Ev) (p:Chp→Bool) (l:List Chp) (hl:l.length ≤ 256) (hp:∀ c:Chp,FnE Tryz.prog f [.agg (chV c),.ptr 0 1 0 0] [⟨1,3,[evV x]⟩] (.c (.bool (p c))) [⟨1,3,[evV x]⟩]):FnE Tryz.prog 108 [.sl 5 (l.map chV),.fn f [.ptr 0 1 0 0]] [⟨1,3,[evV x]⟩] (I (fidx p l)) [⟨1,3,[evV x]⟩]:=by
 obtain ⟨x1,x2,x3⟩ := x
 dsimp only [evV] at hp ⊢
 refine N.fnC Tryz.func108 k108 fun Q hQ hQN => ?_
 repeat' (first | rw [List.length_map] | exact ⟨⟩ | intro (K:KT) hK | intro hcd | (refine go1 ?_ ?_ <;> try clear hK K) | fail)
 refine N.loop (σ := Nat) (fun j => [(0,.sl 5 (l.map chV)),(1,.fn f [.ptr 0 1 0 0]),(7,I l.length),(8,I j)]) (fun j => [⟨1,3,[[I x1,.c (.string x2),I x3]]⟩]) (fun j => j ≤ l.length∧∀ k,k < j→∀ hk:k < l.length,p l[k] = false) (fun j => l.length - j) 0 ⟨Nat.zero_le _,fun k hk => absurd hk (by omega)⟩ (Weaks.sel (by exact sB) rfl) fun j hj R hC => ?_
 obtain ⟨hj,hb⟩ := hj
 by_cases hjl:j < l.length
 ·have hm := mget chV l j hjl
  have hv := hp l[j]
  have hx:p l[j] = true→fidx p l = j := fun h => fidx_at hjl hb h
  have hy:p l[j] = false→∀ k,k < j + 1→∀ hk:k < l.length,p l[k] = false := fun h k hk hkl => by
   by_cases hkj:k = j
   ·subst hkj; exact h
   ·exact hb k (by omega) hkl
  generalize p l[j] = q at *
  generalize l[j] = c at *
  obtain ⟨cn,ck,cb,cs,cd⟩ := c
  dsimp only [chV] at hm hv
  cases q
  ·have hy := hy rfl
   repeat' (first | refine rI hm ?_ | refine T.ofFn rfl (C.read [0] he rfl hv rfl rfl rfl rfl rfl ?_) | exact ⟨⟩ | intro (K:KT) hK | intro hcd | (refine go1 ?_ ?_ <;> try clear hK K) | fail)
   exact hC _ _ (j + 1) ⟨by omega,hy⟩ (by omega) (Weaks.sel (by exact sB) rfl)
  ·rw [hx rfl] at hQ hQN
   repeat' (first | refine rI hm ?_ | refine T.ofFn rfl (C.read [0] he rfl hv rfl rfl rfl rfl rfl ?_) | exact ⟨⟩ | intro (K:KT) hK | intro hcd | (refine go1 ?_ ?_ <;> try clear hK K) | fail)
   exact WS.gc [0] 1 rfl (by exact oO) .rfl
 ·obtain rfl:j = l.length := by omega
  rw [fidx_no fun k hk => hb k hk hk] at hQ hQN
  repeat' (first | exact ⟨⟩ | intro (K:KT) hK | intro hcd | (refine go1 ?_ ?_ <;> try clear hK K) | fail)
  exact WS.gc [0] 1 rfl (by exact oO) .rfl
theorem ctFC_ok (f:Nat) (he:enters Tryz.prog f = true) (x:Ev) (p:Chp→Bool) (l:List Chp) (hl:l.length ≤ 256) (hp:∀ c:Chp,FnE Tryz.prog f [.agg (chV c),.ptr 0 1 0 0] [⟨1,3,[evV x]⟩] (.c (.bool (p c))) [⟨1,3,[evV x]⟩]):FnE Tryz.prog 56 [.sl 5 (l.map chV),.fn f [.ptr 0 1 0 0]] [⟨1,3,[evV x]⟩] (.c (.bool (l.any p))) [⟨1,3,[evV x]⟩]:=by
 have hx := ixFC_ok f he x p l hl hp
 rw [← fidx_any]
 generalize fidx p l = q at *
 obtain ⟨x1,x2,x3⟩ := x
 dsimp only [evV] at hx ⊢
 refine N.fnC Tryz.func56 k56 fun Q hQ hQN => ?_
 repeat' (first | refine T.callQ [0] e108 rfl (hx) (by exact pA) rfl rfl rfl (by exact rN) ?_ | exact ⟨⟩ | intro (K:KT) hK | intro hcd | (refine go1 ?_ ?_ <;> try clear hK K) | fail)
 exact WS.gc [0] 1 rfl (by exact oO) .rfl
theorem mcheck1_ok (x:Ev) (c:Chp):FnE Tryz.prog 57 [.agg (chV c),.ptr 0 1 0 0] [⟨1,3,[evV x]⟩] (.c (.bool (decide (c.name = x.chip)))) [⟨1,3,[evV x]⟩]:=by
 obtain ⟨nm,k,b,z,dat⟩ := c
 obtain ⟨x1,x2,x3⟩ := x
 dsimp only [chV,evV]
 refine N.fnC Tryz.func57 k57 fun Q hQ hQN => ?_
 repeat' (first | exact ⟨⟩ | intro (K:KT) hK | intro hcd | (refine go1 ?_ ?_ <;> try clear hK K) | fail)
 exact WS.gc [0] 1 rfl (by exact oO) .rfl
structure InsOk (B:Brd) (ins:List Ev):Prop where
 len:ins.length ≤ 500
 ord:∀ i (h:i + 1 < ins.length),ins[i].at_ ≤ ins[i + 1].at_
 names:∀ x ∈ ins,x.chip = sCpu∨∃ c ∈ B.chips,c.name = x.chip
 rng:∀ x ∈ ins,0 ≤ x.at_∧x.at_ ≤ 1000000
theorem check_ok (B:Brd) (hB:MacOk B) (s:Mac) (ins:List Ev) (h:MacSt B s) (hi:InsOk B ins) (hck:FnE Tryz.prog 20 [.agg (boV B)] [] (I 0) []):FnE Tryz.prog 23 [.agg (boV B),.agg (maS s),.sl 3 (ins.map evV)] [] (I 0) []:=by
 have hl := h.1.1
 have ht := h.2
 have hlen := hi.len
 have hn12 := hB.n12
 unfold maS
 refine N.fnC Tryz.func23 k23 fun Q hQ hQN => ?_
 repeat' (first | rw [List.length_map] | rw [hl] | refine T.call0 e20 rfl hck ?_ | exact ⟨⟩ | intro (K:KT) hK | intro hcd | (refine go1 ?_ ?_ <;> try clear hK K) | fail)
 all_goals first | (exfalso; omega) | skip
 refine N.loop (σ := Nat) (fun i => [(2,.sl 3 (ins.map evV)),(3,.ptr 0 1 0 0),(36,.sl 3 (ins.map evV)),(37,I ins.length),(38,I i)]) (fun i => [⟨1,8,[boV B]⟩]) (fun i => i ≤ ins.length) (fun i => ins.length - i) 0 (Nat.zero_le _) (by exact .G [0] 1) fun i hil R hC => ?_
 by_cases hil:i < ins.length
 ·have hm := mget evV ins i hil
  have hct := ctFC_ok 57 e57 ins[i] (fun c => decide (c.name = ins[i].chip)) B.chips (by omega) (mcheck1_ok ins[i])
  have hnm:ins[i].chip = sCpu∨B.chips.any (fun c => decide (c.name = ins[i].chip)) = true:=by
   rcases hi.names _ (List.getElem_mem hil) with h1 | ⟨c,h1,h2⟩
   ·exact .inl h1
   ·exact .inr (List.any_eq_true.2 ⟨c,h1,decide_eq_true h2⟩)
  have hpr:∀ (h:0 < i),∃ a q w,(ins.map evV)[((i:Int) - 1).toNat]? = some [I a,.c (.string q),I w]∧a ≤ ins[i].at_:=by
   intro h
   have h1 := hi.ord (i - 1) (by omega)
   have h2 := mget evV ins (i - 1) (by omega)
   simp only [show i - 1 + 1 = i by omega] at h1
   refine ⟨ins[i - 1].at_,ins[i - 1].chip,ins[i - 1].n,?_,h1⟩
   rw [show ((i:Int) - 1).toNat = i - 1 by omega]
   rw [Int.toNat_natCast] at h2
   exact h2
  generalize B.chips.any (fun c => decide (c.name = ins[i].chip)) = q at *
  generalize ins[i] = x at *
  obtain ⟨x1,x2,x3⟩ := x
  dsimp only [evV] at hm hct hnm hpr
  unfold sCpu at hnm
  by_cases h0:0 < i
  ·obtain ⟨pa,pq,pw,hp1,hp2⟩ := hpr h0
   by_cases h1:x2 = ⟨#[99,112,117]⟩
   ·skip
    repeat' (first | refine rI hm ?_ | refine rI hp1 ?_ | exact ⟨⟩ | intro (K:KT) hK | intro hcd | (refine go1 ?_ ?_ <;> try clear hK K) | fail)
    all_goals first | (exfalso; exact absurd h1 (by assumption)) | exact hC _ _ (i + 1) (by omega) (by omega) (by exact .G [0] 1)
   ·have hq:q = true:=by
     rcases hnm with h | h
     ·exact absurd h h1
     ·exact h
    subst hq
    repeat' (first | refine rI hm ?_ | refine rI hp1 ?_ | refine T.callQ [1] e56 rfl (hct) (by exact pA) rfl rfl rfl (by exact rN) ?_ | exact ⟨⟩ | intro (K:KT) hK | intro hcd | (refine go1 ?_ ?_ <;> try clear hK K) | fail)
    all_goals first | (exfalso; exact absurd h1 (by assumption)) | exact hC _ _ (i + 1) (by omega) (by omega) (by exact .G [0] 1)
  ·by_cases h1:x2 = ⟨#[99,112,117]⟩
   ·skip
    repeat' (first | refine rI hm ?_ | exact ⟨⟩ | intro (K:KT) hK | intro hcd | (refine go1 ?_ ?_ <;> try clear hK K) | fail)
    all_goals first | (exfalso; exact absurd h1 (by assumption)) | exact hC _ _ (i + 1) (by omega) (by omega) (by exact .G [0] 1)
   ·have hq:q = true:=by
     rcases hnm with h | h
     ·exact absurd h h1
     ·exact h
    subst hq
    repeat' (first | refine rI hm ?_ | refine T.callQ [1] e56 rfl (hct) (by exact pA) rfl rfl rfl (by exact rN) ?_ | exact ⟨⟩ | intro (K:KT) hK | intro hcd | (refine go1 ?_ ?_ <;> try clear hK K) | fail)
    all_goals first | (exfalso; exact absurd h1 (by assumption)) | exact hC _ _ (i + 1) (by omega) (by omega) (by exact .G [0] 1)
 ·obtain rfl:i = ins.length := by omega
  repeat' (first | exact ⟨⟩ | intro (K:KT) hK | intro hcd | (refine go1 ?_ ?_ <;> try clear hK K) | fail)
  exact WS.c rfl rfl
def inpK (cs:List Chp) (l:List Int):Int := sval (srest l 90) (cs.length + 1)
def inpN (cs:List Chp) (l:List Int):ByteArray := match cs[(inpK cs l).toNat]? with
 | some c => c.name
 | none => sCpu
def inpR (cs:List Chp) (l:List Int):List Int := srest (srest l 90) (cs.length + 1)
def inpG (cs:List Chp):Nat→Int→List Ev→List Int→List Ev
 | 0,_,acc,_ => acc
 | f + 1,a,acc,l => if l.length = 0 then acc else inpG cs f (a + sval l 90) (acc ++ [⟨a + sval l 90,inpN cs l,sval (inpR cs l) 256⟩]) (srest (inpR cs l) 256)
def inpM (B:Brd) (l:List Int):List Ev := inpG B.chips 40 0 [] l
structure InpI (B:Brd) (a:Int) (acc:List Ev):Prop where
 ord:∀ i (h:i + 1 < acc.length),acc[i].at_ ≤ acc[i + 1].at_
 last:∀ i (h:i < acc.length),acc[i].at_ ≤ a
 names:∀ x ∈ acc,x.chip = sCpu∨∃ c ∈ B.chips,c.name = x.chip
 lo:∀ i (h:i < acc.length),0 ≤ acc[i].at_
 up:0 ≤ a∧a ≤ 90 * acc.length
theorem inpN_ok (B:Brd) (l:List Int):inpN B.chips l = sCpu∨∃ c ∈ B.chips,c.name = inpN B.chips l:=by
 unfold inpN
 cases h:B.chips[(inpK B.chips l).toNat]? with
 | none => exact .inl rfl
 | some c => exact .inr ⟨c,List.mem_of_getElem? h,rfl⟩
theorem inpG_ok (B:Brd):∀ (f:Nat) (a:Int) (acc:List Ev) (l:List Int),InpI B a acc→(∃ a',InpI B a' (inpG B.chips f a acc l))∧(inpG B.chips f a acc l).length ≤ acc.length + f:=by
 intro f
 induction f with
 | zero => intro a acc l h; exact ⟨⟨a,h⟩,Nat.le_refl _⟩
 | succ f ih =>
  intro a acc l h
  unfold inpG
  split
  ·exact ⟨⟨a,h⟩,Nat.le_add_right _ _⟩
  ·have hr := sval_range l 90 (by decide)
   have h2:InpI B (a + sval l 90) (acc ++ [⟨a + sval l 90,inpN B.chips l,sval (inpR B.chips l) 256⟩]):=by
    refine ⟨fun i hi => ?_,fun i hi => ?_,fun x hx => ?_,fun i hi => ?_,?_⟩
    ·rw [List.length_append,List.length_singleton] at hi
     rw [List.getElem_append_left (show i < acc.length by omega)]
     by_cases h3:i + 1 < acc.length
     ·rw [List.getElem_append_left h3]; exact h.ord i h3
     ·rw [List.getElem_append_right (by omega)]
      simp only [List.getElem_singleton]
      have := h.last i (by omega)
      omega
    ·rw [List.length_append,List.length_singleton] at hi
     by_cases h3:i < acc.length
     ·rw [List.getElem_append_left h3]; have := h.last i h3; omega
     ·rw [List.getElem_append_right (by omega)]
      simp only [List.getElem_singleton]; omega
    ·rcases List.mem_append.1 hx with hx | hx
     ·exact h.names x hx
     ·rw [List.mem_singleton] at hx; subst hx; exact inpN_ok B l
    ·rw [List.length_append,List.length_singleton] at hi
     by_cases h3:i < acc.length
     ·rw [List.getElem_append_left h3]; exact h.lo i h3
     ·rw [List.getElem_append_right (by omega)]
      simp only [List.getElem_singleton]; have := h.up; omega
    ·have := h.up
     rw [List.length_append,List.length_singleton]; omega
   obtain ⟨h3,h4⟩ := ih _ _ (srest (inpR B.chips l) 256) h2
   refine ⟨h3,?_⟩
   rw [List.length_append,List.length_singleton] at h4
   omega
theorem inpM_ok (B:Brd) (l:List Int):InsOk B (inpM B l):=by
 obtain ⟨⟨a,h1⟩,h2⟩ := inpG_ok B 40 0 [] l ⟨fun i h => absurd h (by simp),fun i h => absurd h (by simp),fun x h => by simp at h,fun i h => absurd h (by simp),⟨Int.le_refl _,Int.le_refl _⟩⟩
 simp only [List.length_nil,Nat.zero_add] at h2
 refine ⟨by unfold inpM; omega,h1.ord,h1.names,fun x hx => ?_⟩
 obtain ⟨i,hi,rfl⟩ := List.getElem_of_mem hx
 have h3 := h1.lo i hi
 have h4 := h1.last i hi
 have h5 := h1.up
 unfold inpM at *
 omega
theorem inputs_ok (B:Brd) (hB:MacOk B) (l:List Int):FnE Tryz.prog 9 [.agg (boV B),.sl 1 (cells l)] [] (.sl 3 ((inpM B l).map evV)) []:=by
 have hn1 := hB.n1
 have hn12 := hB.n12
 unfold inpM
 generalize hG:inpG B.chips 40 0 [] l = G
 refine N.fnC Tryz.func9 k9 fun Q hQ hQN => ?_
 repeat' (first | exact ⟨⟩ | intro (K:KT) hK | intro hcd | (refine go1 ?_ ?_ <;> try clear hK K) | fail)
 refine N.loop (σ := Nat×Int×List Ev×List Int) (fun s => [(2,.ptr 0 1 0 0),(5,.ptr 1 1 0 0),(6,.psl 2 (s.2.2.1.length + 1) 0 s.2.2.1.length),(7,I s.2.1)]) (fun s => [⟨1,8,[boV B]⟩,strB s.2.2.2,⟨s.2.2.1.length + 1,3,s.2.2.1.map evV⟩]) (fun s => s.2.2.1.length + s.1 = 40∧(0 ≤ s.2.1∧s.2.1 ≤ 90 * s.2.2.1.length)∧inpG B.chips s.1 s.2.1 s.2.2.1 s.2.2.2 = G) (fun s => s.1) (40,0,[],l) ⟨rfl,⟨Int.le_refl _,Int.le_refl _⟩,hG⟩ (Weaks.nilAs 6 3 (by decide) rfl (Weaks.sel (by exact sB) rfl)) fun w hw R hC => ?_
 obtain ⟨f,a,acc,l1⟩ := w
 obtain ⟨hf,ha,hst⟩ := hw
 dsimp only at hf ha hst hC ⊢
 cases f with
 | zero =>
  unfold inpG at hst
  subst hst
  repeat' (first | rw [cells_len] | exact ⟨⟩ | intro (K:KT) hK | intro hcd | (refine go1 ?_ ?_ <;> try clear hK K) | fail)
  all_goals first | exact WS.rows (f := evV) rfl (Nat.le_refl _) | (exfalso; omega)
 | succ f =>
  unfold inpG at hst
  by_cases h0:l1.length = 0
  ·rw [if_pos h0] at hst
   subst hst
   repeat' (first | rw [cells_len] | exact ⟨⟩ | intro (K:KT) hK | intro hcd | (refine go1 ?_ ?_ <;> try clear hK K) | fail)
   all_goals first | exact WS.rows (f := evV) rfl (Nat.le_refl _) | (exfalso; omega)
  ·rw [if_neg h0] at hst
   have n1 := next_ok l1 90 (by decide)
   have n2 := next_ok (srest l1 90) (B.chips.length + 1) (by omega)
   have n3 := next_ok (inpR B.chips l1) 256 (by decide)
   have r1 := sval_range l1 90 (by decide)
   have r2 := sval_range (srest l1 90) (B.chips.length + 1) (by omega)
   have nx := fun fr h s h1 => hC fr h (f,s) h1 (by dsimp only; omega)
   clear hC
   have hk:inpK B.chips l1 = sval (srest l1 90) (B.chips.length + 1) := rfl
   have hr3:inpR B.chips l1 = srest (srest l1 90) (B.chips.length + 1) := rfl
   by_cases hkn:inpK B.chips l1 < B.chips.length
   ·have hkl:(inpK B.chips l1).toNat < B.chips.length := by omega
    have hm:(B.chips.map chV)[(inpK B.chips l1).toNat]? = some (chV B.chips[(inpK B.chips l1).toNat]) := by rw [List.getElem?_map,List.getElem?_eq_getElem hkl]; rfl
    rw [show inpN B.chips l1 = B.chips[(inpK B.chips l1).toNat].name by unfold inpN; rw [List.getElem?_eq_getElem hkl]] at hst
    generalize B.chips[(inpK B.chips l1).toNat] = c at *
    obtain ⟨cn,ck,cb,cs,cd⟩ := c
    dsimp only [chV] at hm hst
    rw [← hk] at n2
    rw [← hr3] at n2
    repeat' (first | rw [cells_len] | rw [List.length_map] | refine rI hm ?_ | (show WOpsT _ (⟨_,.app _ _ _ _,none⟩ :: _) _ _ _ _; refine T.app rfl rfl rfl ⟨by decide,by decide⟩ ⟨rfl,rfl,by rw [List.length_map,Nat.zero_add],by simp; omega⟩ ?_) | (show WC _ _ _ _ _ _ _ _ _; first | refine T.call1 1 e17 rfl rfl (n1) ?_ | refine T.call1 1 e17 rfl rfl (n2) ?_ | refine T.call1 1 e17 rfl rfl (n3) ?_) | exact ⟨⟩ | intro (K:KT) hK | intro hcd | (refine go1 ?_ ?_ <;> try clear hK K) | fail)
    have nx2 := fun fr h => nx fr h (a + sval l1 90,acc ++ [⟨a + sval l1 90,cn,sval (inpR B.chips l1) 256⟩],srest (inpR B.chips l1) 256) ⟨by dsimp only; rw [List.length_append,List.length_singleton]; omega,by dsimp only; rw [List.length_append,List.length_singleton]; omega,hst⟩
    dsimp only at nx2
    rw [List.length_append,List.map_append] at nx2
    refine nx2 _ _ (Weaks.gc [0,1,2] 1 rfl (by exact sE) ?_)
    show [_,_,_] = [_,_,outB _ _ _ ⟨acc.length + 1 + 1,3,acc.map evV ++ [[I (a + sval l1 90),.c (.string cn),I (sval (inpR B.chips l1) 256)]]⟩]
    rw [outB_flatA]; rfl
   ·rw [show inpN B.chips l1 = sCpu by unfold inpN; rw [List.getElem?_eq_none (by omega)]] at hst
    unfold sCpu at hst
    rw [← hk] at n2
    rw [← hr3] at n2
    repeat' (first | rw [cells_len] | rw [List.length_map] | (show WOpsT _ (⟨_,.app _ _ _ _,none⟩ :: _) _ _ _ _; refine T.app rfl rfl rfl ⟨by decide,by decide⟩ ⟨rfl,rfl,by rw [List.length_map,Nat.zero_add],by simp; omega⟩ ?_) | (show WC _ _ _ _ _ _ _ _ _; first | refine T.call1 1 e17 rfl rfl (n1) ?_ | refine T.call1 1 e17 rfl rfl (n2) ?_ | refine T.call1 1 e17 rfl rfl (n3) ?_) | exact ⟨⟩ | intro (K:KT) hK | intro hcd | (refine go1 ?_ ?_ <;> try clear hK K) | fail)
    have nx2 := fun fr h => nx fr h (a + sval l1 90,acc ++ [⟨a + sval l1 90,⟨#[99,112,117]⟩,sval (inpR B.chips l1) 256⟩],srest (inpR B.chips l1) 256) ⟨by dsimp only; rw [List.length_append,List.length_singleton]; omega,by dsimp only; rw [List.length_append,List.length_singleton]; omega,hst⟩
    dsimp only at nx2
    rw [List.length_append,List.map_append] at nx2
    refine nx2 _ _ (Weaks.gc [0,1,2] 1 rfl (by exact sE) ?_)
    show [_,_,_] = [_,_,outB _ _ _ ⟨acc.length + 1 + 1,3,acc.map evV ++ [[I (a + sval l1 90),.c (.string ⟨#[99,112,117]⟩),I (sval (inpR B.chips l1) 256)]]⟩]
    rw [outB_flatA]; rfl
end Go.Proofs.YtonhglhdlgbcnabGreat.Calc
