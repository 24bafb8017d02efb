/- Several texts in one (CalcI, CalcJ, CalcP, CalcQ, CalcS, CalcT, CalcU, CalcZ), for the proof of LawBoardClashes. No condition beyond those in each lemma. -/
import Derived.Test.YtdbbnlafkndcnaaPLawBoardClashesB
import Derived.Below
import Derived.SizedLaws
import Derived.ChangeSlices
import Derived.OpenShut
import Derived.WalkKit
import Derived.ProofKit
import Derived.ChangeOld
namespace Go.Proofs.Ytdbbnlafkndcnaa.Calc
open Go
variable {X:Nat→Prop}
inductive AC where
 | skip
 | reg (ops:List AOper) (live:List Nat)
 | dreg (ops:List AOper) (bef:List (List Nat)) (live:List Nat)
 | seq (a b:AC)
 | cond (x:AO) (a b:AC)
 | block (id:Nat) (b:AC)
 | loop (b:AC)
 | exit (id:Nat)
 | ret
 deriving Inhabited
section
variable {P:Program} {w0:World} {ι0:List Place} {n:Nat}
theorem lk_keep (l:List Nat) (fr:Fr) (i:Nat):lk (keep l fr) i=.any∨lk (keep l fr) i=lk fr i:=by
 induction l with
 | nil=>exact .inl rfl
 | cons x l ih =>
  have e:keep (x :: l) fr=(x,lk fr x) :: keep l fr:=rfl
  rw [e]
  simp only [lk]
  by_cases h:x=i
  ·subst h; rw [if_pos rfl]; exact .inr rfl
  ·rw [if_neg h]; exact ih
def Weak (k:Nat) (fr:Fr) (h:List Blk) (fr':Fr) (h':List Blk):Prop :=
 (h'=h∧∀ i,lk fr' i=.any∨lk fr' i=lk fr i) ∨
 ∃ (ids:List Nat) (m:Nat),ids.Nodup∧(∀ b ∈ ids,b < h.length)∧(∀ b,b < k→ids[b]?=some b)∧h'=outH h ids m∧∀ i,lk fr' i=.any∨lk fr' i=out h ids m (lk fr i)
theorem St.weak {fr fr':Fr} {h h':List Blk} {a:Act} {w:World} (hS:St X w0 ι0 n fr h a w) (hW:Weak ι0.length fr h fr' h'):St X w0 ι0 n fr' h' a w:=by
 obtain ⟨⟨ι,H,hFr,hRf,hSl⟩,hn,hdef⟩:=hS
 rcases hW with ⟨rfl,hlk⟩|⟨ids,m,hnd,hlt,hpre,rfl,hlk⟩
 ·refine ⟨⟨ι,H,hFr,hRf,fun i=>?_⟩,hn,hdef⟩
  rcases hlk i with e|e <;> rw [e]
  ·exact .any
  ·exact hSl i
 ·obtain ⟨ι',rfl,H',hrel,hown⟩:=reindex H ids hnd hlt m
  refine ⟨⟨_,H',⟨hFr.size,hFr.same,fun r hr=>hFr.own r (hown r hr),hFr.os,hFr.tape,hFr.output⟩,fun b p hp=>?_,fun i=>?_⟩,hn,hdef⟩
  ·obtain ⟨p',h1,h2⟩:=hRf b p hp
   have hb:=(List.getElem?_eq_some_iff.1 hp).1
   refine ⟨p',?_,h2⟩
   rw [List.getElem?_map,hpre b hb,Option.map_some,List.getD_eq_getElem?_getD,h1]; rfl
  ·rcases hlk i with e|e <;> rw [e]
   ·exact .any
   ·exact hrel _ _ (hSl i)
inductive Sub:V→V→Prop
 | rfl {x}:Sub x x
 | any {x}:Sub x .any
 | nil {e}:Sub (.c (.slice none 0 0)) (.sl e [])
 | agg {as bs:List V} (hl:as.length=bs.length) (h:∀ (i:Nat) (a b:V),as[i]?=some a→bs[i]?=some b→Sub a b):Sub (.agg as) (.agg bs)
 | tup {as bs:List V} (hl:as.length=bs.length) (h:∀ (i:Nat) (a b:V),as[i]?=some a→bs[i]?=some b→Sub a b):Sub (.tup as) (.tup bs)
 | sl {e:Nat} {as bs:List (List V)} (hl:as.length=bs.length) (he:∀ row ∈ bs,row.length=e) (hd:∀ (i j:Nat) (b:V),cellOf bs i j=some b→∃ a,cellOf as i j=some a)
   (h:∀ (i j:Nat) (a b:V),cellOf as i j=some a→cellOf bs i j=some b→Sub a b):Sub (.sl e as) (.sl e bs)
theorem Rel.sub {w:World} {own:Nat→Prop} {x y:V} (hs:Sub x y):∀ {κ:List Place} {v:Value},Rel w own κ v x→Rel w own κ v y:=by
 induction hs with
 | rfl=>intro κ v h; exact h
 | any=>intro κ v h; exact .any
 | nil=>intro κ v h; rw [h.c_eq]; exact .slnil
 | agg hl h ih =>
  intro κ v hr
  cases hr with
  | agg h1 h2 h3 =>
   refine .agg (by omega) h2 fun i c b hc hb=>?_
   have hi:=(List.getElem?_eq_some_iff.1 hb).1
   exact ih i _ b (List.getElem?_eq_getElem (by omega)) hb (h3 i c _ hc (List.getElem?_eq_getElem (by omega)))
 | tup hl h ih =>
  intro κ v hr
  cases hr with
  | tup h1 h3 =>
   refine .tup (by omega) fun i c b hc hb=>?_
   have hi:=(List.getElem?_eq_some_iff.1 hb).1
   exact ih i _ b (List.getElem?_eq_getElem (by omega)) hb (h3 i c _ hc (List.getElem?_eq_getElem (by omega)))
 | sl hl he hd h ih =>
  intro κ v hr
  cases hr with
  | slnil =>
   rename_i e bs
   have:bs=[]:=List.eq_nil_of_length_eq_zero (by simpa using hl.symm)
   subst this
   exact .slnil
  | sl cv hlen hcap hspot hesz hc hrr =>
   refine .sl cv (by omega) hcap hspot he (fun i j b hb=>?_) (fun i j b hb=>?_)
   ·obtain ⟨a,ha⟩:=hd i j b hb
    exact hc i j a ha
   ·obtain ⟨a,ha⟩:=hd i j b hb
    exact ih i j a b ha hb (hrr i j a ha)
theorem HRel.alt {w:World} {ι:List Place} {h:List Blk} (H:HRel X w ι h) {b:Nat} {B B':Blk} (hb:h[b]?=some B) (hv:B'.ver=B.ver) (he:B'.esz=B.esz) (hl:B'.rows.length=B.rows.length)
  (hr:∀ row ∈ B'.rows,row.length=B.esz) (hc:∀ i j x',cellOf B'.rows i j=some x'→∃ x,cellOf B.rows i j=some x∧∀ v,Rel w (OX X ι) ι v x→Rel w (OX X ι) ι v x'):HRel X w ι (h.set b B'):=by
 refine ⟨by rw [List.length_set]; exact H.len,fun i p k hi hk=>?_,H.sep,H.xsep,H.xlt⟩
 rw [List.getElem?_set] at hk
 by_cases hib:b=i
 ·subst hib
  rw [if_pos rfl,if_pos (List.getElem?_eq_some_iff.1 hb).1] at hk
  cases hk
  have K:=H.blk b p B hi hb
  refine ⟨by rw [hv]; exact K.ver,by rw [he]; exact K.esz,K.pos,by rw [hl]; exact K.num,K.fit,fun row h=>by rw [hr row h]; exact K.esz,fun h=>?_,K.virt⟩
  obtain ⟨c,T,fz,g1,g2,g3,g4⟩:=K.cells h
  refine ⟨c,T,fz,g1,g2,g3,fun i j x' hx=>?_⟩
  obtain ⟨x,hx1,hx2⟩:=hc i j x' hx
  obtain ⟨v,e1,e2,e3⟩:=g4 i j x hx1
  exact ⟨v,e1,e2,hx2 v e3⟩
 ·rw [if_neg hib] at hk
  exact H.blk i p k hi hk
def setC (rows:List (List V)) (r c:Nat) (x:V):List (List V):=rows.set r ((rows.getD r []).set c x)
theorem setC_cell {rows:List (List V)} {r c:Nat} {x:V} {i j:Nat} {y:V} (h:cellOf (setC rows r c x) i j=some y):(i=r∧j=c∧y=x∧∃ z,cellOf rows r c=some z)∨cellOf rows i j=some y:=by
 unfold cellOf setC at *
 rw [List.getElem?_set] at h
 by_cases hr:r=i
 ·subst hr
  rw [if_pos rfl] at h
  by_cases hl:r < rows.length
  ·rw [if_pos hl] at h
   rw [List.getD_eq_getElem?_getD,List.getElem?_eq_getElem hl] at h
   simp only [Option.getD_some,Option.bind_some,List.getElem?_set] at h
   rw [List.getElem?_eq_getElem hl]
   by_cases hc:c=j
   ·subst hc
    rw [if_pos rfl] at h
    split at h
    ·rename_i hcl
     cases h
     exact .inl ⟨rfl,rfl,rfl,_,by rw [Option.bind_some]; exact List.getElem?_eq_getElem hcl⟩
    ·cases h
   ·rw [if_neg hc] at h
    exact .inr (by rw [Option.bind_some]; exact h)
  ·rw [if_neg hl] at h; cases h
 ·rw [if_neg hr] at h; exact .inr h
theorem setC_len (rows:List (List V)) (r c:Nat) (x:V):(setC rows r c x).length=rows.length:=by unfold setC; rw [List.length_set]
theorem setC_row {rows:List (List V)} {r c e:Nat} {x:V} (h:∀ row ∈ rows,row.length=e):∀ row ∈ setC rows r c x,row.length=e:=by
 intro row hrow
 unfold setC at hrow
 by_cases hl:r < rows.length
 ·rcases List.mem_or_eq_of_mem_set hrow with h1|rfl
  ·exact h row h1
  ·rw [List.length_set,List.getD_eq_getElem?_getD,List.getElem?_eq_getElem hl]; exact h _ (List.getElem_mem hl)
 ·rw [List.set_eq_of_length_le (by omega)] at hrow; exact h row hrow
inductive Weaks (k:Nat):Fr→List Blk→Fr→List Blk→Prop
 | refl {fr h}:Weaks k fr h fr h
 | step {fr h fr1 h1 fr2 h2} (hw:Weak k fr h fr1 h1) (hr:Weaks k fr1 h1 fr2 h2):Weaks k fr h fr2 h2
 | sub {fr h fr1 fr2 h2} (hw:∀ i,Sub (lk fr i) (lk fr1 i)) (hr:Weaks k fr1 h fr2 h2):Weaks k fr h fr2 h2
 | virt {fr h fr1 fr2 h2} (e:Nat) (he:0 < e) (hw:∀ i,lk fr1 i=lk fr i∨(lk fr i=.c (.slice none 0 0)∧lk fr1 i=.psl h.length 1 0 0)) (hr:Weaks k fr1 (h ++ [⟨1,e,[]⟩]) fr2 h2):Weaks k fr h fr2 h2
 | virtc {fr h fr2 h2} (e b r c:Nat) {B:Blk} (he:0 < e) (hb:h[b]?=some B) (hc:cellOf B.rows r c=some (.c (.slice none 0 0))) (hr:Weaks k fr (h.set b { B with rows:=setC B.rows r c (.psl h.length 1 0 0) } ++ [⟨1,e,[]⟩]) fr2 h2):Weaks k fr h fr2 h2
theorem Weaks.of {k:Nat} {fr h fr1 h1} (hw:Weak k fr h fr1 h1):Weaks k fr h fr1 h1:=.step hw .refl
theorem St.weaks {X:Nat→Prop} {w0:World} {ι0:List Place} {n:Nat} {fr fr':Fr} {h h':List Blk} (hW:Weaks ι0.length fr h fr' h'):∀ {a:Act} {w:World},St X w0 ι0 n fr h a w→St X w0 ι0 n fr' h' a w:=by
 induction hW with
 | refl=>intro a w hS; exact hS
 | step hw _ ih=>intro a w hS; exact ih (hS.weak hw)
 | sub hw _ ih =>
  intro a w hS
  obtain ⟨⟨ι,H,hFr,hRf,hSl⟩,hn,hdef⟩:=hS
  exact ih ⟨⟨ι,H,hFr,hRf,fun i=>(hSl i).sub (hw i)⟩,hn,hdef⟩
 | @virt fr h fr1 fr2 h2 e he hw _ ih =>
  intro a w hS
  obtain ⟨⟨ι,H,hFr,hRf,hSl⟩,hn,hdef⟩:=hS
  have hp:=H.push (w':=w) ⟨0,0,e,0,0,1,false⟩ ⟨1,e,[]⟩ (Nat.le_refl _) (fun _ _=>rfl) rfl rfl rfl (by simp) rfl rfl he rfl (Nat.le_refl _) (by simp) (by simp) (fun _=>rfl)
  refine ih ⟨⟨_,hp.1,hFr.trans hp.2.1,hRf.trans hp.2.2,fun i=>?_⟩,hn,hdef⟩
  have h0:=(hSl i).mono (hp.2.1.x X) hp.2.2
  rcases hw i with e1|⟨e1,e2⟩
  ·rw [e1]; exact h0
  ·rw [e2]
   rw [e1] at h0
   rw [h0.c_eq]
   refine .psl ⟨0,0,e,0,0,1,false⟩ (by rw [← H.len,List.getElem?_append_right (Nat.le_refl _)]; simp) (Nat.le_refl _) fun _=>?_
   exact ⟨none,0,rfl,Nat.le_refl _,Nat.le_refl _,Nat.le_refl _,.inl rfl⟩
 | @virtc fr h fr2 h2 e b r c B he hb hc _ ih =>
  intro a w hS
  obtain ⟨⟨ι,H,hFr,hRf,hSl⟩,hn,hdef⟩:=hS
  have hlt:=(List.getElem?_eq_some_iff.1 hb).1
  have hp:=H.push (w':=w) ⟨0,0,e,0,0,1,false⟩ ⟨1,e,[]⟩ (Nat.le_refl _) (fun _ _=>rfl) rfl rfl rfl (by simp) rfl rfl he rfl (Nat.le_refl _) (by simp) (by simp) (fun _=>rfl)
  have hb2:(h ++ [⟨1,e,[]⟩])[b]?=some B:=by rw [List.getElem?_append_left hlt]; exact hb
  have hbw:∀ row ∈ B.rows,row.length=B.esz:=by
   have:=(H.blk b _ B (List.getElem?_eq_getElem (by rw [H.len]; exact hlt)) hb)
   intro row hrow
   rw [this.rows row hrow,this.esz]
  have h2:=hp.1.alt hb2 (B':={ B with rows:=setC B.rows r c (.psl h.length 1 0 0) }) rfl rfl (setC_len ..) (setC_row hbw) (fun i j x hx=>by
   rcases setC_cell hx with ⟨rfl,rfl,rfl,z,hz⟩|hx
   ·refine ⟨_,hc,fun v hv=>?_⟩
    rw [hv.c_eq]
    refine .psl ⟨0,0,e,0,0,1,false⟩ (by rw [← H.len,List.getElem?_append_right (Nat.le_refl _)]; simp) (Nat.le_refl _) fun _=>?_
    exact ⟨none,0,rfl,Nat.le_refl _,Nat.le_refl _,Nat.le_refl _,.inl rfl⟩
   ·exact ⟨x,hx,fun v hv=>hv⟩)
  rw [List.set_append_left _ _ hlt] at h2
  exact ih ⟨⟨_,h2,hFr.trans hp.2.1,hRf.trans hp.2.2,fun i=>(hSl i).mono (hp.2.1.x X) hp.2.2⟩,hn,hdef⟩
def boolOf:V→Option Bool
 | .c (.bool b)=>some b
 | _=>none
def WOpsW (P:Program) (k:Nat):List AOper→Fr→List Blk→(Fr→List Blk→Prop)→Prop
 | [],fr,h,K=>∃ fr2 h2,Weaks k fr h fr2 h2∧K fr2 h2
 | o :: rest,fr,h,K=>∃ fr2 h2,Weaks k fr h fr2 h2 ∧
  match o.guard with
  | none=>WOp P o.op fr2 h2 fun x h'=>WOpsW P k rest (put fr2 o.dst x) h' K
  | some (g,want)=>match lk fr2 g with
   | .c (.bool b)=>if b=want then WOp P o.op fr2 h2 fun x h'=>WOpsW P k rest (put fr2 o.dst x) h' K
     else WOpsW P k rest (put fr2 o.dst (.c undef)) h2 K
   | .c (.tuple _)=>WOpsW P k rest (put fr2 o.dst (.c undef)) h2 K
   | _=>False
section
variable {P:Program} {w0:World} {ι0:List Place} {n:Nat}
theorem wops_sound {ops:Array Oper} {Q:Exit→Act→World→Prop} {K:Fr→List Blk→Prop} (hQ:∀ fr h a w,K fr h→St X w0 ι0 n fr h a w→Q .normal a w) :
  ∀ (l:List Nat) (aops:List AOper),(l.mapM fun i=>(ops[i]?).bind (compOne P ops n))=some aops→∀ (fr:Fr) (h:List Blk) (a:Act) (w:World),St X w0 ι0 n fr h a w→WOpsW P ι0.length aops fr h K→wpOps P ops Q l a w:=by
 intro l
 induction l with
 | nil =>
  intro aops hl fr h a w hS hW
  simp at hl; subst hl
  obtain ⟨fr2,h2,hw,hW⟩:=hW
  exact hQ _ _ _ _ hW (hS.weaks hw)
 | cons i l ih =>
  intro aops hl fr h a w hS hW
  simp only [List.mapM_cons] at hl
  obtain ⟨ao,h1,hl⟩:=bind_some hl
  obtain ⟨aos,h2,hl⟩:=bind_some hl
  cases hl
  obtain ⟨o,ho,h1⟩:=bind_some h1
  obtain ⟨hc,hd,hdn,hg⟩:=compOne_parts h1
  simp only [wpOps,ho]
  obtain ⟨fr0,h0,hw0,hW⟩:=hW
  have hS:=hS.weaks hw0
  clear hw0
  revert hS hW
  generalize fr0=fr
  generalize h0=h
  intro hW hS
  have run:WOp P ao.op fr h (fun x h'=>WOpsW P ι0.length aos (put fr ao.dst x) h' K)→o.wp P a w (wpOps P ops Q l) Q:=fun hW =>
   wop_sound (hc (fun e=>by rw [e] at hW; simp [WOp,stepA] at hW)) hS hdn hW (fun x h' a' w' hK hS'=>ih aos h2 (put fr ao.dst x) h' a' w' (by rw [hd]; exact hS') hK)
  rcases hg with ⟨hg1,hg2⟩|⟨j,b,g,hg1,hg2,hg3⟩
  ·simp only [hg2] at hW
   rw [if_pos (by simp [Region.wanted,hg1])]
   exact .inl (run hW)
  ·simp only [hg3] at hW
   split at hW
   ·rename_i b' hb'
    have hval:=guard_val hS hb'
    have hy:yielded ops a.tmps j=some b':=by simp [yielded,hg2,hval]
    split at hW
    ·rename_i he
     rw [if_pos (by simp [Region.wanted,hg1,hy,he])]
     exact .inl (run hW)
    ·rename_i he
     rw [if_neg (by simp [Region.wanted,hg1,hy,he])]
     exact ih aos h2 (put fr ao.dst (.c undef)) h _ w (by rw [hd]; exact hS.skip o.dst undef hdn) hW
   ·rename_i t hb'
    have hval:=guard_any hS (want:=b) hb' (by rintro b' ⟨⟩)
    have hnw:Region.wanted o (yielded ops a.tmps)=false:=by
     simp only [Region.wanted,hg1,yielded,hg2,Option.bind_some]
     cases hz:a.tmps[g]? with
     | none=>rfl
     | some z =>
      rw [hz] at hval
      cases z with
      | bool b'=>simp at hval; cases b <;> cases b' <;> simp_all
      | _=>rfl
    rw [if_neg (by simp [hnw])]
    exact ih aos h2 (put fr ao.dst (.c undef)) h _ w (by rw [hd]; exact hS.skip o.dst undef hdn) hW
   ·exact hW.elim
end
def AW (P:Program) (k:Nat):AC→(Exit→Fr→List Blk→Prop)→Fr→List Blk→Prop
 | .skip,Q,fr,h=>Q .normal fr h
 | .reg ops live,Q,fr,h=>WOpsW P k ops fr h fun fr' h'=>Q .normal (keep live fr') h'
 | .dreg ops bef live,Q,fr,h=>WOpsT P ops [] fr h fun tr fr' h'=>okD bef ops tr=true∧Q .normal (keep live fr') h'
 | .seq a b,Q,fr,h=>AW P k a (fun e fr' h'=>match e with
   | .normal=>∃ fr2 h2,Weaks k fr' h' fr2 h2∧AW P k b Q fr2 h2
   | e=>Q e fr' h') fr h
 | .cond x a b,Q,fr,h=>match boolOf (x.ev (lk fr)) with
   | some t=>if t=true then AW P k a Q fr h else AW P k b Q fr h
   | none=>x.ev (lk fr)=.bit∧AW P k a Q fr h∧AW P k b Q fr h
 | .block id b,Q,fr,h=>AW P k b (fun e fr' h'=>match e with
   | .exit i=>if i=id then Q .normal fr' h' else Q (.exit i) fr' h'
   | e=>Q e fr' h') fr h
 | .loop b,Q,fr,h=>∃ (I:Fr→List Blk→Prop) (μ:Fr→List Blk→Nat),(∃ fr' h',Weaks k fr h fr' h'∧I fr' h') ∧
   ∀ fr h,I fr h→AW P k b (fun e fr' h'=>match e with
    | .normal=>∃ fr'' h'',Weaks k fr' h' fr'' h''∧I fr'' h''∧μ fr'' h'' < μ fr h
    | e=>Q e fr' h') fr h
 | .exit id,Q,fr,h=>Q (.exit id) fr h
 | .ret,Q,fr,h=>Q .ret fr h
def lkv:List (Nat×List Nat)→Nat→List Nat
 | [],_=>[]
 | (i,l) :: r,j=>if i=j then l else lkv r j
def compC (P:Program) (n:Nat) (vars:List (Nat×List Nat)):Code→Option AC
 | .skip=>some .skip
 | .region id ops draw=>if draw then
   (if P.follows .mixedOrders=true then do
    let l ← compR P n ops
    let B ← befGo ops.toList []
    if slotsOk B l=true then some (.dreg l B (lkv vars id)) else none
   else none) else (compR P n ops).map fun l=>.reg l (lkv vars id)
 | .seq a b=>do pure (.seq (← compC P n vars a) (← compC P n vars b))
 | .cond c a b=>do pure (.cond (← compO c) (← compC P n vars a) (← compC P n vars b))
 | .block id b=>(compC P n vars b).map (.block id)
 | .loop b=>(compC P n vars b).map .loop
 | .exit id=>some (.exit id)
 | .ret=>some .ret
 | _=>none
def Lift (X:Nat→Prop) (w0:World) (ι0:List Place) (n:Nat) (Q:Exit→Fr→List Blk→Prop):Exit→Act→World→Prop
 | .normal,a,w=>∃ fr h,St X w0 ι0 n fr h a w∧Q .normal fr h
 | .exit i,a,w=>∃ fr h,St X w0 ι0 n fr h a w∧Q (.exit i) fr h
 | .ret,a,w=>∃ fr h,St X w0 ι0 n fr h a w∧Q .ret fr h
 | _,_,_=>False
theorem aw_sound {vars:List (Nat×List Nat)}:∀ (c:Code) (ac:AC),compC P n vars c=some ac→∀ (Q:Exit→Fr→List Blk→Prop) (fr:Fr) (h:List Blk) (a:Act) (w:World),
  St X w0 ι0 n fr h a w→AW P ι0.length ac Q fr h→c.wp P (Lift X w0 ι0 n Q) a w:=by
 intro c
 induction c with
 | skip=>intro ac hc Q fr h a w hS hA; cases hc; exact wp_skip ⟨fr,h,hS,hA⟩
 | exit id=>intro ac hc Q fr h a w hS hA; cases hc; exact wp_exit ⟨fr,h,hS,hA⟩
 | ret=>intro ac hc Q fr h a w hS hA; cases hc; exact wp_ret ⟨fr,h,hS,hA⟩
 | region id ops draw =>
  intro ac hc Q fr h a w hS hA
  simp only [compC] at hc
  split at hc
  ·rename_i hd
   subst hd
   split at hc
   ·rename_i hmx
    obtain ⟨l,h1,hc⟩:=bind_some hc
    obtain ⟨B,h2,hc⟩:=bind_some hc
    split at hc
    ·rename_i hsl
     cases hc
     refine wp_region_any hmx (dreg_sound (K:=fun fr' h'=>Q .normal (keep (lkv vars id) fr') h') h1 h2 hsl (fun fr h a w hK hS=>⟨keep (lkv vars id) fr,h,hS.weak (.inl ⟨rfl,fun i=>lk_keep (lkv vars id) fr i⟩),hK⟩) ?_ hA)
     obtain ⟨⟨ι,H,hFr,hRf,hSl⟩,hn,hdef⟩:=hS
     have hF:Frm w (Own ι) { w with drawn:=w.drawn+1 } (Own ι):=⟨Nat.le_refl _,fun _ _ _=>rfl,fun r hr=>.inl hr,rfl,rfl,rfl⟩
     exact ⟨⟨ι,H.grown hF (fun _ _=>rfl),hFr.trans hF,hRf,hSl.mono hF (Refs.refl _)⟩,hn,hdef⟩
    ·cases hc
   ·cases hc
  ·rename_i hd
   have hd:draw=false:=by simpa using hd
   subst hd
   obtain ⟨l,h1,rfl⟩:=Option.map_eq_some_iff.1 hc
   refine wp_region (wops_sound (K:=fun fr' h'=>Q .normal (keep (lkv vars id) fr') h') (fun fr h a w hK hS=>⟨keep (lkv vars id) fr,h,hS.weak (.inl ⟨rfl,fun i=>lk_keep (lkv vars id) fr i⟩),hK⟩) _ l h1 fr h a w hS hA)
 | seq x y ihx ihy =>
  intro ac hc Q fr h a w hS hA
  simp only [compC] at hc
  obtain ⟨ax,h1,hc⟩:=bind_some hc
  obtain ⟨ay,h2,hc⟩:=bind_some hc
  cases hc
  refine wp_seq (wp_mono (ihx ax h1 _ fr h a w hS hA) fun e a' w' hL=>?_)
  cases e <;> simp only [Lift,Exit.then] at hL ⊢
  ·obtain ⟨fr',h',hS',fr2,h2',hW,hA'⟩:=hL
   exact ihy ay h2 Q fr2 h2' a' w' (hS'.weaks hW) hA'
  ·exact hL
  ·exact hL
 | cond x y z ihy ihz =>
  intro ac hc Q fr h a w hS hA
  simp only [compC] at hc
  obtain ⟨x',h0,hc⟩:=bind_some hc
  obtain ⟨ay,h1,hc⟩:=bind_some hc
  obtain ⟨az,h2,hc⟩:=bind_some hc
  cases hc
  simp only [AW] at hA
  split at hA
  ·rename_i t ht
   have hv:a.eval x=.bool t:=by
    obtain ⟨⟨ι,H,hFr,hRf,hSl⟩,_⟩:=hS
    have:=AO.ev_rel hSl h0
    unfold boolOf at ht
    split at ht
    ·rename_i b e; rw [e] at this; cases ht; exact this.c_eq
    ·cases ht
   cases t
   ·exact wp_cond_false hv (ihz az h2 Q fr h a w hS (by simpa using hA))
   ·exact wp_cond_true hv (ihy ay h1 Q fr h a w hS (by simpa using hA))
  ·obtain ⟨hb,hA1,hA2⟩:=hA
   have hv:∃ t,a.eval x=.bool t:=by
    obtain ⟨⟨ι,H,hFr,hRf,hSl⟩,_⟩:=hS
    have:=AO.ev_rel hSl h0
    rw [hb] at this
    generalize a.eval x=v at this
    cases this with
    | bit=>exact ⟨_,rfl⟩
   obtain ⟨t,hv⟩:=hv
   cases t
   ·exact wp_cond_false hv (ihz az h2 Q fr h a w hS hA2)
   ·exact wp_cond_true hv (ihy ay h1 Q fr h a w hS hA1)
 | block id b ih =>
  intro ac hc Q fr h a w hS hA
  simp only [compC] at hc
  obtain ⟨ab,h1,rfl⟩:=Option.map_eq_some_iff.1 hc
  refine wp_block (wp_mono (ih ab h1 _ fr h a w hS hA) fun e a' w' hL=>?_)
  cases e <;> simp only [Lift,Exit.inBlock] at hL ⊢
  ·exact hL
  ·obtain ⟨fr',h',hS',hA'⟩:=hL
   split at hA'
   ·rename_i hid; rw [if_pos hid]; exact ⟨fr',h',hS',hA'⟩
   ·rename_i hid; rw [if_neg hid]; exact ⟨fr',h',hS',hA'⟩
  ·exact hL
 | loop b ih =>
  intro ac hc Q fr h a w hS hA
  simp only [compC] at hc
  obtain ⟨ab,h1,rfl⟩:=Option.map_eq_some_iff.1 hc
  obtain ⟨I,μ,⟨fr1,h1',hWk,hI⟩,hround⟩:=hA
  intro bf k cs
  have key:∀ m (fr:Fr) (h:List Blk) a w,μ fr h=m→St X w0 ι0 n fr h a w→I fr h →
    ∃ e a' w',Lift X w0 ι0 n Q e a' w'∧Arrives P (lone (bf.at a (.code b :: .inLoop b :: k)) cs w) bf k cs e a' w':=by
   intro m
   induction m using Nat.strongRecOn with
   | _ m ihm =>
    intro fr h a w hm hS hI
    obtain ⟨e,a1,w1,hq,harr⟩:=ih ab h1 _ fr h a w hS (hround fr h hI) bf (.inLoop b :: k) cs
    cases e <;> simp only [Lift] at hq
    ·obtain ⟨fr',h',hS',fr'',h'',hW',hI',hlt⟩:=hq
     obtain ⟨e2,a2,w2,hq2,harr2⟩:=ihm (μ fr'' h'') (hm ▸ hlt) fr'' h'' a1 w1 rfl (hS'.weaks hW') hI'
     exact ⟨e2,a2,w2,hq2,.of_steps (Steps.trans harr (.one step_inLoop)) harr2⟩
    ·exact ⟨.exit _,a1,w1,hq,.pass (x:=.inLoop b) rfl (fun _ _=>.inl (by simp)) harr⟩
    ·exact ⟨.ret,a1,w1,hq,.pass (x:=.inLoop b) rfl (fun _ _=>.inl (by simp)) harr⟩
  obtain ⟨e,a',w',hq,harr⟩:=key _ fr1 h1' a w rfl (hS.weaks hWk) hI
  exact ⟨e,a',w',hq,.of_steps (.one step_loop) harr⟩
 | rangeFunc=>intro ac hc; cases hc
 | scope=>intro ac hc; cases hc
 | label=>intro ac hc; cases hc
 | goto=>intro ac hc; cases hc
 | refuse=>intro ac hc; cases hc
end
end Go.Proofs.Ytdbbnlafkndcnaa.Calc
namespace Go.Proofs.Ytdbbnlafkndcnaa.Calc
open Go
variable {X:Nat→Prop}
inductive AR where
 | t (i:Nat)
 | cell (n:Option Nat) (i:Nat)
 deriving Inhabited
def compRes (P:Program):ResultVar→Option AR
 | .tmp t=>some (.t t)
 | .cell a t=>(aggOf P t).map fun n=>.cell n a
def resOne (fr:Fr) (h:List Blk):AR→Option V
 | .t i=>some (lk fr i)
 | .cell n i=>match stepA (.ld n (.t i)) (AO.ev (lk fr)) (fun b=>h[b]?) h.length with
  | some (x,_,_,_)=>some x
  | none=>none
def tupOf:List V→V
 | [x]=>x
 | l=>.tup l
def resV (ars:List AR) (fr:Fr) (h:List Blk):Option V:=(ars.mapM (resOne fr h)).map tupOf
def WeakV (k:Nat) (x:V) (h:List Blk) (r:V) (h':List Blk):Prop :=
 ∃ (ids:List Nat) (m:Nat),ids.Nodup∧(∀ b ∈ ids,b < h.length)∧(∀ b,b < k→ids[b]?=some b)∧h'=outH h ids m∧r=out h ids m x
def enter:Nat→List V→Fr
 | _,[]=>[]
 | i,v :: vs=>(i,v) :: enter (i+1) vs
theorem lk_enter:∀ (vs:List V) (k i:Nat),lk (enter k vs) i=if k≤i then (vs[i - k]?).getD .any else .any:=by
 intro vs
 induction vs with
 | nil=>intro k i; simp [enter,lk]
 | cons v vs ih =>
  intro k i
  simp only [enter,lk,ih]
  by_cases h:k=i
  ·subst h; simp
  ·rw [if_neg h]
   by_cases h1:k≤i
   ·rw [if_pos h1,if_pos (by omega)]
    have:i - k=(i - (k+1))+1:=by omega
    rw [this]; rfl
   ·rw [if_neg h1,if_neg (by omega)]
section
variable {P:Program}
theorem run_asAddr {t:TypeId} {v cv:Value} {w:World} (h:(Instr.loadAt t v).run P w=.ok cv w):(do loadVar t (← asAddr v)).run P w=.ok cv w:=by
 cases v with
 | pointer a =>
  cases a with
  | none=>simp [Instr.loadAt,Instr.sureAddr] at h
  | some a=>simpa [Instr.loadAt,Instr.sureAddr,asAddr] using h
 | _=>simp [Instr.loadAt,Instr.sureAddr] at h
def resF (tmps:Array Value):ResultVar→Sem Value
 | .tmp t=>pure (tmps.getD t undef)
 | .cell a t=>do loadVar t (← asAddr (tmps.getD a undef))
theorem results_eq (fn:Func) (tmps:Array Value):results fn tmps=(do
  let vs ← fn.results.mapM (resF tmps)
  pure (if h:vs.size=1 then vs[0] else .tuple vs)):=rfl
theorem res_run {w:World} {ι:List Place} {fr:Fr} {h:List Blk} {a:Act} (H:HRel X w ι h) (hs:SlRel X w ι (lk fr) a):∀ (rs:List ResultVar) (ars:List AR) (xs:List V),rs.mapM (compRes P)=some ars→ars.mapM (resOne fr h)=some xs →
  ∃ vs:List Value,(rs.mapM (resF a.tmps)).run P w=.ok vs w∧vs.length=xs.length∧∀ (i:Nat) (v:Value) (x:V),vs[i]?=some v→xs[i]?=some x→Rel w (OX X ι) ι v x:=by
 intro rs
 induction rs with
 | nil =>
  intro ars xs h1 h2
  simp at h1; subst h1
  simp at h2; subst h2
  exact ⟨[],by simp,rfl,by simp⟩
 | cons r rs ih =>
  intro ars xs h1 h2
  simp only [List.mapM_cons] at h1
  obtain ⟨ar,h3,h1⟩:=bind_some h1
  obtain ⟨ars',h4,h1⟩:=bind_some h1
  cases h1
  simp only [List.mapM_cons] at h2
  obtain ⟨x,h5,h2⟩:=bind_some h2
  obtain ⟨xs',h6,h2⟩:=bind_some h2
  cases h2
  obtain ⟨vs,g1,g2,g3⟩:=ih ars' xs' h4 h6
  have one:∃ v,(resF a.tmps r).run P w=.ok v w∧Rel w (OX X ι) ι v x:=by
   cases r with
   | tmp t =>
    simp only [compRes,Option.some.injEq] at h3; subst h3
    simp only [resOne,Option.some.injEq] at h5; subst h5
    exact ⟨_,rfl,hs t⟩
   | cell ad t =>
    simp only [compRes] at h3
    obtain ⟨m,h7,rfl⟩:=Option.map_eq_some_iff.1 h3
    simp only [resOne] at h5
    split at h5
    ·rename_i x' ups news R hst
     cases h5
     obtain ⟨⟨cv,r1,r2⟩,_⟩:=st_ld_same H h7 (hs ad) hst (fun b _=>rfl)
     exact ⟨cv,run_asAddr r1,r2⟩
    ·cases h5
  obtain ⟨v,r1,r2⟩:=one
  refine ⟨v :: vs,?_,by simp [g2],fun i u y hu hy=>?_⟩
  ·rw [List.mapM_cons,Sem.run_bind,r1]
   simp only [Result.andThen_ok,Sem.run_bind,g1,Sem.run_pure]
  ·cases i with
   | zero=>simp at hu hy; subst hu; subst hy; exact r2
   | succ i=>exact g3 i u y (by simpa using hu) (by simpa using hy)
theorem results_run {w:World} {ι:List Place} {fr:Fr} {h:List Blk} {a:Act} (H:HRel X w ι h) (hs:SlRel X w ι (lk fr) a) {fn:Func} {ars:List AR} {x:V} (hr:fn.results.toList.mapM (compRes P)=some ars) (hx:resV ars fr h=some x) :
  ∃ v,(results fn a.tmps).run P w=.ok v w∧Rel w (OX X ι) ι v x:=by
 obtain ⟨xs,h1,rfl⟩:=Option.map_eq_some_iff.1 hx
 obtain ⟨vs,g1,g2,g3⟩:=res_run (P:=P) H hs _ _ _ hr h1
 have hm:(fn.results.mapM (resF a.tmps)).run P w=.ok vs.toArray w:=by
  rw [Array.mapM_eq_mapM_toList,Sem.run_map,g1]; rfl
 rw [results_eq,Sem.run_bind,hm]
 simp only [Result.andThen_ok,Sem.run_pure]
 by_cases hl:vs.length=1
 ·obtain ⟨v,rfl⟩:=List.length_eq_one_iff.1 hl
  obtain ⟨y,rfl⟩:=List.length_eq_one_iff.1 (show xs.length=1 by rw [← g2]; rfl)
  exact ⟨v,by simp,g3 0 v y rfl rfl⟩
 ·refine ⟨.tuple vs.toArray,by simp [hl],?_⟩
  have:tupOf xs=.tup xs:=by
   cases xs with
   | nil=>rfl
   | cons y ys=>cases ys with
    | nil=>simp at g2; omega
    | cons z zs=>rfl
  rw [this]
  exact .tup (by simpa using g2) (fun i c y hc hy=>g3 i c y (by simpa using hc) hy)
theorem fn_body {f:FuncId} {fn:Func} {ac:AC} {vars:List (Nat×List Nat)} {ars:List AR} {args:List V} {h0:List Blk} {r:V} {h':List Blk}
  (hf:P.funcs[f]?=some fn) (hbc:fn.body.bind (compC P fn.ntmps vars)=some ac) (hn:args.length≤fn.ntmps) (hr:fn.results.toList.mapM (compRes P)=some ars)
  (hA:AW P h0.length ac (fun e fr h=>(e=.ret∨e=.normal)∧∃ x,resV ars fr h=some x∧WeakV h0.length x h r h') (enter 0 args) h0):FnE P f args h0 r h':=by
 intro X w ι vs H hsz hargs
 obtain ⟨c,hb,hc⟩:=Option.bind_eq_some_iff.1 hbc
 refine calls_of_wp hf hb ?_
 have hS:St X w ι fn.ntmps (enter 0 args) h0 { tmps:=vs ++ Array.replicate (fn.ntmps - vs.size) undef,defers:=[] } w:=by
  refine ⟨⟨ι,H,Frm.refl _ _,Refs.refl _,fun i=>?_⟩,by simp; omega,rfl⟩
  rw [lk_enter,if_pos (Nat.zero_le _),Nat.sub_zero]
  cases hi:args[i]? with
  | none=>exact .any
  | some y =>
   have hlt:=(List.getElem?_eq_some_iff.1 hi).1
   have hv:vs[i]?=some (vs[i]'(by omega)):=Array.getElem?_eq_getElem _
   have:(vs ++ Array.replicate (fn.ntmps - vs.size) undef).getD i undef=vs[i]'(by omega):=by
    rw [Array.getD_eq_getD_getElem?,Array.getElem?_append_left (by omega),hv]; rfl
   rw [this]
   exact hargs i _ y hv hi
 have:=aw_sound c ac hc _ _ _ _ _ hS (by rw [H.len]; exact hA)
 refine wp_mono this fun e a' w' hL=>?_
 have fin:∀ fr h,St X w ι fn.ntmps fr h a' w'→(∃ x,resV ars fr h=some x∧WeakV h0.length x h r h') →
   a'.defers=[]∧∃ v,(results fn a'.tmps).run P w'=.ok v w'∧∃ v_1 ι',Ending.returned v=.returned v_1∧HRel X w' ι' h'∧Rel w' (OX X ι') ι' v_1 r∧Frm w (Own ι) w' (Own ι')∧Refs ι ι':=by
  rintro fr h ⟨⟨ι1,H1,hF1,hR1,hS1⟩,_,hdef⟩ ⟨x,hx,ids,m,hnd,hlt,hpre,rfl,rfl⟩
  obtain ⟨v,g1,g2⟩:=results_run (P:=P) H1 hS1 hr hx
  obtain ⟨ι',rfl,H',hrel,hown⟩:=reindex H1 ids hnd hlt m
  refine ⟨hdef,v,g1,v,_,rfl,H',hrel _ _ g2,⟨hF1.size,hF1.same,fun r hr=>hF1.own r (hown r hr),hF1.os,hF1.tape,hF1.output⟩,fun b p hp=>?_⟩
  obtain ⟨p',h1,h2⟩:=hR1 b p hp
  have hb:=(List.getElem?_eq_some_iff.1 hp).1
  refine ⟨p',?_,h2⟩
  rw [List.getElem?_map,hpre b (by rw [← H.len]; exact hb),Option.map_some,List.getD_eq_getElem?_getD,h1]; rfl
 cases e <;> simp only [Lift] at hL
 ·obtain ⟨fr,h,hS',_,hx⟩:=hL; exact fin fr h hS' hx
 ·obtain ⟨fr,h,hS',he,_⟩:=hL; rcases he with he|he <;> cases he
 ·obtain ⟨fr,h,hS',_,hx⟩:=hL; exact fin fr h hS' hx
theorem FnE.calls {f:FuncId} {args:List V} {r:V} {h':List Blk} (h:FnE P f args [] r h') (w:World) (vs:Array Value) (hsz:vs.size=args.length)
  (hargs:∀ (i:Nat) (v:Value) (y:V),vs[i]?=some v→args[i]?=some y→Rel w (fun _=>False) [] v y) :
  Calls P f vs w fun e w'=>∃ v ι',e=.returned v∧Rel w' (OX (fun _=>False) ι') ι' v r∧RowKit.Below w.heap.size w w':=by
 have hO:∀ r,¬ Own [] r:=by rintro r ⟨p,hp,_⟩; simp at hp
 refine (h (fun _=>False) w [] vs ⟨rfl,by simp,by simp,by simp,fun r hr=>hr.elim⟩ hsz (fun i v y hv hy=>(hargs i v y hv hy).shrink (fun r hr=>by
  rcases hr with hr|hr
  ·exact hO r hr
  ·exact hr) (Refs.refl _))).mono ?_
 rintro e w' ⟨v,ι',rfl,_,hr,hF,_⟩
 exact ⟨v,ι',rfl,hr,hF.os,hF.tape,hF.output,hF.size,fun k hk=>hF.same k hk (hO k)⟩
end
end Go.Proofs.Ytdbbnlafkndcnaa.Calc
namespace Go.Proofs.Ytdbbnlafkndcnaa.Calc
open Go
set_option linter.unusedSimpArgs false
abbrev I (n:Int):V:=.c (.int .i64 n)
abbrev Tr:=List (List Nat×List Nat)
abbrev KT:=Tr→Fr→List Blk→Prop
section
variable {P:Program} {rest:List AOper} {tr:Tr} {fr:Fr} {h:List Blk} {K:KT} {d:Option Nat}
theorem WOpsW.ofT {k:Nat}:∀ (ops:List AOper) (tr:Tr) (fr:Fr) (h:List Blk) (K:Fr→List Blk→Prop),WOpsT P ops tr fr h (fun _ fr' h'=>K fr' h')→WOpsW P k ops fr h K:=by
 intro ops
 induction ops with
 | nil=>intro tr fr h K hW; exact ⟨_,_,.refl,hW⟩
 | cons o ops ih =>
  intro tr fr h K hW
  have one:∀ {tr':List Nat→List Nat→Tr},WOpT P o.op fr h (fun R W x h'=>WOpsT P ops (tr' R W) (put fr o.dst x) h' fun _ fr' h'=>K fr' h')→WOp P o.op fr h fun x h'=>WOpsW P k ops (put fr o.dst x) h' K:=by
   intro tr' hW
   cases hop:o.op <;> rw [hop] at hW
   case call f args =>
    obtain ⟨perm,m,r,hout,W',h1,h2,h3,h4,h5,h6,h8,h7⟩:=hW
    exact ⟨perm,m,r,hout,h1,h2,h3,h4,h5,h6,ih _ _ _ _ h7⟩
   case callc x args =>
    simp only [WOpT] at hW
    simp only [WOp]
    split at hW
    ·rename_i hx
     rw [hx]
     obtain ⟨perm,m,r,hout,W',h1,h2,h3,h4,h5,h6,h8,h7⟩:=hW
     exact ⟨perm,m,r,hout,h1,h2,h3,h4,h5,h6,ih _ _ _ _ h7⟩
    ·exact hW.elim
   case xcall f args =>
    obtain ⟨r,h1,h2⟩:=hW
    exact ⟨r,h1,ih _ _ _ _ h2⟩
   case inv tab x args =>
    simp only [WOpT] at hW
    simp only [WOp]
    split at hW
    ·rename_i hx
     rw [hx]
     obtain ⟨perm,m,r,hout,W',h1,h2,h3,h4,h5,h6,h8,h7⟩:=hW
     exact ⟨perm,m,r,hout,h1,h2,h3,h4,h5,h6,ih _ _ _ _ h7⟩
    ·exact hW.elim
   all_goals
    simp only [WOpT] at hW
    simp only [WOp]
    split at hW
    ·rename_i hst
     rw [hst]
     exact ih _ _ _ _ hW
    ·exact hW.elim
  simp only [WOpsT] at hW
  simp only [WOpsW]
  refine ⟨_,_,.refl,?_⟩
  split at hW
  ·rename_i hg
   rw [hg]
   exact one (tr':=fun R W=>tr ++ [(R,W)]) hW
  ·rename_i g want hg
   rw [hg]
   dsimp only
   split at hW
   ·rename_i b hb
    rw [hb]
    dsimp only
    split at hW
    ·rename_i he; rw [if_pos he]; exact one (tr':=fun R W=>tr ++ [(R,W)]) hW
    ·rename_i he; rw [if_neg he]; exact ih _ _ _ _ hW
   ·rename_i t hb
    rw [hb]
    exact ih _ _ _ _ hW
   ·exact hW.elim
theorem AW.regS {k:Nat} {ops:List AOper} {live:List Nat} {b:AC} {Q:Exit→Fr→List Blk→Prop} (hW:∀ K:KT,(∀ tr fr' h',AW P k b Q (keep live fr') h'→K tr fr' h')→WOpsT P ops [] fr h K):AW P k (.seq (.reg ops live) b) Q fr h:=by
 simp only [AW]
 exact WOpsW.ofT _ [] _ _ _ (hW _ fun _ _ _ hh=>⟨_,_,.refl,hh⟩)
theorem AW.dregS {k:Nat} {ops:List AOper} {bef:List (List Nat)} {live:List Nat} {b:AC} {Q:Exit→Fr→List Blk→Prop} (hW:∀ K:KT,(∀ tr fr' h',okD bef ops tr=true→AW P k b Q (keep live fr') h'→K tr fr' h')→WOpsT P ops [] fr h K):AW P k (.seq (.dreg ops bef live) b) Q fr h:=by
 simp only [AW]
 exact hW _ fun _ _ _ h1 h2=>⟨h1,_,_,.refl,h2⟩
theorem AW.regN {k:Nat} {ops:List AOper} {live:List Nat} {Q:Exit→Fr→List Blk→Prop} (hW:∀ K:KT,(∀ tr fr' h',Q .normal (keep live fr') h'→K tr fr' h')→WOpsT P ops [] fr h K):AW P k (.reg ops live) Q fr h:=by
 simp only [AW]
 exact WOpsW.ofT _ [] _ _ _ (hW _ fun _ _ _ hh=>hh)
theorem AW.dregN {k:Nat} {ops:List AOper} {bef:List (List Nat)} {live:List Nat} {Q:Exit→Fr→List Blk→Prop} (hW:∀ K:KT,(∀ tr fr' h',okD bef ops tr=true→Q .normal (keep live fr') h'→K tr fr' h')→WOpsT P ops [] fr h K):AW P k (.dreg ops bef live) Q fr h:=by
 simp only [AW]
 exact hW _ fun _ _ _ h1 h2=>⟨h1,h2⟩
theorem AW.condT {k:Nat} {x:AO} {a b:AC} {Q:Exit→Fr→List Blk→Prop} {t:Bool} (hx:x.ev (lk fr)=.c (.bool t)) (ht:t=true) (hA:AW P k a Q fr h):AW P k (.cond x a b) Q fr h:=by
 subst ht; simp only [AW,hx,boolOf,if_true]; exact hA
theorem AW.condF {k:Nat} {x:AO} {a b:AC} {Q:Exit→Fr→List Blk→Prop} {t:Bool} (hx:x.ev (lk fr)=.c (.bool t)) (ht:t=false) (hA:AW P k b Q fr h):AW P k (.cond x a b) Q fr h:=by
 subst ht; simp only [AW,hx,boolOf,Bool.false_eq_true,if_false]; exact hA
theorem AW.condB {k:Nat} {x:AO} {a b:AC} {Q:Exit→Fr→List Blk→Prop} {t:Bool} (hx:x.ev (lk fr)=.c (.bool t)) (hA:t=true→AW P k a Q fr h) (hB:t=false→AW P k b Q fr h):AW P k (.cond x a b) Q fr h:=by
 cases t
 ·exact AW.condF hx rfl (hB rfl)
 ·exact AW.condT hx rfl (hA rfl)
theorem T.nil (hK:K tr fr h):WOpsT P [] tr fr h K:=hK
theorem T.step {op:AOp} {x:V} {ups:List (Nat×Blk)} {news:List Blk} {R:List Nat} (hn1:∀ f args,op≠.call f args) (hn2:∀ x args,op≠.callc x args)
  (hst:stepA op (AO.ev (lk fr)) (fun b=>h[b]?) h.length=some (x,ups,news,R))
  (hK:WOpsT P rest (tr ++ [(R,ups.map (·.1) ++ upto h.length news.length)]) (put fr d x) (appU h ups ++ news) K):WOpsT P (⟨d,op,none⟩ :: rest) tr fr h K:=by
 cases op
 case call f args=>exact absurd rfl (hn1 f args)
 case callc f args=>exact absurd rfl (hn2 f args)
 case inv=>simp [stepA] at hst
 case xcall=>simp [stepA] at hst
 all_goals
  simp only [WOpsT,WOpT,hst]
  exact hK
theorem T.pure {op:AOp} {x:V} {R:List Nat} (hn1:∀ f args,op≠.call f args) (hn2:∀ x args,op≠.callc x args)
  (hst:stepA op (AO.ev (lk fr)) (fun b=>h[b]?) h.length=some (x,[],[],R))
  (hK:WOpsT P rest (tr ++ [(R,[])]) (put fr d x) h K):WOpsT P (⟨d,op,none⟩ :: rest) tr fr h K :=
 T.step hn1 hn2 hst (by simpa [appU,upto] using hK)
theorem T.make {op:AOp} {x:V} {k:Blk} {R:List Nat} (hn1:∀ f args,op≠.call f args) (hn2:∀ x args,op≠.callc x args)
  (hst:stepA op (AO.ev (lk fr)) (fun b=>h[b]?) h.length=some (x,[],[k],R))
  (hK:WOpsT P rest (tr ++ [(R,[h.length])]) (put fr d x) (h ++ [k]) K):WOpsT P (⟨d,op,none⟩ :: rest) tr fr h K :=
 T.step hn1 hn2 hst (by simpa [appU,upto] using hK)
theorem T.turn {op:AOp} {x:V} {b:Nat} {k:Blk} {R:List Nat} (hn1:∀ f args,op≠.call f args) (hn2:∀ x args,op≠.callc x args)
  (hst:stepA op (AO.ev (lk fr)) (fun b=>h[b]?) h.length=some (x,[(b,k)],[],R))
  (hK:WOpsT P rest (tr ++ [(R,[b])]) (put fr d x) (h.set b k) K):WOpsT P (⟨d,op,none⟩ :: rest) tr fr h K :=
 T.step hn1 hn2 hst (by simpa [appU,upto] using hK)
theorem T.pass {op:AOp} {g:Nat} {want b:Bool} (hg:lk fr g=.c (.bool b)) (hb:b=!want) (hK:WOpsT P rest (tr ++ [([],[])]) (put fr d (.c undef)) h K):WOpsT P (⟨d,op,some (g,want)⟩ :: rest) tr fr h K:=by
 subst hb
 simp only [WOpsT,hg]
 rw [if_neg (by simp)]; exact hK
theorem T.go {op:AOp} {g:Nat} {want b:Bool} (hg:lk fr g=.c (.bool b)) (hb:b=want) (hK:WOpsT P (⟨d,op,none⟩ :: rest) tr fr h K):WOpsT P (⟨d,op,some (g,want)⟩ :: rest) tr fr h K:=by
 subst hb
 simp only [WOpsT,hg]
 rw [if_pos trivial]; exact hK
theorem T.mv {x:AO}:WOpsT P (⟨d,.mv x,none⟩ :: rest) tr fr h K=WOpsT P rest (tr ++ [([],[])]) (put fr d (x.ev (lk fr))) h K:=by
 have e:appU h [] ++ []=h:=by simp [appU]
 simp only [WOpsT,WOpT,stepA,pureS,Option.map_some,e]
 rfl
theorem T.bin {op:BinOp} {x y:AO} {u v r:Value} (hx:x.ev (lk fr)=.c u) (hy:y.ev (lk fr)=.c v) (hb:binV op u v=some r)
  (hK:WOpsT P rest (tr ++ [([],[])]) (put fr d (.c r)) h K):WOpsT P (⟨d,.bin op x y,none⟩ :: rest) tr fr h K :=
 T.pure nofun nofun (by simp [stepA,hx,hy,hb,pureS]) hK
theorem T.shl {x y:AO} {k k':IntKind} {a b:Int} (hx:x.ev (lk fr)=.c (.int k a)) (hy:y.ev (lk fr)=.c (.int k' b)) (hb:0≤b)
  (hK:WOpsT P rest (tr ++ [([],[])]) (put fr d (.c (.int k (k.wrap (a * 2 ^ min b.toNat k.bits))))) h K):WOpsT P (⟨d,.bin .shl x y,none⟩ :: rest) tr fr h K :=
 T.bin hx hy (by simp only [binV]; rw [if_neg (by omega)]) hK
theorem T.shr {x y:AO} {k k':IntKind} {a b:Int} (hx:x.ev (lk fr)=.c (.int k a)) (hy:y.ev (lk fr)=.c (.int k' b)) (hb:0≤b)
  (hK:WOpsT P rest (tr ++ [([],[])]) (put fr d (.c (.int k (a / 2 ^ min b.toNat k.bits)))) h K):WOpsT P (⟨d,.bin .shr x y,none⟩ :: rest) tr fr h K :=
 T.bin hx hy (by simp only [binV]; rw [if_neg (by omega)]) hK
theorem T.rem {x y:AO} {k:IntKind} {a b:Int} (hx:x.ev (lk fr)=.c (.int k a)) (hy:y.ev (lk fr)=.c (.int k b)) (hb:b≠0)
  (hK:WOpsT P rest (tr ++ [([],[])]) (put fr d (.c (.int k (a.tmod b)))) h K):WOpsT P (⟨d,.bin .rem x y,none⟩ :: rest) tr fr h K :=
 T.bin hx hy (by simp only [binV]; rw [if_pos trivial,if_neg hb]) hK
theorem T.quo {x y:AO} {k:IntKind} {a b:Int} (hx:x.ev (lk fr)=.c (.int k a)) (hy:y.ev (lk fr)=.c (.int k b)) (hb:b≠0)
  (hK:WOpsT P rest (tr ++ [([],[])]) (put fr d (.c (.int k (k.wrap (a.tdiv b))))) h K):WOpsT P (⟨d,.bin .quo x y,none⟩ :: rest) tr fr h K :=
 T.bin hx hy (by simp only [binV]; rw [if_pos trivial,if_neg hb]) hK
theorem wrap64 {n:Int} (h1:-9223372036854775808≤n) (h2:n≤9223372036854775807):IntKind.wrap .i64 n=n:=by
 simp only [IntKind.wrap,IntKind.signed,IntKind.bits]
 simp
 omega
theorem T.add {x y:AO} {a b:Int} (hx:x.ev (lk fr)=.c (.int .i64 a)) (hy:y.ev (lk fr)=.c (.int .i64 b)) (h1:-9223372036854775808≤a+b) (h2:a+b≤9223372036854775807)
  (hK:WOpsT P rest (tr ++ [([],[])]) (put fr d (I (a+b))) h K):WOpsT P (⟨d,.bin .add x y,none⟩ :: rest) tr fr h K :=
 T.bin hx hy (by simp only [binV,wrap64 h1 h2]; rfl) hK
theorem T.sub {x y:AO} {a b:Int} (hx:x.ev (lk fr)=.c (.int .i64 a)) (hy:y.ev (lk fr)=.c (.int .i64 b)) (h1:-9223372036854775808≤a - b) (h2:a - b≤9223372036854775807)
  (hK:WOpsT P rest (tr ++ [([],[])]) (put fr d (I (a - b))) h K):WOpsT P (⟨d,.bin .sub x y,none⟩ :: rest) tr fr h K :=
 T.bin hx hy (by simp only [binV,wrap64 h1 h2]; rfl) hK
theorem T.mul {x y:AO} {a b:Int} (hx:x.ev (lk fr)=.c (.int .i64 a)) (hy:y.ev (lk fr)=.c (.int .i64 b)) (h1:-9223372036854775808≤a * b) (h2:a * b≤9223372036854775807)
  (hK:WOpsT P rest (tr ++ [([],[])]) (put fr d (I (a * b))) h K):WOpsT P (⟨d,.bin .mul x y,none⟩ :: rest) tr fr h K :=
 T.bin hx hy (by simp only [binV,wrap64 h1 h2]; rfl) hK
theorem T.pickT {c a b:AO} {t:Bool} (hc:c.ev (lk fr)=.c (.bool t)) (ht:t=true) (hK:WOpsT P rest (tr ++ [([],[])]) (put fr d (a.ev (lk fr))) h K):WOpsT P (⟨d,.pick c a b,none⟩ :: rest) tr fr h K :=
 T.pure nofun nofun (by subst ht; simp [stepA,hc,pureS]) hK
theorem T.pickF {c a b:AO} {t:Bool} (hc:c.ev (lk fr)=.c (.bool t)) (ht:t=false) (hK:WOpsT P rest (tr ++ [([],[])]) (put fr d (b.ev (lk fr))) h K):WOpsT P (⟨d,.pick c a b,none⟩ :: rest) tr fr h K :=
 T.pure nofun nofun (by subst ht; simp [stepA,hc,pureS]) hK
theorem T.pickB {c a b:AO} {t u v:Bool} (hc:c.ev (lk fr)=.c (.bool t)) (ha:a.ev (lk fr)=.c (.bool u)) (hb:b.ev (lk fr)=.c (.bool v)) (hK:WOpsT P rest (tr ++ [([],[])]) (put fr d (.c (.bool (if t then u else v)))) h K):WOpsT P (⟨d,.pick c a b,none⟩ :: rest) tr fr h K :=
 T.pure nofun nofun (by cases t <;> simp [stepA,hc,ha,hb,pureS]) hK
theorem T.not {x:AO} {t:Bool} (hx:x.ev (lk fr)=.c (.bool t)) (hK:WOpsT P rest (tr ++ [([],[])]) (put fr d (.c (.bool (!t)))) h K):WOpsT P (⟨d,.not x,none⟩ :: rest) tr fr h K :=
 T.pure nofun nofun (by simp [stepA,hx,pureS]) hK
theorem T.neg {x:AO} {k:IntKind} {a:Int} (hx:x.ev (lk fr)=.c (.int k a)) (hK:WOpsT P rest (tr ++ [([],[])]) (put fr d (.c (.int k (k.wrap (0 - a))))) h K):WOpsT P (⟨d,.neg x,none⟩ :: rest) tr fr h K :=
 T.pure nofun nofun (by simp [stepA,hx,pureS]) hK
theorem T.xorn {x:AO} {k:IntKind} {a:Int} (hx:x.ev (lk fr)=.c (.int k a)) (hK:WOpsT P rest (tr ++ [([],[])]) (put fr d (.c (.int k (bits .xor k (if k.signed then -1 else k.max) a)))) h K):WOpsT P (⟨d,.xorn x,none⟩ :: rest) tr fr h K :=
 T.pure nofun nofun (by simp [stepA,hx,pureS]) hK
theorem T.cvt {x:AO} {k k':IntKind} {a:Int} (hx:x.ev (lk fr)=.c (.int k' a)) (hK:WOpsT P rest (tr ++ [([],[])]) (put fr d (.c (.int k (k.wrap a)))) h K):WOpsT P (⟨d,.cvt k x,none⟩ :: rest) tr fr h K :=
 T.pure nofun nofun (by simp [stepA,hx,pureS]) hK
theorem T.min2 {x y:AO} {k k':IntKind} {a b:Int} (hx:x.ev (lk fr)=.c (.int k a)) (hy:y.ev (lk fr)=.c (.int k' b)) (hk:k=k') (hK:WOpsT P rest (tr ++ [([],[])]) (put fr d (.c (.int k (min a b)))) h K):WOpsT P (⟨d,.mnx false [x,y],none⟩ :: rest) tr fr h K :=
 T.pure nofun nofun (by subst hk; simp [stepA,hx,hy,pureS,mnxF]; split <;> omega) hK
theorem T.max2 {x y:AO} {k k':IntKind} {a b:Int} (hx:x.ev (lk fr)=.c (.int k a)) (hy:y.ev (lk fr)=.c (.int k' b)) (hk:k=k') (hK:WOpsT P rest (tr ++ [([],[])]) (put fr d (.c (.int k (max a b)))) h K):WOpsT P (⟨d,.mnx true [x,y],none⟩ :: rest) tr fr h K :=
 T.pure nofun nofun (by subst hk; simp [stepA,hx,hy,pureS,mnxF]; split <;> omega) hK
theorem T.ext {x:AO} {i:Nat} {vs:List V} {v:V} (hx:x.ev (lk fr)=.tup vs) (hi:vs[i]?=some v) (hK:WOpsT P rest (tr ++ [([],[])]) (put fr d v) h K):WOpsT P (⟨d,.ext x i,none⟩ :: rest) tr fr h K :=
 T.pure nofun nofun (by simp [stepA,hx,pureS,hi]) hK
theorem T.lenc {n:Nat} (hK:WOpsT P rest (tr ++ [([],[])]) (put fr d (I n)) h K):WOpsT P (⟨d,.lenc n,none⟩ :: rest) tr fr h K :=
 T.pure nofun nofun (by simp [stepA]) hK
theorem T.new {x:AO} {e:Nat} {cs:List V} (hv:vcells (fun b=>h[b]?) (x.ev (lk fr))=some cs) (hl:cs.length=e∧0 < e)
  (hK:WOpsT P rest (tr ++ [(vlook (x.ev (lk fr)),[h.length])]) (put fr d (.ptr h.length 1 0 0)) (h ++ [⟨1,e,[cs]⟩]) K):WOpsT P (⟨d,.new e x,none⟩ :: rest) tr fr h K :=
 T.make nofun nofun (by simp only [stepA,hv]; rw [if_pos hl]) hK
theorem T.zero {cells:List Value} (hl:0 < cells.length)
  (hK:WOpsT P rest (tr ++ [([],[h.length])]) (put fr d (.ptr h.length 1 0 0)) (h ++ [⟨1,cells.length,[cells.map .c]⟩]) K):WOpsT P (⟨d,.zero cells,none⟩ :: rest) tr fr h K :=
 T.make nofun nofun (by simp only [stepA]; rw [if_pos hl]) hK
theorem T.build {z:List Value} {ps:List (Nat×Nat×AO)} {cs:List V} {R:List Nat} (hf:fillP (fun b=>h[b]?) (AO.ev (lk fr)) (z.map .c) ps=some (cs,R))
  (hK:WOpsT P rest (tr ++ [(R,[])]) (put fr d (.agg cs)) h K):WOpsT P (⟨d,.build z ps,none⟩ :: rest) tr fr h K :=
 T.pure nofun nofun (by simp only [stepA,hf]) hK
theorem T.bsl {z:List Value} {n:Nat} {ps:List (Nat×AO)} {rows:List (List V)} {R:List Nat} (hf:fillR (fun b=>h[b]?) (AO.ev (lk fr)) z.length (List.replicate n (z.map .c)) ps=some (rows,R)) (hz:0 < z.length∧n * z.length≤2 ^ 24)
  (hK:WOpsT P rest (tr ++ [(R,[h.length])]) (put fr d (.psl h.length 1 0 n)) (h ++ [⟨1,z.length,rows⟩]) K):WOpsT P (⟨d,.bsl z n ps,none⟩ :: rest) tr fr h K :=
 T.make nofun nofun (by simp only [stepA,hf]; rw [if_pos hz]) hK
theorem T.ld {a:AO} {b ver r k:Nat} {B:Blk} {row:List V} {v:V} (ha:a.ev (lk fr)=.ptr b ver r k) (hb:h[b]?=some B) (hv:B.ver=ver) (hr:B.rows[r]?=some row) (hk:row[k]?=some v)
  (hK:WOpsT P rest (tr ++ [([b],[])]) (put fr d v) h K):WOpsT P (⟨d,.ld none a,none⟩ :: rest) tr fr h K :=
 T.pure nofun nofun (by simp only [stepA,ha,hb,hr,hk]; rw [if_pos hv]; rfl) hK
theorem T.ldd {a:AO} {k:Nat} {row:List V} {v:V} (ha:a.ev (lk fr)=.dp row k) (hk:row[k]?=some v)
  (hK:WOpsT P rest (tr ++ [([],[])]) (put fr d v) h K):WOpsT P (⟨d,.ld none a,none⟩ :: rest) tr fr h K :=
 T.pure nofun nofun (by simp only [stepA,ha,hk]; rfl) hK
theorem T.ldn {a:AO} {n b ver r k:Nat} {B:Blk} {row:List V} (ha:a.ev (lk fr)=.ptr b ver r k) (hb:h[b]?=some B) (hv:B.ver=ver) (hr:B.rows[r]?=some row) (hk:k+n≤row.length)
  (hK:WOpsT P rest (tr ++ [([b],[])]) (put fr d (.agg ((row.drop k).take n))) h K):WOpsT P (⟨d,.ld (some n) a,none⟩ :: rest) tr fr h K :=
 T.pure nofun nofun (by simp only [stepA,ha,hb,hr]; rw [if_pos hv,if_pos hk]) hK
theorem T.lddn {a:AO} {n k:Nat} {row:List V} (ha:a.ev (lk fr)=.dp row k) (hk:k+n≤row.length)
  (hK:WOpsT P rest (tr ++ [([],[])]) (put fr d (.agg ((row.drop k).take n))) h K):WOpsT P (⟨d,.ld (some n) a,none⟩ :: rest) tr fr h K :=
 T.pure nofun nofun (by simp only [stepA,ha]; rw [if_pos hk]) hK
theorem T.st {a y:AO} {n b ver r k:Nat} {B:Blk} {row cs:List V} (ha:a.ev (lk fr)=.ptr b ver r k) (hb:h[b]?=some B) (hc:vcells (fun b=>h[b]?) (y.ev (lk fr))=some cs) (hv:B.ver=ver∧cs.length=n)
  (hr:B.rows[r]?=some row) (hk:k+n≤row.length)
  (hK:WOpsT P rest (tr ++ [(b :: vlook (y.ev (lk fr)),[b])]) (put fr d .any) (h.set b { B with rows:=B.rows.set r (spl row k cs) }) K):WOpsT P (⟨d,.st n a y,none⟩ :: rest) tr fr h K :=
 T.turn nofun nofun (by simp only [stepA,ha,hb,hc,hr]; rw [if_pos hv,if_pos hk]) hK
theorem T.fad {x:AO} {o b ver r k:Nat} {B:Blk} (hx:x.ev (lk fr)=.ptr b ver r k) (hb:h[b]?=some B) (hv:B.ver=ver)
  (hK:WOpsT P rest (tr ++ [([b],[])]) (put fr d (.ptr b ver r (k+o))) h K):WOpsT P (⟨d,.fad o x,none⟩ :: rest) tr fr h K :=
 T.pure nofun nofun (by simp only [stepA,hx,hb]; rw [if_pos hv]) hK
theorem T.fadd {x:AO} {o k:Nat} {row:List V} (hx:x.ev (lk fr)=.dp row k)
  (hK:WOpsT P rest (tr ++ [([],[])]) (put fr d (.dp row (k+o))) h K):WOpsT P (⟨d,.fad o x,none⟩ :: rest) tr fr h K :=
 T.pure nofun nofun (by simp only [stepA,hx]) hK
theorem T.nilc {x:AO} {b ver r k:Nat} {B:Blk} (hx:x.ev (lk fr)=.ptr b ver r k) (hb:h[b]?=some B) (hv:B.ver=ver)
  (hK:WOpsT P rest (tr ++ [([b],[])]) (put fr d (.ptr b ver r k)) h K):WOpsT P (⟨d,.nilc x,none⟩ :: rest) tr fr h K :=
 T.pure nofun nofun (by simp only [stepA,hx,hb]; rw [if_pos hv]) hK
theorem T.nilcd {x:AO} {k:Nat} {row:List V} (hx:x.ev (lk fr)=.dp row k)
  (hK:WOpsT P rest (tr ++ [([],[])]) (put fr d (.dp row k)) h K):WOpsT P (⟨d,.nilc x,none⟩ :: rest) tr fr h K :=
 T.pure nofun nofun (by simp only [stepA,hx]) hK
theorem T.idx {x i:AO} {e b ver off len:Nat} {n:Int} {k:IntKind} {B:Blk} (hx:x.ev (lk fr)=.psl b ver off len) (hi:i.ev (lk fr)=.c (.int k n)) (hb:h[b]?=some B) (hv:B.ver=ver∧B.esz=e) (hn:0≤n∧n < len)
  (hK:WOpsT P rest (tr ++ [([b],[])]) (put fr d (.ptr b ver (off+n.toNat) 0)) h K):WOpsT P (⟨d,.idx e none x i,none⟩ :: rest) tr fr h K :=
 T.pure nofun nofun (by simp only [stepA,hx,hi,ofInt,hb]; rw [if_pos ⟨hv.1,hv.2,hn.1,hn.2⟩]) hK
theorem T.idxs {x i:AO} {e e':Nat} {n:Int} {k:IntKind} {rows:List (List V)} {row:List V} (hx:x.ev (lk fr)=.sl e' rows) (hi:i.ev (lk fr)=.c (.int k n)) (he:e'=e) (hn:0≤n) (hr:rows[n.toNat]?=some row)
  (hK:WOpsT P rest (tr ++ [([],[])]) (put fr d (.dp row 0)) h K):WOpsT P (⟨d,.idx e none x i,none⟩ :: rest) tr fr h K :=
 T.pure nofun nofun (by simp only [stepA,hx,hi,ofInt,hr]; rw [if_pos ⟨he,hn⟩]) hK
theorem T.idxa {x i:AO} {e b ver r c len:Nat} {n:Int} {k:IntKind} {B:Blk} (hx:x.ev (lk fr)=.ptr b ver r c) (hi:i.ev (lk fr)=.c (.int k n)) (hb:h[b]?=some B) (hv:B.ver=ver) (hn:0≤n∧n < len)
  (hK:WOpsT P rest (tr ++ [([b],[])]) (put fr d (.ptr b ver r (c+n.toNat * e))) h K):WOpsT P (⟨d,.idx e (some len) x i,none⟩ :: rest) tr fr h K :=
 T.pure nofun nofun (by simp only [stepA,hx,hi,ofInt,hb]; rw [if_pos ⟨hv,hn.1,hn.2⟩]) hK
theorem T.idxd {x i:AO} {e c len:Nat} {n:Int} {k:IntKind} {row:List V} (hx:x.ev (lk fr)=.dp row c) (hi:i.ev (lk fr)=.c (.int k n)) (hn:0≤n∧n < len)
  (hK:WOpsT P rest (tr ++ [([],[])]) (put fr d (.dp row (c+n.toNat * e))) h K):WOpsT P (⟨d,.idx e (some len) x i,none⟩ :: rest) tr fr h K :=
 T.pure nofun nofun (by simp only [stepA,hx,hi,ofInt]; rw [if_pos hn]) hK
theorem T.fld {x:AO} {o:Nat} {n:Option Nat} {cs:List V} {v:V} (hx:x.ev (lk fr)=.agg cs) (hv:partL n cs o=some v)
  (hK:WOpsT P rest (tr ++ [([],[])]) (put fr d v) h K):WOpsT P (⟨d,.fld o n x,none⟩ :: rest) tr fr h K :=
 T.pure nofun nofun (by simp only [stepA,hx,pureS,hv]; rfl) hK
theorem T.ixa {x i:AO} {len e:Nat} {n:Option Nat} {k:IntKind} {j:Int} {cs:List V} {v:V} (hx:x.ev (lk fr)=.agg cs) (hi:i.ev (lk fr)=.c (.int k j)) (hj:0≤j∧j < len) (hv:partL n cs (j.toNat * e)=some v)
  (hK:WOpsT P rest (tr ++ [([],[])]) (put fr d v) h K):WOpsT P (⟨d,.ixa len e n x i,none⟩ :: rest) tr fr h K :=
 T.pure nofun nofun (by simp only [stepA,hx,hi,ofInt,pureS]; rw [if_pos hj,hv]; rfl) hK
theorem T.len {x:AO} {b ver off len:Nat} {B:Blk} (hx:x.ev (lk fr)=.psl b ver off len) (hb:h[b]?=some B) (hv:B.ver=ver)
  (hK:WOpsT P rest (tr ++ [([b],[])]) (put fr d (I len)) h K):WOpsT P (⟨d,.len x,none⟩ :: rest) tr fr h K :=
 T.pure nofun nofun (by simp only [stepA,hx,hb]; rw [if_pos hv]) hK
theorem T.lenS {x:AO} {e:Nat} {rows:List (List V)} (hx:x.ev (lk fr)=.sl e rows)
  (hK:WOpsT P rest (tr ++ [([],[])]) (put fr d (I rows.length)) h K):WOpsT P (⟨d,.len x,none⟩ :: rest) tr fr h K :=
 T.pure nofun nofun (by simp only [stepA,hx]) hK
theorem T.lenN {x:AO} (hx:x.ev (lk fr)=.c (.slice none 0 0))
  (hK:WOpsT P rest (tr ++ [([],[])]) (put fr d (I 0)) h K):WOpsT P (⟨d,.len x,none⟩ :: rest) tr fr h K :=
 T.pure nofun nofun (by simp only [stepA,hx]) hK
theorem T.mksl {z:List Value} {bytes:Nat} {l c:AO} {k k':IntKind} {n m:Int} (hl:l.ev (lk fr)=.c (.int k n)) (hc:c.ev (lk fr)=.c (.int k' m)) (hz:0 < z.length∧0 < bytes∧0≤n∧n≤m∧bytes * m≤2 ^ 48)
  (hK:WOpsT P rest (tr ++ [([],[h.length])]) (put fr d (.psl h.length 1 0 n.toNat)) (h ++ [⟨1,z.length,List.replicate n.toNat (z.map .c)⟩]) K):WOpsT P (⟨d,.mksl z bytes l c,none⟩ :: rest) tr fr h K :=
 T.make nofun nofun (by simp only [stepA,hl,hc,ofInt]; rw [if_pos hz]) hK
theorem T.appN {e bytes:Nat} {s x:AO} {new:List (List V)} (hs:s.ev (lk fr)=.c (.slice none 0 0)) (hx:srcOf (fun b=>h[b]?) e (x.ev (lk fr))=some (e,new)) (he:0 < e∧0 < bytes) (hn:new.length≠0) (hb:bytes * (new.length+new.length / 4+1024)≤2 ^ 48)
  (hK:WOpsT P rest (tr ++ [(vlook (x.ev (lk fr)),[h.length])]) (put fr d (.psl h.length 1 0 new.length)) (h ++ [⟨1,e,new⟩]) K):WOpsT P (⟨d,.app e bytes s x,none⟩ :: rest) tr fr h K :=
 T.make nofun nofun (by simp only [stepA,hs,hx]; rw [if_pos ⟨trivial,he.1,he.2⟩,if_neg hn,if_pos hb]) hK
theorem T.app {e bytes:Nat} {s x:AO} {b ver off len:Nat} {B:Blk} {new:List (List V)} (hs:s.ev (lk fr)=.psl b ver off len) (hb:h[b]?=some B) (hx:srcOf (fun b=>h[b]?) e (x.ev (lk fr))=some (e,new)) (he:0 < e∧0 < bytes)
  (hB:B.ver=ver∧B.esz=e∧off+len=B.rows.length∧bytes * (len+new.length+(len+new.length) / 4+1024)≤2 ^ 48)
  (hK:WOpsT P rest (tr ++ [(b :: vlook (x.ev (lk fr)),[b])]) (put fr d (.psl b (ver+1) 0 (len+new.length))) (h.set b ⟨ver+1,e,B.rows.drop off ++ new⟩) K):WOpsT P (⟨d,.app e bytes s x,none⟩ :: rest) tr fr h K :=
 T.turn nofun nofun (by
  have e0:(B.rows.drop off).take len=B.rows.drop off:=List.take_of_length_le (by rw [List.length_drop]; omega)
  simp only [stepA,hs,hb,hx]; rw [if_pos ⟨trivial,he.1,he.2⟩,if_pos ⟨hB.1,hB.2.1,Nat.le_of_eq hB.2.2.1,hB.2.2.2⟩,e0]) hK
theorem T.copy {e:Nat} {t s:AO} {b ver off len:Nat} {B:Blk} {rows:List (List V)} (ht:t.ev (lk fr)=.psl b ver off len) (hb:h[b]?=some B) (hs:rowsOf (fun b=>h[b]?) (s.ev (lk fr))=some (e,rows)) (hB:B.ver=ver∧B.esz=e)
  (hK:WOpsT P rest (tr ++ [(b :: vlook (s.ev (lk fr)),[b])]) (put fr d (I (min rows.length len:Nat))) (h.set b { B with rows:=B.rows.take off ++ rows.take len ++ B.rows.drop (off+min rows.length len) }) K):WOpsT P (⟨d,.copy e t s,none⟩ :: rest) tr fr h K :=
 T.turn nofun nofun (by simp only [stepA,ht,hb,hs]; rw [if_pos ⟨hB.1,hB.2,trivial⟩]) hK
theorem T.slc {e:Nat} {x:AO} {lo hi:Option AO} {b ver off len:Nat} {l m:Int} {B:Blk} (hx:x.ev (lk fr)=.psl b ver off len) (hb:h[b]?=some B) (hl:((lo.map fun l=>ofInt (AO.ev (lk fr) l)).getD (some 0))=some l) (hm:((hi.map fun l=>ofInt (AO.ev (lk fr) l)).getD (some (len:Int)))=some m)
  (hB:B.ver=ver∧B.esz=e) (hn:0≤l∧l≤m∧m≤len)
  (hK:WOpsT P rest (tr ++ [([b],[])]) (put fr d (.psl b ver (off+l.toNat) (m.toNat - l.toNat))) h K):WOpsT P (⟨d,.slc e x lo hi,none⟩ :: rest) tr fr h K :=
 T.pure nofun nofun (by simp only [stepA,hx,hb,hl,hm]; rw [if_pos ⟨hB.1,hB.2,hn⟩]) hK
theorem T.slcS {e e':Nat} {x:AO} {lo hi:Option AO} {rows:List (List V)} {l m:Int} (hx:x.ev (lk fr)=.sl e' rows) (hl:((lo.map fun l=>ofInt (AO.ev (lk fr) l)).getD (some 0))=some l) (hm:((hi.map fun l=>ofInt (AO.ev (lk fr) l)).getD (some (rows.length:Int)))=some m)
  (he:e'=e) (hn:0≤l∧l≤m∧m≤rows.length)
  (hK:WOpsT P rest (tr ++ [([],[])]) (put fr d (.sl e' ((rows.drop l.toNat).take (m.toNat - l.toNat)))) h K):WOpsT P (⟨d,.slc e x lo hi,none⟩ :: rest) tr fr h K :=
 T.pure nofun nofun (by simp only [stepA,hx,hl,hm]; rw [if_pos ⟨he,hn⟩]) hK
theorem T.mki {t:TypeId} {x:AO} (hK:WOpsT P rest (tr ++ [([],[])]) (put fr d (.ifc t (x.ev (lk fr)))) h K):WOpsT P (⟨d,.mki t x,none⟩ :: rest) tr fr h K :=
 T.pure nofun nofun (by simp only [stepA]) hK
theorem T.mkf {f:FuncId} {xs:List AO} (hK:WOpsT P rest (tr ++ [([],[])]) (put fr d (.fn f (xs.map (AO.ev (lk fr))))) h K):WOpsT P (⟨d,.mkf f xs,none⟩ :: rest) tr fr h K :=
 T.pure nofun nofun (by simp only [stepA]) hK
theorem back_nil (h:List Blk) (hout:List Blk):back h [] hout=h:=by
 apply List.ext_getElem?
 intro b
 exact back_out (by simp)
theorem T.call0 {f:FuncId} {args:List AO} {vs:List V} {r:V} (he:enters P f=true) (hv:args.map (AO.ev (lk fr))=vs) (hF:FnE P f (vs.map (pas [])) [] r [])
  (hK:WOpsT P rest (tr ++ [([],[])]) (put fr d (ren [] r)) h K):WOpsT P (⟨d,.call f args,none⟩ :: rest) tr fr h K:=by
 subst hv
 simp only [WOpsT,WOpT]
 refine ⟨[],0,r,[],[],by simp,by simp,rfl,by simp,he,hF,.refl,?_⟩
 simp only [upto,List.append_nil,List.replicate,back_nil]
 exact hK
theorem T.call {f:FuncId} {args:List AO} {vs:List V} {r:V} {hout h':List Blk} {perm keys:List Nat} {m:Nat} (he:enters P f=true) (hv:args.map (AO.ev (lk fr))=vs) (hnd:perm.Nodup) (hlt:∀ b ∈ perm,b < h.length)
  (hF:FnE P f (vs.map (pas perm)) (pasH h perm) r hout) (hlen:hout.length=perm.length+m) (hver:∀ k ∈ hout.drop perm.length,0 < k.ver) (hk:keys=perm ++ upto h.length m) (hh:h'=back (h ++ List.replicate m dum) keys hout)
  (hK:WOpsT P rest (tr ++ [(perm,keys)]) (put fr d (ren keys r)) h' K):WOpsT P (⟨d,.call f args,none⟩ :: rest) tr fr h K:=by
 subst hv; subst hk; subst hh
 simp only [WOpsT,WOpT]
 exact ⟨perm,m,r,hout,_,hnd,hlt,hlen,hver,he,hF,.refl,hK⟩
theorem WeakV.c {k:Nat} {v:Value} {h:List Blk} (hk:k=0):WeakV k (.c v) h (.c v) [] :=
 ⟨[],0,by simp,by simp,by omega,rfl,rfl⟩
theorem WeakV.drop {k n:Nat} {x r:V} {h:List Blk} (hk:k=0) (hr:r=out h [] n x):WeakV k x h r [] :=
 ⟨[],n,by simp,by simp,by omega,rfl,hr⟩
theorem AW.retI {k:Nat} {Q:Exit→Fr→List Blk→Prop} (hQ:Q .ret fr h):AW P k .ret Q fr h:=hQ
theorem AW.skipI {k:Nat} {Q:Exit→Fr→List Blk→Prop} (hQ:Q .normal fr h):AW P k .skip Q fr h:=hQ
theorem AW.seqI {k:Nat} {a b:AC} {Q:Exit→Fr→List Blk→Prop} (hA:∀ Q':Exit→Fr→List Blk→Prop,(∀ fr h,AW P k b Q fr h→Q' .normal fr h)→(∀ i fr h,Q (.exit i) fr h→Q' (.exit i) fr h)→(∀ fr h,Q .ret fr h→Q' .ret fr h)→AW P k a Q' fr h):AW P k (.seq a b) Q fr h:=by
 simp only [AW]
 exact hA _ (fun _ _ h=>⟨_,_,.refl,h⟩) (fun _ _ _ h=>h) (fun _ _ h=>h)
def weakB:Fr→Fr→Prop
 | [],[]=>True
 | (i,v) :: r,(j,u) :: r'=>i=j∧(u=.any∨u=v)∧weakB r r'
 | _,_=>False
theorem weakB_lk:∀ (fr fr':Fr),weakB fr fr'→∀ i,lk fr' i=.any∨lk fr' i=lk fr i:=by
 intro fr
 induction fr with
 | nil=>intro fr' h i; cases fr' with
  | nil=>exact .inr rfl
  | cons _ _=>exact h.elim
 | cons p r ih =>
  intro fr' h i
  cases fr' with
  | nil=>exact h.elim
  | cons q r' =>
   obtain ⟨j,v⟩:=p
   obtain ⟨j',u⟩:=q
   obtain ⟨rfl,h2,h3⟩:=h
   simp only [lk]
   split
   ·exact h2
   ·exact ih r' h3 i
theorem Weak.list {k:Nat} {fr fr':Fr} {h h':List Blk} (hb:weakB fr fr') (hh:h'=h):Weak k fr h fr' h':=.inl ⟨hh,weakB_lk _ _ hb⟩
theorem Weak.same {k:Nat} {fr fr':Fr} {h h':List Blk} (hf:fr'=fr) (hh:h'=h):Weak k fr h fr' h':=.inl ⟨hh,fun i=>by rw [hf]; exact .inr rfl⟩
theorem ren_c {ks:List Nat} {v:Value}:ren ks (.c v)=.c v:=rfl
theorem ren_tup {ks:List Nat} {vs:List V}:ren ks (.tup vs)=.tup (vs.map (ren ks)):=by
 unfold ren; rw [V.mapR,V.mapL_eq]
theorem ren_agg {ks:List Nat} {vs:List V}:ren ks (.agg vs)=.agg (vs.map (ren ks)):=by
 unfold ren; rw [V.mapR,V.mapL_eq]
theorem ren_sl {ks:List Nat} {e:Nat} {rows:List (List V)}:ren ks (.sl e rows)=.sl e rows:=rfl
theorem WeakV.cE {k:Nat} {v v':Value} {h:List Blk} (hk:k=0) (hv:v=v'):WeakV k (.c v) h (.c v') []:=hv ▸ WeakV.c hk
theorem fnI {f:FuncId} {fn:Func} {ac:AC} {vars:List (Nat×List Nat)} {ars:List AR} {args:List V} {h0:List Blk} {r:V} {h':List Blk}
  (hf:P.funcs[f]?=some fn) (hbc:fn.body.bind (compC P fn.ntmps vars)=some ac) (hn:args.length≤fn.ntmps) (hr:fn.results.toList.mapM (compRes P)=some ars)
  (hA:∀ Q:Exit→Fr→List Blk→Prop,(∀ fr h x,resV ars fr h=some x→WeakV h0.length x h r h'→Q .ret fr h)→AW P h0.length ac Q (enter 0 args) h0):FnE P f args h0 r h' :=
 fn_body hf hbc hn hr (hA _ fun _ _ x h1 h2=>⟨.inl rfl,x,h1,h2⟩)
theorem out_c {h:List Blk} {ids:List Nat} {n:Nat} {v:Value}:out h ids n (.c v)=.c v:=rfl
theorem out_sl {h:List Blk} {ids:List Nat} {n e:Nat} {rows:List (List V)}:out h ids n (.sl e rows)=.sl e rows:=rfl
theorem frz_c {h:List Blk} {kp:Nat→Bool} {n:Nat} {v:Value}:frz h kp n (.c v)=.c v:=by cases n <;> rfl
theorem frz_sl {h:List Blk} {kp:Nat→Bool} {n e:Nat} {rows:List (List V)}:frz h kp n (.sl e rows)=.sl e rows:=by cases n <;> rfl
theorem frz_psl {h:List Blk} {kp:Nat→Bool} {n b ver off len:Nat} {B:Blk} (hb:h[b]?=some B) (hv:B.ver=ver) (hk:kp b=false):frz h kp (n+1) (.psl b ver off len)=.sl B.esz (((B.rows.drop off).take len).map (·.map (frz h kp n))):=by
 simp [frz,V.mapR,hb,hv,hk]
def cells (xs:List Int):List (List V):=xs.map fun x=>[I x]
theorem cells_len (xs:List Int):(cells xs).length=xs.length:=by simp [cells]
theorem cells_drop (xs:List Int) (i:Nat):(cells xs).drop i=cells (xs.drop i):=by simp [cells,List.map_drop]
theorem cells_take (xs:List Int) (i:Nat):(cells xs).take i=cells (xs.take i):=by simp [cells,List.map_take]
theorem cells_frz {h:List Blk} {kp:Nat→Bool} {n:Nat} (xs:List Int):(cells xs).map (·.map (frz h kp n))=cells xs:=by
 simp [cells,Function.comp_def,frz_c]
theorem cells_out {h:List Blk} {ids:List Nat} {n:Nat} (xs:List Int):(cells xs).map (·.map (out h ids n))=cells xs:=by
 simp [cells,Function.comp_def,out_c]
theorem cells_ren {ks:List Nat} (xs:List Int):(cells xs).map (·.map (ren ks))=cells xs:=by
 simp [cells,Function.comp_def,ren_c]
theorem cells_pas {ks:List Nat} (xs:List Int):(cells xs).map (·.map (pas ks))=cells xs:=by
 simp only [cells,List.map_map,Function.comp_def]; rfl
def turned (f:Int→Int) (xs:List Int) (i:Nat) (ys:List Int):Prop:=ys.length=xs.length∧(∀ j,j < i→ys[j]?=(xs[j]?).map f)∧∀ j,i≤j→ys[j]?=xs[j]?
theorem ren_psl {ks:List Nat} {b ver off len:Nat}:ren ks (.psl b ver off len)=match ks[b]? with
  | some b'=>.psl b' ver off len
  | none=>.any:=rfl
theorem ren_ptr {ks:List Nat} {b ver r k:Nat}:ren ks (.ptr b ver r k)=match ks[b]? with
  | some b'=>.ptr b' ver r k
  | none=>.any:=rfl
theorem upto_pos (m c i:Nat) (hi:i < m):pos (upto c m) (c+i)=some i:=nodup_pos (upto_nodup m c) (by rw [upto_get,if_pos hi])
theorem back_new (h hout:List Blk):back (h ++ List.replicate hout.length dum) (upto h.length hout.length) hout=h ++ hout.map (renB (upto h.length hout.length)):=by
 apply List.ext_getElem?
 intro b
 by_cases hb:b < h.length
 ·rw [back_out (fun hm=>by have:=(upto_mem hm).1; omega),List.getElem?_append_left hb,List.getElem?_append_left hb]
 ·by_cases hb2:b < h.length+hout.length
  ·obtain ⟨i,rfl⟩:∃ i,b=h.length+i:=⟨b - h.length,by omega⟩
   have hi:i < hout.length:=by omega
   unfold back
   rw [List.getElem?_map,List.getElem?_range (by simp; omega),Option.map_some,upto_pos _ _ _ hi]
   rw [List.getElem?_append_right (by omega),show h.length+i - h.length=i by omega,List.getElem?_map,List.getElem?_eq_getElem hi]
   simp [List.getD_eq_getElem?_getD,List.getElem?_eq_getElem hi]
  ·rw [List.getElem?_eq_none (by rw [back_length]; simp; omega),List.getElem?_eq_none (by simp; omega)]
theorem T.callN {f:FuncId} {args:List AO} {vs:List V} {r:V} {hout:List Blk} (he:enters P f=true) (hv:args.map (AO.ev (lk fr))=vs) (hF:FnE P f (vs.map (pas [])) [] r hout) (hver:∀ k ∈ hout,0 < k.ver)
  (hK:WOpsT P rest (tr ++ [([],upto h.length hout.length)]) (put fr d (ren (upto h.length hout.length) r)) (h ++ hout.map (renB (upto h.length hout.length))) K):WOpsT P (⟨d,.call f args,none⟩ :: rest) tr fr h K :=
 T.call (perm:=[]) (m:=hout.length) he hv (by simp) (by simp) hF (by simp) (by simpa using hver) rfl rfl (by rw [List.nil_append,back_new]; exact hK)
end
theorem WOpsW.mono {P:Program} {k:Nat} {K K':Fr→List Blk→Prop} (hK:∀ fr h,K fr h→K' fr h):∀ (ops:List AOper) (fr:Fr) (h:List Blk),WOpsW P k ops fr h K→WOpsW P k ops fr h K':=by
 intro ops
 induction ops with
 | nil=>intro fr h hW; obtain ⟨fr2,h2,hw,hW⟩:=hW; exact ⟨fr2,h2,hw,hK _ _ hW⟩
 | cons o rest ih =>
  intro fr h hW
  obtain ⟨fr2,h2,hw,hW⟩:=hW
  refine ⟨fr2,h2,hw,?_⟩
  clear hw
  have one:WOp P o.op fr2 h2 (fun x h'=>WOpsW P k rest (put fr2 o.dst x) h' K)→WOp P o.op fr2 h2 (fun x h'=>WOpsW P k rest (put fr2 o.dst x) h' K'):=by
   intro hW
   cases hop:o.op <;> rw [hop] at hW
   case call f args =>
    obtain ⟨perm,m,r,hout,h1,h2,h3,h4,h5,h6,h7⟩:=hW
    exact ⟨perm,m,r,hout,h1,h2,h3,h4,h5,h6,ih _ _ h7⟩
   case callc x args =>
    simp only [WOp] at hW ⊢
    split at hW
    ·obtain ⟨perm,m,r,hout,h1,h2,h3,h4,h5,h6,h7⟩:=hW
     exact ⟨perm,m,r,hout,h1,h2,h3,h4,h5,h6,ih _ _ h7⟩
    ·exact hW.elim
   case xcall f args =>
    obtain ⟨r,h1,h2⟩:=hW
    exact ⟨r,h1,ih _ _ h2⟩
   case inv tab x args =>
    simp only [WOp] at hW ⊢
    split at hW
    ·obtain ⟨perm,m,r,hout,h1,h2,h3,h4,h5,h6,h7⟩:=hW
     exact ⟨perm,m,r,hout,h1,h2,h3,h4,h5,h6,ih _ _ h7⟩
    ·exact hW.elim
   all_goals
    simp only [WOp] at hW ⊢
    split at hW
    ·rename_i hst
     exact ih _ _ hW
    ·exact hW.elim
  split at hW
  ·exact one hW
  ·split at hW
   ·split at hW
    ·rename_i he; rw [if_pos he]; exact one hW
    ·rename_i he; rw [if_neg he]; exact ih _ _ hW
   ·exact ih _ _ hW
   ·exact hW.elim
theorem WOpsT.mono {P:Program} {K K':KT} (hK:∀ tr fr h,K tr fr h→K' tr fr h):∀ (ops:List AOper) (tr:Tr) (fr:Fr) (h:List Blk),WOpsT P ops tr fr h K→WOpsT P ops tr fr h K':=by
 intro ops
 induction ops with
 | nil=>intro tr fr h hW; exact hK _ _ _ hW
 | cons o rest ih =>
  intro tr fr h hW
  have one:WOpT P o.op fr h (fun R W x h'=>WOpsT P rest (tr ++ [(R,W)]) (put fr o.dst x) h' K)→WOpT P o.op fr h (fun R W x h'=>WOpsT P rest (tr ++ [(R,W)]) (put fr o.dst x) h' K'):=by
   intro hW
   cases hop:o.op <;> rw [hop] at hW
   case call f args =>
    obtain ⟨perm,m,r,hout,W',h1,h2,h3,h4,h5,h6,h8,h7⟩:=hW
    exact ⟨perm,m,r,hout,W',h1,h2,h3,h4,h5,h6,h8,ih _ _ _ h7⟩
   case callc x args =>
    simp only [WOpT] at hW ⊢
    split at hW
    ·obtain ⟨perm,m,r,hout,W',h1,h2,h3,h4,h5,h6,h8,h7⟩:=hW
     exact ⟨perm,m,r,hout,W',h1,h2,h3,h4,h5,h6,h8,ih _ _ _ h7⟩
    ·exact hW.elim
   case xcall f args =>
    obtain ⟨r,h1,h2⟩:=hW
    exact ⟨r,h1,ih _ _ _ h2⟩
   case inv tab x args =>
    simp only [WOpT] at hW ⊢
    split at hW
    ·obtain ⟨perm,m,r,hout,W',h1,h2,h3,h4,h5,h6,h8,h7⟩:=hW
     exact ⟨perm,m,r,hout,W',h1,h2,h3,h4,h5,h6,h8,ih _ _ _ h7⟩
    ·exact hW.elim
   all_goals
    simp only [WOpT] at hW ⊢
    split at hW
    ·rename_i hst
     exact ih _ _ _ hW
    ·exact hW.elim
  simp only [WOpsT] at hW ⊢
  split at hW
  ·exact one hW
  ·split at hW
   ·split at hW
    ·rename_i he; rw [if_pos he]; exact one hW
    ·rename_i he; rw [if_neg he]; exact ih _ _ _ hW
   ·exact ih _ _ _ hW
   ·exact hW.elim
theorem AW.mono' {P:Program} {k:Nat}:∀ {c:AC} {Q Q':Exit→Fr→List Blk→Prop} {fr:Fr} {h:List Blk},(∀ e fr h,Q e fr h→Q' e fr h)→AW P k c Q fr h→AW P k c Q' fr h:=by
 intro c
 induction c with
 | skip=>intro Q Q' fr h hq hA; exact hq _ _ _ hA
 | exit i=>intro Q Q' fr h hq hA; exact hq _ _ _ hA
 | ret=>intro Q Q' fr h hq hA; exact hq _ _ _ hA
 | reg ops live=>intro Q Q' fr h hq hA; simp only [AW] at hA ⊢; exact WOpsW.mono (fun _ _ h=>hq _ _ _ h) _ _ _ hA
 | dreg ops bef live=>intro Q Q' fr h hq hA; simp only [AW] at hA ⊢; exact WOpsT.mono (fun _ _ _ h=>⟨h.1,hq _ _ _ h.2⟩) _ _ _ _ hA
 | seq a b iha ihb =>
  intro Q Q' fr h hq hA
  simp only [AW] at hA ⊢
  refine iha (fun e fr h hh=>?_) hA
  cases e with
  | normal=>obtain ⟨fr2,h2,hw,h3⟩:=hh; exact ⟨fr2,h2,hw,ihb hq h3⟩
  | _=>exact hq _ _ _ hh
 | cond x a b iha ihb =>
  intro Q Q' fr h hq hA
  simp only [AW] at hA ⊢
  split at hA
  ·split at hA
   ·rename_i ht; rw [if_pos ht]; exact iha hq hA
   ·rename_i ht; rw [if_neg ht]; exact ihb hq hA
  ·exact ⟨hA.1,iha hq hA.2.1,ihb hq hA.2.2⟩
 | block id b ih =>
  intro Q Q' fr h hq hA
  simp only [AW] at hA ⊢
  refine ih (fun e fr h hh=>?_) hA
  cases e with
  | exit i =>
   dsimp only at hh ⊢
   split at hh
   ·rename_i hi; rw [if_pos hi]; exact hq _ _ _ hh
   ·rename_i hi; rw [if_neg hi]; exact hq _ _ _ hh
  | _=>exact hq _ _ _ hh
 | loop b ih =>
  intro Q Q' fr h hq hA
  simp only [AW] at hA ⊢
  obtain ⟨I,μ,h1,h2⟩:=hA
  refine ⟨I,μ,h1,fun fr h hI=>ih (fun e fr h hh=>?_) (h2 fr h hI)⟩
  cases e with
  | normal=>exact hh
  | _=>exact hq _ _ _ hh
inductive KF where
 | seq (b:AC)
 | block (id:Nat)
 | loop (C:Fr→List Blk→Prop)
 | cut (id:Option Nat) (C:Fr→List Blk→Prop)
def RK (P:Program) (k:Nat):List KF→(Exit→Fr→List Blk→Prop)→Exit→Fr→List Blk→Prop
 | [],Q,e,fr,h=>Q e fr h
 | .seq b :: st,Q,e,fr,h=>match e with
  | .normal=>∃ fr2 h2,Weaks k fr h fr2 h2∧AW P k b (RK P k st Q) fr2 h2
  | e=>RK P k st Q e fr h
 | .block id :: st,Q,e,fr,h=>match e with
  | .exit i=>if i=id then RK P k st Q .normal fr h else RK P k st Q (.exit i) fr h
  | e=>RK P k st Q e fr h
 | .loop C :: st,Q,e,fr,h=>match e with
  | .normal=>C fr h
  | e=>RK P k st Q e fr h
 | .cut id C :: st,Q,e,fr,h=>match e with
  | .normal=>C fr h
  | .exit i=>if some i=id then C fr h else RK P k st Q (.exit i) fr h
  | e=>RK P k st Q e fr h
def AK (P:Program) (k:Nat) (c:AC) (st:List KF) (Q:Exit→Fr→List Blk→Prop) (fr:Fr) (h:List Blk):Prop:=AW P k c (RK P k st Q) fr h
def AKW (P:Program) (k:Nat) (c:AC) (st:List KF) (Q:Exit→Fr→List Blk→Prop) (fr:Fr) (h:List Blk):Prop:=∃ fr2 h2,Weaks k fr h fr2 h2∧AW P k c (RK P k st Q) fr2 h2
theorem Weaks.trans {k:Nat} {fr h fr1 h1 fr2 h2} (a:Weaks k fr h fr1 h1) (b:Weaks k fr1 h1 fr2 h2):Weaks k fr h fr2 h2:=by
 induction a with
 | refl=>exact b
 | step hw _ ih=>exact .step hw (ih b)
 | sub hw _ ih=>exact .sub hw (ih b)
 | virt e he hw _ ih=>exact .virt e he hw (ih b)
 | virtc e i r c he hb hc _ ih=>exact .virtc e i r c he hb hc (ih b)
def WeakS (k:Nat) (x:V) (h:List Blk) (r:V) (h':List Blk):Prop:=∃ r0,WeakV k x h r0 h'∧Sub r0 r
section
variable {P:Program} {rest:List AOper} {tr:Tr} {fr:Fr} {h:List Blk} {K:KT} {d:Option Nat} {k:Nat} {st:List KF} {Q:Exit→Fr→List Blk→Prop}
theorem N.regS {ops:List AOper} {live:List Nat} {b:AC} (hW:∀ K:KT,(∀ tr fr' h',AKW P k b st Q (keep live fr') h'→K tr fr' h')→WOpsT P ops [] fr h K):AK P k (.seq (.reg ops live) b) st Q fr h:=by
 unfold AK
 simp only [AW]
 exact WOpsW.ofT _ [] _ _ _ (hW _ fun _ _ _ hh=>hh)
theorem N.dregS {ops:List AOper} {bef:List (List Nat)} {live:List Nat} {b:AC} (hW:∀ K:KT,(∀ tr fr' h',okD bef ops tr=true→AKW P k b st Q (keep live fr') h'→K tr fr' h')→WOpsT P ops [] fr h K):AK P k (.seq (.dreg ops bef live) b) st Q fr h:=by
 unfold AK
 simp only [AW]
 exact hW _ fun _ _ _ h1 h2=>⟨h1,h2⟩
theorem N.regN {ops:List AOper} {live:List Nat} (hW:∀ K:KT,(∀ tr fr' h',RK P k st Q .normal (keep live fr') h'→K tr fr' h')→WOpsT P ops [] fr h K):AK P k (.reg ops live) st Q fr h:=AW.regN hW
theorem N.dregN {ops:List AOper} {bef:List (List Nat)} {live:List Nat} (hW:∀ K:KT,(∀ tr fr' h',okD bef ops tr=true→RK P k st Q .normal (keep live fr') h'→K tr fr' h')→WOpsT P ops [] fr h K):AK P k (.dreg ops bef live) st Q fr h:=AW.dregN hW
theorem WOpsW.weak {P:Program} {k:Nat} {ops:List AOper} {fr fr1:Fr} {h h1:List Blk} {K:Fr→List Blk→Prop} (hw:Weaks k fr h fr1 h1) (hW:WOpsW P k ops fr1 h1 K):WOpsW P k ops fr h K:=by
 cases ops with
 | nil=>obtain ⟨fr2,h2,hw2,hW⟩:=hW; exact ⟨fr2,h2,hw.trans hw2,hW⟩
 | cons o rest=>obtain ⟨fr2,h2,hw2,hW⟩:=hW; exact ⟨fr2,h2,hw.trans hw2,hW⟩
theorem WOpsW.app {P:Program} {k:Nat} {l2:List AOper} {K:Fr→List Blk→Prop}:∀ (l1:List AOper) (fr:Fr) (h:List Blk),WOpsW P k l1 fr h (fun fr' h'=>WOpsW P k l2 fr' h' K)→WOpsW P k (l1 ++ l2) fr h K:=by
 intro l1
 induction l1 with
 | nil=>intro fr h hW; obtain ⟨fr2,h2,hw2,hW⟩:=hW; exact hW.weak hw2
 | cons o rest ih =>
  intro fr h hW
  obtain ⟨fr2,h2,hw,hW⟩:=hW
  refine ⟨fr2,h2,hw,?_⟩
  clear hw
  have one:WOp P o.op fr2 h2 (fun x h'=>WOpsW P k rest (put fr2 o.dst x) h' fun fr' h'=>WOpsW P k l2 fr' h' K)→WOp P o.op fr2 h2 (fun x h'=>WOpsW P k (rest ++ l2) (put fr2 o.dst x) h' K):=by
   intro hW
   cases hop:o.op <;> rw [hop] at hW
   case call f args =>
    obtain ⟨perm,m,r,hout,h1,h2,h3,h4,h5,h6,h7⟩:=hW
    exact ⟨perm,m,r,hout,h1,h2,h3,h4,h5,h6,ih _ _ h7⟩
   case callc x args =>
    simp only [WOp] at hW ⊢
    split at hW
    ·obtain ⟨perm,m,r,hout,h1,h2,h3,h4,h5,h6,h7⟩:=hW
     exact ⟨perm,m,r,hout,h1,h2,h3,h4,h5,h6,ih _ _ h7⟩
    ·exact hW.elim
   case xcall f args =>
    obtain ⟨r,h1,h2⟩:=hW
    exact ⟨r,h1,ih _ _ h2⟩
   case inv tab x args =>
    simp only [WOp] at hW ⊢
    split at hW
    ·obtain ⟨perm,m,r,hout,h1,h2,h3,h4,h5,h6,h7⟩:=hW
     exact ⟨perm,m,r,hout,h1,h2,h3,h4,h5,h6,ih _ _ h7⟩
    ·exact hW.elim
   all_goals
    simp only [WOp] at hW ⊢
    split at hW
    ·rename_i hst
     exact ih _ _ hW
    ·exact hW.elim
  split at hW
  ·exact one hW
  ·split at hW
   ·split at hW
    ·rename_i he; rw [if_pos he]; exact one hW
    ·rename_i he; rw [if_neg he]; exact ih _ _ hW
   ·exact ih _ _ hW
   ·exact hW.elim
theorem N.cut (n:Nat) {ops:List AOper} {live:List Nat} {b:AC} (hW:∀ K:KT,(∀ tr fr' h',AKW P k (.seq (.reg (ops.drop n) live) b) st Q fr' h'→K tr fr' h')→WOpsT P (ops.take n) [] fr h K):AK P k (.seq (.reg ops live) b) st Q fr h:=by
 unfold AK
 simp only [AW]
 have:=WOpsW.ofT (k:=k) _ _ _ _ _ (hW (fun _ fr' h'=>AKW P k (.seq (.reg (ops.drop n) live) b) st Q fr' h') fun _ _ _ h=>h)
 rw [← List.take_append_drop n ops]
 refine WOpsW.app _ _ _ (WOpsW.mono (fun fr h hh=>?_) _ _ _ this)
 obtain ⟨fr2,h2,hw,hh⟩:=hh
 simp only [AW] at hh
 exact WOpsW.weak hw hh
theorem N.cutN (n:Nat) {ops:List AOper} {live:List Nat} (hW:∀ K:KT,(∀ tr fr' h',AKW P k (.reg (ops.drop n) live) st Q fr' h'→K tr fr' h')→WOpsT P (ops.take n) [] fr h K):AK P k (.reg ops live) st Q fr h:=by
 unfold AK
 simp only [AW]
 have:=WOpsW.ofT (k:=k) _ _ _ _ _ (hW (fun _ fr' h'=>AKW P k (.reg (ops.drop n) live) st Q fr' h') fun _ _ _ h=>h)
 rw [← List.take_append_drop n ops]
 refine WOpsW.app _ _ _ (WOpsW.mono (fun fr h hh=>?_) _ _ _ this)
 obtain ⟨fr2,h2,hw,hh⟩:=hh
 simp only [AW] at hh
 exact WOpsW.weak hw hh
theorem N.now {c:AC} (hA:AK P k c st Q fr h):AKW P k c st Q fr h:=⟨_,_,.refl,hA⟩
theorem N.weak {c:AC} {fr1:Fr} {h1:List Blk} (hw:Weaks k fr h fr1 h1) (hA:AKW P k c st Q fr1 h1):AKW P k c st Q fr h:=by
 obtain ⟨fr2,h2,hw2,h3⟩:=hA
 exact ⟨fr2,h2,hw.trans hw2,h3⟩
theorem AW.same {c:AC} {Q Q':Exit→Fr→List Blk→Prop} (e:∀ e fr h,Q e fr h=Q' e fr h) (hA:AW P k c Q fr h):AW P k c Q' fr h:=by
 have:Q=Q':=by funext a b c; exact e a b c
 rw [← this]; exact hA
theorem N.seq {a b:AC} (hA:AK P k a (.seq b :: st) Q fr h):AK P k (.seq a b) st Q fr h:=by
 unfold AK at hA ⊢
 simp only [AW]
 refine AW.same (fun e fr h=>?_) hA
 cases e <;> rfl
theorem N.block {id:Nat} {b:AC} (hA:AK P k b (.block id :: st) Q fr h):AK P k (.block id b) st Q fr h:=by
 unfold AK at hA ⊢
 simp only [AW]
 refine AW.same (fun e fr h=>?_) hA
 cases e <;> rfl
theorem N.condT {x:AO} {a b:AC} {t:Bool} (hx:x.ev (lk fr)=.c (.bool t)) (ht:t=true) (hA:AK P k a st Q fr h):AK P k (.cond x a b) st Q fr h:=AW.condT hx ht hA
theorem N.condF {x:AO} {a b:AC} {t:Bool} (hx:x.ev (lk fr)=.c (.bool t)) (ht:t=false) (hA:AK P k b st Q fr h):AK P k (.cond x a b) st Q fr h:=AW.condF hx ht hA
theorem N.condB {x:AO} {a b:AC} {t:Bool} (hx:x.ev (lk fr)=.c (.bool t)) (hA:t=true→AK P k a st Q fr h) (hB:t=false→AK P k b st Q fr h):AK P k (.cond x a b) st Q fr h:=AW.condB hx hA hB
theorem N.condD {x:AO} {a b:AC} {p:Prop} {i:Decidable p} (hx:x.ev (lk fr)=.c (.bool (decide p))) (hA:p→AK P k a st Q fr h) (hB:¬ p→AK P k b st Q fr h):AK P k (.cond x a b) st Q fr h :=
 AW.condB hx (fun h=>hA (of_decide_eq_true h)) (fun h=>hB (of_decide_eq_false h))
theorem N.skip (hQ:RK P k st Q .normal fr h):AK P k .skip st Q fr h:=hQ
theorem N.exit {i:Nat} (hQ:RK P k st Q (.exit i) fr h):AK P k (.exit i) st Q fr h:=hQ
theorem N.ret (hQ:RK P k st Q .ret fr h):AK P k .ret st Q fr h:=hQ
theorem N.seqN {b:AC} (hA:AKW P k b st Q fr h):RK P k (.seq b :: st) Q .normal fr h:=hA
theorem N.blkN {id:Nat} (hA:RK P k st Q .normal fr h):RK P k (.block id :: st) Q .normal fr h:=hA
theorem N.nil {e:Exit} (hA:Q e fr h):RK P k [] Q e fr h:=hA
theorem N.loop {b:AC} {σ:Type} (F:σ→Fr) (H:σ→List Blk) (inv:σ→Prop) (m:σ→Nat) (s0:σ) (h0:inv s0) (hw:Weaks k fr h (F s0) (H s0))
  (hA:∀ s,inv s→∀ C:Fr→List Blk→Prop,(∀ fr1 h1 s',inv s'→m s' < m s→Weaks k fr1 h1 (F s') (H s')→C fr1 h1)→AK P k b (.loop C :: st) Q (F s) (H s)) :
  AK P k (.loop b) st Q fr h:=by
 unfold AK
 simp only [AW]
 classical
 let S:Fr→List Blk→Nat→Prop:=fun fr h n=>∃ s,inv s∧F s=fr∧H s=h∧m s=n
 have hmin:∀ n fr h,S fr h n→∃ n',S fr h n'∧∀ n'',S fr h n''→n'≤n'':=by
  intro n
  induction n using Nat.strongRecOn with
  | _ n ih =>
   intro fr h hS
   by_cases hlt:∃ n',n' < n∧S fr h n'
   ·obtain ⟨n',h1,h2⟩:=hlt
    exact ih n' h1 fr h h2
   ·exact ⟨n,hS,fun n'' h2=>Nat.le_of_not_lt fun h3=>hlt ⟨n'',h3,h2⟩⟩
 let μ:Fr→List Blk→Nat:=fun fr h=>if hx:∃ n,S fr h n∧∀ n'',S fr h n''→n≤n'' then hx.choose else 0
 have hμ:∀ fr h n,S fr h n→S fr h (μ fr h)∧μ fr h≤n:=by
  intro fr h n hS
  have hx:=hmin n fr h hS
  have e:μ fr h=hx.choose:=by simp only [μ]; rw [dif_pos hx]
  rw [e]
  exact ⟨hx.choose_spec.1,hx.choose_spec.2 n hS⟩
 refine ⟨fun fr h=>∃ s,inv s∧F s=fr∧H s=h,μ,⟨F s0,H s0,hw,s0,h0,rfl,rfl⟩,?_⟩
 rintro fr h ⟨s1,hs1,rfl,rfl⟩
 obtain ⟨⟨s,hs,hF,hH,hm⟩,_⟩:=hμ (F s1) (H s1) (m s1) ⟨s1,hs1,rfl,rfl,rfl⟩
 rw [← hF,← hH]
 have:=hA s hs (fun fr' h'=>∃ fr'' h'',Weaks k fr' h' fr'' h''∧(∃ s,inv s∧F s=fr''∧H s=h'')∧μ fr'' h'' < μ (F s) (H s)) (fun fr1 h1 s' hi hlt hwk=>by
  refine ⟨F s',H s',hwk,⟨s',hi,rfl,rfl⟩,?_⟩
  have:=(hμ (F s') (H s') (m s') ⟨s',hi,rfl,rfl,rfl⟩).2
  rw [hF,hH,← hm]
  omega)
 unfold AK at this
 refine AW.same (fun e fr h=>?_) this
 cases e <;> rfl
theorem FnE.sub {f:FuncId} {args:List V} {h h':List Blk} {r r':V} (hF:FnE P f args h r h') (hs:Sub r r'):FnE P f args h r' h':=by
 intro X w ι vs H hsz hargs
 refine (hF X w ι vs H hsz hargs).mono ?_
 rintro e w' ⟨v,ι',rfl,H',hr,hFr,hR⟩
 exact ⟨v,ι',rfl,H',hr.sub hs,hFr,hR⟩
theorem FnE.args {f:FuncId} {args args':List V} {h h':List Blk} {r:V} (hF:FnE P f args h r h') (hl:args'.length=args.length) (hs:∀ (i:Nat) (a b:V),args'[i]?=some a→args[i]?=some b→Sub a b):FnE P f args' h r h':=by
 intro X w ι vs H hsz hargs
 refine hF X w ι vs H (by omega) fun i v y hv hy=>?_
 have hi:=(List.getElem?_eq_some_iff.1 hy).1
 have ha:args'[i]?=some (args'[i]'(by omega)):=List.getElem?_eq_getElem _
 exact (hargs i v _ hv ha).sub (hs i _ y ha hy)
theorem FnE.arg0 {f:FuncId} {a b:V} {as:List V} {h h':List Blk} {r:V} (hF:FnE P f (b :: as) h r h') (hs:Sub a b):FnE P f (a :: as) h r h':=by
 refine hF.args rfl fun i x y hx hy=>?_
 cases i with
 | zero=>simp at hx hy; subst hx; subst hy; exact hs
 | succ i=>simp at hx hy; rw [hx] at hy; cases hy; exact .rfl
theorem N.fn {f:FuncId} {fn:Func} {ac:AC} {vars:List (Nat×List Nat)} {ars:List AR} {args:List V} {h0:List Blk} {r:V} {h':List Blk}
  (hf:P.funcs[f]?=some fn) (hbc:fn.body.bind (compC P fn.ntmps vars)=some ac) (hn:args.length≤fn.ntmps) (hr:fn.results.toList.mapM (compRes P)=some ars)
  (hA:∀ Q:Exit→Fr→List Blk→Prop,(∀ fr h x,resV ars fr h=some x→WeakS h0.length x h r h'→Q .ret fr h)→(∀ fr h x,resV ars fr h=some x→WeakS h0.length x h r h'→Q .normal fr h)→AK P h0.length ac [] Q (enter 0 args) h0):FnE P f args h0 r h':=by
 intro X w ι vs H hsz hargs
 obtain ⟨c,hb,hc⟩:=Option.bind_eq_some_iff.1 hbc
 refine calls_of_wp hf hb ?_
 have hS:St X w ι fn.ntmps (enter 0 args) h0 { tmps:=vs ++ Array.replicate (fn.ntmps - vs.size) undef,defers:=[] } w:=by
  refine ⟨⟨ι,H,Frm.refl _ _,Refs.refl _,fun i=>?_⟩,by simp; omega,rfl⟩
  rw [lk_enter,if_pos (Nat.zero_le _),Nat.sub_zero]
  cases hi:args[i]? with
  | none=>exact .any
  | some y =>
   have hlt:=(List.getElem?_eq_some_iff.1 hi).1
   have hv:vs[i]?=some (vs[i]'(by omega)):=Array.getElem?_eq_getElem _
   have:(vs ++ Array.replicate (fn.ntmps - vs.size) undef).getD i undef=vs[i]'(by omega):=by
    rw [Array.getD_eq_getD_getElem?,Array.getElem?_append_left (by omega),hv]; rfl
   rw [this]
   exact hargs i _ y hv hi
 have:=aw_sound c ac hc _ _ _ _ _ hS (by rw [H.len]; exact hA (fun e fr h=>(e=.ret∨e=.normal)∧∃ x,resV ars fr h=some x∧WeakS h0.length x h r h') (fun fr h x h1 h2=>⟨.inl rfl,x,h1,h2⟩) (fun fr h x h1 h2=>⟨.inr rfl,x,h1,h2⟩))
 refine wp_mono this fun e a' w' hL=>?_
 have fin:∀ fr h,St X w ι fn.ntmps fr h a' w'→(∃ x,resV ars fr h=some x∧WeakS h0.length x h r h') →
   a'.defers=[]∧∃ v,(results fn a'.tmps).run P w'=.ok v w'∧∃ v_1 ι',Ending.returned v=.returned v_1∧HRel X w' ι' h'∧Rel w' (OX X ι') ι' v_1 r∧Frm w (Own ι) w' (Own ι')∧Refs ι ι':=by
  rintro fr h ⟨⟨ι1,H1,hF1,hR1,hS1⟩,_,hdef⟩ ⟨x,hx,r0,⟨ids,m,hnd,hlt,hpre,rfl,rfl⟩,hsub⟩
  obtain ⟨v,g1,g2⟩:=results_run (P:=P) H1 hS1 hr hx
  obtain ⟨ι',rfl,H',hrel,hown⟩:=reindex H1 ids hnd hlt m
  refine ⟨hdef,v,g1,v,_,rfl,H',(hrel _ _ g2).sub hsub,⟨hF1.size,hF1.same,fun r hr=>hF1.own r (hown r hr),hF1.os,hF1.tape,hF1.output⟩,fun b p hp=>?_⟩
  obtain ⟨p',h1,h2⟩:=hR1 b p hp
  have hb:=(List.getElem?_eq_some_iff.1 hp).1
  refine ⟨p',?_,h2⟩
  rw [List.getElem?_map,hpre b (by rw [← H.len]; exact hb),Option.map_some,List.getD_eq_getElem?_getD,h1]; rfl
 cases e <;> simp only [Lift] at hL
 ·obtain ⟨fr,h,hS',_,hx⟩:=hL; exact fin fr h hS' hx
 ·obtain ⟨fr,h,hS',he,_⟩:=hL; rcases he with he|he <;> cases he
 ·obtain ⟨fr,h,hS',_,hx⟩:=hL; exact fin fr h hS' hx
theorem WeakS.of {k:Nat} {x r:V} {h h':List Blk} (hw:WeakV k x h r h'):WeakS k x h r h':=⟨r,hw,.rfl⟩
theorem WS.drop {k n:Nat} {x r:V} {h:List Blk} (hk:k=0) (hr:r=out h [] n x):WeakS k x h r []:=.of (WeakV.drop hk hr)
theorem WS.c {k:Nat} {v v':Value} {h:List Blk} (hk:k=0) (hv:v=v'):WeakS k (.c v) h (.c v') []:=.of (WeakV.cE hk hv)
theorem WS.bool {k:Nat} {u v:Bool} {h:List Blk} (hk:k=0) (hv:u=true↔v=true):WeakS k (.c (.bool u)) h (.c (.bool v)) []:=WS.c hk (by rw [Bool.eq_iff_iff.2 hv])
def bcells (xs:List Int):List (List V):=xs.map fun x=>[.c (.int .u8 x)]
theorem bcells_get (xs:List Int) (i:Nat):(bcells xs)[i]?=(xs[i]?).map fun x=>[.c (.int .u8 x)]:=by simp [bcells]
theorem bcells_set (xs:List Int) (i:Nat) (y:Int):(bcells xs).set i [.c (.int .u8 y)]=bcells (xs.set i y):=by simp [bcells,List.map_set]
theorem bcells_len (xs:List Int):(bcells xs).length=xs.length:=by simp [bcells]
theorem bcells_drop (xs:List Int) (i:Nat):(bcells xs).drop i=bcells (xs.drop i):=by simp [bcells,List.map_drop]
theorem bcells_take (xs:List Int) (i:Nat):(bcells xs).take i=bcells (xs.take i):=by simp [bcells,List.map_take]
theorem bcells_frz {h:List Blk} {kp:Nat→Bool} {n:Nat} (xs:List Int):(bcells xs).map (·.map (frz h kp n))=bcells xs:=by
 simp [bcells,Function.comp_def,frz_c]
theorem bcells_out {h:List Blk} {ids:List Nat} {n:Nat} (xs:List Int):(bcells xs).map (·.map (out h ids n))=bcells xs:=by
 simp [bcells,Function.comp_def,out_c]
theorem bcells_ren {ks:List Nat} (xs:List Int):(bcells xs).map (·.map (ren ks))=bcells xs:=by
 simp [bcells,Function.comp_def,ren_c]
theorem bcells_pas {ks:List Nat} (xs:List Int):(bcells xs).map (·.map (pas ks))=bcells xs:=by
 simp only [bcells,List.map_map,Function.comp_def]; rfl
abbrev dev (n m:List Int):V:=.agg [.sl 1 (cells n),.sl 1 (bcells m)]
theorem T.pU {op:AOp} {g:Nat} {want:Bool} {t:Array Value} (hg:lk fr g=.c (.tuple t)) (hK:WOpsT P rest (tr ++ [([],[])]) (put fr d (.c undef)) h K):WOpsT P (⟨d,op,some (g,want)⟩ :: rest) tr fr h K:=by
 simp only [WOpsT,hg]
 exact hK
theorem T.gT {op:AOp} {g:Nat} {p:Prop} {i:Decidable p} (hg:lk fr g=.c (.bool (decide p))) (hA:p→WOpsT P (⟨d,op,none⟩ :: rest) tr fr h K) (hB:¬ p→WOpsT P rest (tr ++ [([],[])]) (put fr d (.c undef)) h K) :
  WOpsT P (⟨d,op,some (g,true)⟩ :: rest) tr fr h K:=by
 by_cases hp:p
 ·exact T.go hg (decide_eq_true hp) (hA hp)
 ·exact T.pass hg (decide_eq_false hp) (hB hp)
theorem T.gF {op:AOp} {g:Nat} {p:Prop} {i:Decidable p} (hg:lk fr g=.c (.bool (decide p))) (hA:¬ p→WOpsT P (⟨d,op,none⟩ :: rest) tr fr h K) (hB:p→WOpsT P rest (tr ++ [([],[])]) (put fr d (.c undef)) h K) :
  WOpsT P (⟨d,op,some (g,false)⟩ :: rest) tr fr h K:=by
 by_cases hp:p
 ·exact T.pass hg (decide_eq_true hp) (hB hp)
 ·exact T.go hg (decide_eq_false hp) (hA hp)
theorem T.pkD {c a b:AO} {p:Prop} {i:Decidable p} (hc:c.ev (lk fr)=.c (.bool (decide p))) (hA:p→WOpsT P rest (tr ++ [([],[])]) (put fr d (a.ev (lk fr))) h K) (hB:¬ p→WOpsT P rest (tr ++ [([],[])]) (put fr d (b.ev (lk fr))) h K) :
  WOpsT P (⟨d,.pick c a b,none⟩ :: rest) tr fr h K:=by
 by_cases hp:p
 ·exact T.pickT hc (decide_eq_true hp) (hA hp)
 ·exact T.pickF hc (decide_eq_false hp) (hB hp)
theorem T.goT {op:AOp} {g:Nat} {p:Prop} {i:Decidable p} (hg:lk fr g=.c (.bool (decide p))) (hp:p) (hK:WOpsT P (⟨d,op,none⟩ :: rest) tr fr h K):WOpsT P (⟨d,op,some (g,true)⟩ :: rest) tr fr h K:=T.go hg (decide_eq_true hp) hK
theorem T.goF {op:AOp} {g:Nat} {p:Prop} {i:Decidable p} (hg:lk fr g=.c (.bool (decide p))) (hp:¬ p) (hK:WOpsT P (⟨d,op,none⟩ :: rest) tr fr h K):WOpsT P (⟨d,op,some (g,false)⟩ :: rest) tr fr h K:=T.go hg (decide_eq_false hp) hK
theorem T.paT {op:AOp} {g:Nat} {p:Prop} {i:Decidable p} (hg:lk fr g=.c (.bool (decide p))) (hp:¬ p) (hK:WOpsT P rest (tr ++ [([],[])]) (put fr d (.c undef)) h K):WOpsT P (⟨d,op,some (g,true)⟩ :: rest) tr fr h K:=T.pass hg (decide_eq_false hp) hK
theorem T.paF {op:AOp} {g:Nat} {p:Prop} {i:Decidable p} (hg:lk fr g=.c (.bool (decide p))) (hp:p) (hK:WOpsT P rest (tr ++ [([],[])]) (put fr d (.c undef)) h K):WOpsT P (⟨d,op,some (g,false)⟩ :: rest) tr fr h K:=T.pass hg (decide_eq_true hp) hK
theorem T.pkT {c a b:AO} {p:Prop} {i:Decidable p} (hc:c.ev (lk fr)=.c (.bool (decide p))) (hp:p) (hK:WOpsT P rest (tr ++ [([],[])]) (put fr d (a.ev (lk fr))) h K):WOpsT P (⟨d,.pick c a b,none⟩ :: rest) tr fr h K:=T.pickT hc (decide_eq_true hp) hK
theorem T.pkF {c a b:AO} {p:Prop} {i:Decidable p} (hc:c.ev (lk fr)=.c (.bool (decide p))) (hp:¬ p) (hK:WOpsT P rest (tr ++ [([],[])]) (put fr d (b.ev (lk fr))) h K):WOpsT P (⟨d,.pick c a b,none⟩ :: rest) tr fr h K:=T.pickF hc (decide_eq_false hp) hK
theorem N.cT {x:AO} {a b:AC} {p:Prop} {i:Decidable p} (hx:x.ev (lk fr)=.c (.bool (decide p))) (hp:p) (hA:AK P k a st Q fr h):AK P k (.cond x a b) st Q fr h:=N.condT hx (decide_eq_true hp) hA
theorem N.cF {x:AO} {a b:AC} {p:Prop} {i:Decidable p} (hx:x.ev (lk fr)=.c (.bool (decide p))) (hp:¬ p) (hA:AK P k b st Q fr h):AK P k (.cond x a b) st Q fr h:=N.condF hx (decide_eq_false hp) hA
theorem T.eqb0 {x y:AO} {u v:Bool} (hx:x.ev (lk fr)=.c (.bool u)) (hy:y.ev (lk fr)=.c (.bool v)) (hK:WOpsT P rest (tr ++ [([],[])]) (put fr d (.c (.bool (decide (u=true↔v=true))))) h K):WOpsT P (⟨d,.eqb false x y,none⟩ :: rest) tr fr h K :=
 T.pure nofun nofun (by simp only [stepA,hx,hy,pureS,Option.map_some]; congr 4; cases u <;> cases v <;> rfl) hK
theorem T.eqb1 {x y:AO} {u v:Bool} (hx:x.ev (lk fr)=.c (.bool u)) (hy:y.ev (lk fr)=.c (.bool v)) (hK:WOpsT P rest (tr ++ [([],[])]) (put fr d (.c (.bool (decide (¬ (u=true↔v=true)))))) h K):WOpsT P (⟨d,.eqb true x y,none⟩ :: rest) tr fr h K :=
 T.pure nofun nofun (by simp only [stepA,hx,hy,pureS,Option.map_some]; congr 4; cases u <;> cases v <;> rfl) hK
theorem T.notD {x:AO} {p:Prop} {i:Decidable p} (hx:x.ev (lk fr)=.c (.bool (decide p))) (hK:WOpsT P rest (tr ++ [([],[])]) (put fr d (.c (.bool (decide (¬ p))))) h K):WOpsT P (⟨d,.not x,none⟩ :: rest) tr fr h K :=
 T.not hx (by rw [decide_not] at hK; exact hK)
def selB (fr:Fr):Fr→Prop
 | []=>True
 | (i,u) :: r=>Sub (lk fr i) u∧selB fr r
theorem selB_lk {fr:Fr}:∀ {fr':Fr},selB fr fr'→∀ i,Sub (lk fr i) (lk fr' i):=by
 intro fr'
 induction fr' with
 | nil=>intro _ i; exact .any
 | cons p r ih =>
  intro hb i
  obtain ⟨j,u⟩:=p
  simp only [lk]
  split
  ·rename_i e; subst e; exact hb.1
  ·exact ih hb.2 i
theorem Weaks.sel {k:Nat} {fr fr':Fr} {h h':List Blk} (hb:selB fr fr') (hh:h'=h):Weaks k fr h fr' h':=by
 subst hh; exact .sub (selB_lk hb) .refl
def selO (h:List Blk) (ids:List Nat) (m:Nat) (fr:Fr):Fr→Prop
 | []=>True
 | (i,u) :: r=>Sub (out h ids m (lk fr i)) u∧selO h ids m fr r
def gcOk (k n:Nat) (ids:List Nat):Bool:=decide ids.Nodup && ids.all (fun b=>Nat.blt b n) && (List.range k).all fun b=>ids[b]? == some b
theorem gcOk_ok {k n:Nat} {ids:List Nat} (h:gcOk k n ids=true):ids.Nodup∧(∀ b ∈ ids,b < n)∧(∀ b,b < k→ids[b]?=some b):=by
 simp only [gcOk,Bool.and_eq_true,decide_eq_true_eq,List.all_eq_true,List.mem_range,beq_iff_eq] at h
 exact ⟨h.1.1,fun b hb=>by have:=h.1.2 b hb; simpa using this,h.2⟩
theorem Weaks.gc {k:Nat} {fr fr':Fr} {h h':List Blk} (ids:List Nat) (m:Nat) (hids:gcOk k h.length ids=true) (hb:selO h ids m fr fr') (hh:h'=outH h ids m):Weaks k fr h fr' h':=by
 subst hh
 obtain ⟨hnd,hlt,hpre⟩:=gcOk_ok hids
 let fr1:Fr:=fr.map fun p=>(p.1,out h ids m p.2)
 have e:∀ i,lk fr1 i=out h ids m (lk fr i):=by
  intro i
  show lk (fr.map _) i=_
  clear hb
  induction fr with
  | nil=>rfl
  | cons p r ih =>
   simp only [List.map_cons,lk]
   split
   ·rfl
   ·exact ih
 refine .step (.inr ⟨ids,m,hnd,hlt,hpre,rfl,fun i=>.inr (e i)⟩) (.sub (fun i=>?_) .refl)
 rw [e]
 clear_value fr1
 clear e
 induction fr' with
 | nil=>exact .any
 | cons p r ih =>
  obtain ⟨j,u⟩:=p
  simp only [lk]
  split
  ·rename_i e; subst e; exact hb.1
  ·exact ih hb.2
def frO (h:List Blk) (ids:List Nat) (m:Nat) (fr:Fr):Fr:=fr.map fun p=>(p.1,out h ids m p.2)
theorem WS.gc {k:Nat} {x r:V} {h h':List Blk} (ids:List Nat) (m:Nat) (hids:gcOk k h.length ids=true) (hh:h'=outH h ids m) (hr:Sub (out h ids m x) r):WeakS k x h r h':=by
 obtain ⟨hnd,hlt,hpre⟩:=gcOk_ok hids
 exact ⟨_,⟨ids,m,hnd,hlt,hpre,hh,rfl⟩,hr⟩
theorem T.call1 (b:Nat) {f:FuncId} {args:List AO} {vs:List V} {r:V} {B B':Blk} (he:enters P f=true) (hb:h[b]?=some B) (hv:args.map (AO.ev (lk fr))=vs) (hF:FnE P f (vs.map (pas [b])) [pasB [b] B] r [B'])
  (hK:WOpsT P rest (tr ++ [([b],[b])]) (put fr d (ren [b] r)) (h.set b (renB [b] B')) K):WOpsT P (⟨d,.call f args,none⟩ :: rest) tr fr h K:=by
 have hlt:=(List.getElem?_eq_some_iff.1 hb).1
 refine T.call (perm:=[b]) (m:=0) (keys:=[b]) he hv (by simp) (by simpa using hlt) (hout:=[B']) (by
  have e:pasH h [b]=[pasB [b] B]:=by simp [pasH,List.getD_eq_getElem?_getD,hb]
  rw [e]; exact hF) rfl (by simp) rfl (h':=h.set b (renB [b] B')) ?_ hK
 apply List.ext_getElem?
 intro i
 simp only [List.replicate,List.append_nil,back,List.getElem?_map]
 by_cases hi:i < h.length
 ·rw [List.getElem?_range hi,Option.map_some]
  by_cases hbi:b=i
  ·subst hbi
   rw [List.getElem?_set_self hlt]
   simp [pos]
  ·rw [List.getElem?_set_ne hbi]
   simp [pos,hbi,List.getD_eq_getElem?_getD,List.getElem?_eq_getElem hi]
 ·rw [List.getElem?_eq_none (by simp; omega),List.getElem?_eq_none (by simp; omega)]; rfl
def UK (P:Program) (k:Nat) (b:AC) (st:List KF) (Q:Exit→Fr→List Blk→Prop):Nat→Fr→List Blk→Prop
 | 0,_,_=>False
 | n+1,fr,h=>AK P k b (.loop (fun fr' h'=>∃ fr2 h2,Weaks k fr' h' fr2 h2∧UK P k b st Q n fr2 h2) :: st) Q fr h
def UC (P:Program) (k:Nat) (b:AC) (st:List KF) (Q:Exit→Fr→List Blk→Prop) (n:Nat) (fr:Fr) (h:List Blk):Prop:=∃ fr2 h2,Weaks k fr h fr2 h2∧UK P k b st Q n fr2 h2
theorem N.round {b:AC} {n:Nat} (hA:AK P k b (.loop (UC P k b st Q n) :: st) Q fr h):UK P k b st Q (n+1) fr h:=hA
theorem N.ucN {b:AC} {n:Nat} (hA:UK P k b st Q n fr h):UC P k b st Q n fr h:=⟨_,_,.refl,hA⟩
theorem N.unroll (n:Nat) {b:AC} (hA:UK P k b st Q n fr h):AK P k (.loop b) st Q fr h:=by
 unfold AK
 simp only [AW]
 classical
 have hmin:∀ n fr h,UK P k b st Q n fr h→∃ n',UK P k b st Q n' fr h∧∀ n'',UK P k b st Q n'' fr h→n'≤n'':=by
  intro n
  induction n using Nat.strongRecOn with
  | _ n ih =>
   intro fr h hS
   by_cases hlt:∃ n',n' < n∧UK P k b st Q n' fr h
   ·obtain ⟨n',h1,h2⟩:=hlt
    exact ih n' h1 fr h h2
   ·exact ⟨n,hS,fun n'' h2=>Nat.le_of_not_lt fun h3=>hlt ⟨n'',h3,h2⟩⟩
 let μ:Fr→List Blk→Nat:=fun fr h=>if hx:∃ n,UK P k b st Q n fr h∧∀ n'',UK P k b st Q n'' fr h→n≤n'' then hx.choose else 0
 have hμ:∀ fr h n,UK P k b st Q n fr h→UK P k b st Q (μ fr h) fr h∧μ fr h≤n:=by
  intro fr h n hS
  have hx:=hmin n fr h hS
  have e:μ fr h=hx.choose:=by simp only [μ]; rw [dif_pos hx]
  rw [e]
  exact ⟨hx.choose_spec.1,hx.choose_spec.2 n hS⟩
 refine ⟨fun fr h=>∃ n,UK P k b st Q n fr h,μ,⟨_,_,.refl,n,hA⟩,?_⟩
 rintro fr h ⟨n1,hn1⟩
 obtain ⟨h1,h2⟩:=hμ fr h n1 hn1
 cases hm:μ fr h with
 | zero=>rw [hm] at h1; exact h1.elim
 | succ m =>
  rw [hm] at h1
  have h1:AW P k b (RK P k (.loop (UC P k b st Q m) :: st) Q) fr h:=h1
  refine AW.mono' (fun e fr h hh=>?_) h1
  cases e with
  | normal =>
   obtain ⟨fr2,h2,hw,hU⟩:=hh
   exact ⟨fr2,h2,hw,⟨m,hU⟩,Nat.lt_succ_of_le (hμ fr2 h2 m hU).2⟩
  | _=>exact hh
def setAll (h:List Blk):List Nat→List Blk→List Blk
 | [],_=>h
 | _ :: _,[]=>h
 | b :: bs,B :: Bs=>setAll (h.set b B) bs Bs
theorem setAll_length:∀ (bs:List Nat) (Bs h:List Blk),(setAll h bs Bs).length=h.length:=by
 intro bs
 induction bs with
 | nil=>intro Bs h; simp [setAll]
 | cons b bs ih=>intro Bs h; cases Bs with
  | nil=>simp [setAll]
  | cons B Bs=>simp only [setAll]; rw [ih]; simp
theorem setAll_get:∀ (bs:List Nat) (Bs h:List Blk) (i:Nat),bs.Nodup→bs.length=Bs.length→(∀ b ∈ bs,b < h.length)→(setAll h bs Bs)[i]?=match pos bs i with
  | some j=>Bs[j]?
  | none=>h[i]?:=by
 intro bs
 induction bs with
 | nil=>intro Bs h i _ _ _; simp [setAll,pos]
 | cons b bs ih =>
  intro Bs h i hnd hl hlt
  cases Bs with
  | nil=>simp at hl
  | cons B Bs =>
   simp only [setAll]
   rw [ih Bs (h.set b B) i (List.nodup_cons.1 hnd).2 (by simpa using hl) (fun c hc=>by simpa using hlt c (by simp [hc]))]
   simp only [pos]
   by_cases hb:b=i
   ·subst hb
    rw [if_pos rfl]
    cases hp:pos bs b with
    | none=>dsimp only; rw [List.getElem?_set_self (hlt b (by simp))]; simp
    | some j=>exact absurd (List.mem_of_getElem? (pos_get hp)) (List.nodup_cons.1 hnd).1
   ·rw [if_neg hb]
    cases hp:pos bs i with
    | none=>simp [List.getElem?_set_ne hb]
    | some j=>simp
theorem pos_app {l m:List Nat} {b:Nat}:pos (l ++ m) b=match pos l b with
  | some j=>some j
  | none=>(pos m b).map (· + l.length):=by
 induction l with
 | nil=>simp [pos]
 | cons x l ih =>
  simp only [List.cons_append,pos]
  split
  ·rfl
  ·rw [ih]
   cases pos l b with
   | none=>cases pos m b with
    | none=>rfl
    | some j=>simp; omega
   | some j=>rfl
theorem back_all (h:List Blk) (perm:List Nat) (hout:List Blk) (m:Nat) (hnd:perm.Nodup) (hlt:∀ b ∈ perm,b < h.length) (hl:hout.length=perm.length+m) (keys:List Nat) :
  keys=perm ++ upto h.length m→back (h ++ List.replicate m dum) keys hout=setAll h perm ((hout.take perm.length).map (renB keys)) ++ (hout.drop perm.length).map (renB keys):=by
 intro hk
 apply List.ext_getElem?
 intro i
 unfold back
 rw [List.getElem?_map]
 by_cases hi:i < h.length+m
 ·rw [List.getElem?_range (by simpa using hi),Option.map_some]
  rw [hk]
  rw [pos_app]
  by_cases hi2:i < h.length
  ·rw [List.getElem?_append_left (by rw [setAll_length]; exact hi2),setAll_get _ _ _ _ hnd (by simp; omega) hlt]
   cases hp:pos perm i with
   | some j =>
    have hj:=(List.getElem?_eq_some_iff.1 (pos_get hp)).1
    simp only [List.getElem?_map,List.getElem?_take,if_pos hj]
    rw [List.getElem?_eq_getElem (by omega)]
    simp [List.getD_eq_getElem?_getD,List.getElem?_eq_getElem (show j < hout.length by omega)]
   | none =>
    have:pos (upto h.length m) i=none:=by
     cases hq:pos (upto h.length m) i with
     | none=>rfl
     | some j=>have:=(upto_mem (List.mem_of_getElem? (pos_get hq))).1; omega
    simp only [this,Option.map_none]
    simp [List.getD_eq_getElem?_getD,List.getElem?_append_left hi2,List.getElem?_eq_getElem hi2]
  ·obtain ⟨j,rfl⟩:∃ j,i=h.length+j:=⟨i - h.length,by omega⟩
   have hj:j < m:=by omega
   have hp:pos perm (h.length+j)=none:=by
    cases hq:pos perm (h.length+j) with
    | none=>rfl
    | some q=>have:=hlt _ (List.mem_of_getElem? (pos_get hq)); omega
   rw [hp,upto_pos _ _ _ hj,List.getElem?_append_right (by rw [setAll_length]; omega),setAll_length,show h.length+j - h.length=j by omega]
   simp only [List.getElem?_map,List.getElem?_drop,Option.map_some]
   rw [List.getElem?_eq_getElem (by omega)]
   simp [List.getD_eq_getElem?_getD,List.getElem?_eq_getElem (show j+perm.length < hout.length by omega),Nat.add_comm]
 ·rw [List.getElem?_eq_none (by simp; omega),List.getElem?_eq_none (by simp [setAll_length]; omega)]; rfl
def permOk (n:Nat) (perm:List Nat):Bool:=decide perm.Nodup && perm.all fun b=>Nat.blt b n
theorem permOk_ok {n:Nat} {perm:List Nat} (h:permOk n perm=true):perm.Nodup∧∀ b ∈ perm,b < n:=by
 simp only [permOk,Bool.and_eq_true,decide_eq_true_eq,List.all_eq_true] at h
 exact ⟨h.1,fun b hb=>by have:=h.2 b hb; simpa using this⟩
theorem T.callP (perm:List Nat) {f:FuncId} {args:List AO} {vs:List V} {r:V} {hin hout:List Blk} (he:enters P f=true) (hv:args.map (AO.ev (lk fr))=vs) (hF:FnE P f (vs.map (pas perm)) hin r hout)
  (hH:pasH h perm=hin) (hp:permOk h.length perm=true) (hl:(hout.length == perm.length+(hout.drop perm.length).length)=true) (hver:((hout.drop perm.length).all fun k=>Nat.blt 0 k.ver)=true)
  (hK:WOpsT P rest (tr ++ [(perm,perm ++ upto h.length (hout.drop perm.length).length)]) (put fr d (ren (perm ++ upto h.length (hout.drop perm.length).length) r)) (setAll h perm ((hout.take perm.length).map (renB (perm ++ upto h.length (hout.drop perm.length).length))) ++ (hout.drop perm.length).map (renB (perm ++ upto h.length (hout.drop perm.length).length))) K) :
  WOpsT P (⟨d,.call f args,none⟩ :: rest) tr fr h K:=by
 obtain ⟨h1,h2⟩:=permOk_ok hp
 subst hH
 have hl':hout.length=perm.length+(hout.drop perm.length).length:=by simpa using hl
 refine T.call (perm:=perm) (m:=(hout.drop perm.length).length) he hv h1 h2 hF hl' (fun k hk=>by
  rw [List.all_eq_true] at hver
  have:=hver k hk; simpa using this) rfl rfl ?_
 rw [back_all h perm hout _ h1 h2 hl' _ rfl]
 exact hK
theorem bget {m:List Int} {i:Nat} (hi:i < m.length):(bcells m)[i]?=some [.c (.int .u8 (m.getD i 0))]:=by
 rw [bcells_get,List.getElem?_eq_getElem hi,List.getD_eq_getElem?_getD,List.getElem?_eq_getElem hi]; rfl
theorem Sub.b {u v:Bool} (h:u=true↔v=true):Sub (.c (.bool u)) (.c (.bool v)):=by rw [Bool.eq_iff_iff.2 h]; exact .rfl
theorem Sub.c {u v:Value} (h:u=v):Sub (.c u) (.c v):=by rw [h]; exact .rfl
theorem T.eqnP {ne:Bool} {x:AO} {b ver off len:Nat} {B:Blk} (hx:x.ev (lk fr)=.psl b ver off len) (hb:h[b]?=some B) (hv:B.ver=ver∧0 < len) (hK:WOpsT P rest (tr ++ [([b],[])]) (put fr d (.c (.bool ne))) h K):WOpsT P (⟨d,.eqn ne x,none⟩ :: rest) tr fr h K :=
 T.pure nofun nofun (by simp only [stepA,hx,hb]; rw [if_pos hv]) hK
theorem T.eqnN {ne:Bool} {x:AO} (hx:x.ev (lk fr)=.c (.slice none 0 0)) (hK:WOpsT P rest (tr ++ [([],[])]) (put fr d (.c (.bool (!ne)))) h K):WOpsT P (⟨d,.eqn ne x,none⟩ :: rest) tr fr h K :=
 T.pure nofun nofun (by simp only [stepA,hx]) hK
theorem T.eqnS {ne:Bool} {x:AO} {e:Nat} {rows:List (List V)} (hx:x.ev (lk fr)=.sl e rows) (hl:0 < rows.length) (hK:WOpsT P rest (tr ++ [([],[])]) (put fr d (.c (.bool ne))) h K):WOpsT P (⟨d,.eqn ne x,none⟩ :: rest) tr fr h K :=
 T.pure nofun nofun (by simp only [stepA,hx]; rw [if_pos hl]) hK
theorem N.cuN {id:Option Nat} {C:Fr→List Blk→Prop} (hA:C fr h):RK P k (.cut id C :: st) Q .normal fr h:=hA
theorem N.cuE {id:Option Nat} {i:Nat} {C:Fr→List Blk→Prop} (hi:some i=id) (hA:C fr h):RK P k (.cut id C :: st) Q (.exit i) fr h:=by
 simp only [RK]; rw [if_pos hi]; exact hA
theorem N.cuX {id:Option Nat} {i:Nat} {C:Fr→List Blk→Prop} (hi:some i≠id) (hA:RK P k st Q (.exit i) fr h):RK P k (.cut id C :: st) Q (.exit i) fr h:=by
 simp only [RK]; rw [if_neg hi]; exact hA
theorem N.cuR {id:Option Nat} {C:Fr→List Blk→Prop} (hA:RK P k st Q .ret fr h):RK P k (.cut id C :: st) Q .ret fr h:=hA
def wkst:List KF→Bool
 | .seq _ :: _=>true
 | .block _ :: st=>wkst st
 | _=>false
theorem RK.weak:∀ {st:List KF},wkst st=true→∀ {fr fr1:Fr} {h h1:List Blk},Weaks k fr h fr1 h1→RK P k st Q .normal fr1 h1→RK P k st Q .normal fr h:=by
 intro st
 induction st with
 | nil=>intro h; cases h
 | cons f st ih =>
  intro hw fr fr1 h h1 hW hR
  cases f with
  | seq b=>exact N.seqN (N.weak hW hR)
  | block id=>exact N.blkN (ih hw hW hR)
  | loop C=>cases hw
  | cut id C=>cases hw
theorem N.blockC {id:Nat} {b:AC} (fr1:Fr) (h1:List Blk) (hw:wkst st=true) (hA:∀ C:Fr→List Blk→Prop,(∀ fr h,Weaks k fr h fr1 h1→C fr h)→AK P k b (.cut (some id) C :: st) Q fr h) (hR:RK P k st Q .normal fr1 h1):AK P k (.block id b) st Q fr h:=by
 have:=hA (fun fr h=>RK P k st Q .normal fr h) (fun fr h hW=>RK.weak hw hW hR)
 refine N.block ?_
 unfold AK at this ⊢
 refine AW.same (fun e fr h=>?_) this
 cases e <;> simp [RK]
theorem setAll_self (h:List Blk) (perm:List Nat) (hnd:perm.Nodup) (hlt:∀ b ∈ perm,b < h.length):setAll h perm (perm.map fun b=>h.getD b default)=h:=by
 apply List.ext_getElem?
 intro i
 rw [setAll_get _ _ _ _ hnd (by simp) hlt]
 cases hp:pos perm i with
 | none=>rfl
 | some j =>
  have hj:=pos_get hp
  have hi:=hlt i (List.mem_of_getElem? hj)
  simp only [List.getElem?_map,hj,Option.map_some]
  rw [List.getD_eq_getElem?_getD,List.getElem?_eq_getElem hi]; rfl
theorem T.callQ (perm:List Nat) {f:FuncId} {args:List AO} {vs:List V} {r:V} {hin hout:List Blk} (he:enters P f=true) (hv:args.map (AO.ev (lk fr))=vs) (hF:FnE P f (vs.map (pas perm)) hin r hout)
  (hH:pasH h perm=hin) (hp:permOk h.length perm=true) (hl:(hout.length == perm.length+(hout.drop perm.length).length)=true) (hver:((hout.drop perm.length).all fun k=>Nat.blt 0 k.ver)=true)
  (hS:(hout.take perm.length).map (renB (perm ++ upto h.length (hout.drop perm.length).length))=perm.map fun b=>h.getD b default)
  (hK:WOpsT P rest (tr ++ [(perm,upto h.length (hout.drop perm.length).length)]) (put fr d (ren (perm ++ upto h.length (hout.drop perm.length).length) r)) (h ++ (hout.drop perm.length).map (renB (perm ++ upto h.length (hout.drop perm.length).length))) K) :
  WOpsT P (⟨d,.call f args,none⟩ :: rest) tr fr h K:=by
 obtain ⟨h1,h2⟩:=permOk_ok hp
 subst hH; subst hv
 have hl':hout.length=perm.length+(hout.drop perm.length).length:=by simpa using hl
 have hb:=back_all h perm hout _ h1 h2 hl' _ rfl
 rw [hS,setAll_self h perm h1 h2] at hb
 simp only [WOpsT,WOpT]
 refine ⟨perm,(hout.drop perm.length).length,r,hout,upto h.length (hout.drop perm.length).length,h1,h2,hl',fun k hk=>?_,he,hF,⟨fun b hb=>List.mem_append_right _ hb,fun b hm hn=>?_⟩,?_⟩
 ·rw [List.all_eq_true] at hver
  have:=hver k hk; simpa using this
 ·have hbp:b ∈ perm:=by
   rcases List.mem_append.1 hm with h|h
   ·exact h
   ·exact absurd h hn
  refine ⟨hbp,h2 b hbp,?_⟩
  rw [hb,List.getElem?_append_left (h2 b hbp)]
 ·rw [hb]; exact hK
end
theorem pasB_bytes {ids:List Nat} {v e:Nat} {m:List Int}:pasB ids ⟨v,e,bcells m⟩=⟨v,e,bcells m⟩:=by simp [pasB,bcells_pas]
theorem pasB_ints {ids:List Nat} {v e:Nat} {m:List Int}:pasB ids ⟨v,e,cells m⟩=⟨v,e,cells m⟩:=by simp [pasB,cells_pas]
theorem renB_bytes {ids:List Nat} {v e:Nat} {m:List Int}:renB ids ⟨v,e,bcells m⟩=⟨v,e,bcells m⟩:=by simp [renB,bcells_ren]
theorem renB_ints {ids:List Nat} {v e:Nat} {m:List Int}:renB ids ⟨v,e,cells m⟩=⟨v,e,cells m⟩:=by simp [renB,cells_ren]
theorem outB_bytes {h:List Blk} {ids:List Nat} {n v e:Nat} {m:List Int}:outB h ids n ⟨v,e,bcells m⟩=⟨v,e,bcells m⟩:=by simp [outB,bcells_out]
theorem outB_ints {h:List Blk} {ids:List Nat} {n v e:Nat} {m:List Int}:outB h ids n ⟨v,e,cells m⟩=⟨v,e,cells m⟩:=by simp [outB,cells_out]
class Flat {α:Type} (f:α→List V):Prop where
 flat:∀ a,∀ x ∈ f a,(∃ v,x=.c v)∨∃ e rows,x=.sl e rows
section
variable {α:Type} {f:α→List V} [hf:Flat f]
theorem flat_map {g:V→V} (hc:∀ v,g (.c v)=.c v) (hs:∀ e rows,g (.sl e rows)=.sl e rows) (a:α):(f a).map g=f a:=by
 conv=>rhs; rw [← List.map_id (f a)]
 refine List.map_congr_left fun x hx=>?_
 rcases hf.flat a x hx with ⟨v,rfl⟩|⟨e,rows,rfl⟩
 ·exact hc v
 ·exact hs e rows
theorem flat_rows {g:V→V} (hc:∀ v,g (.c v)=.c v) (hs:∀ e rows,g (.sl e rows)=.sl e rows) (l:List α):(l.map f).map (·.map g)=l.map f:=by
 rw [List.map_map]; exact List.map_congr_left fun a _=>flat_map hc hs a
theorem rows_frz (l:List α) (h:List Blk) (kp:Nat→Bool) (n:Nat):(l.map f).map (·.map (frz h kp n))=l.map f:=flat_rows (fun _=>frz_c) (fun _ _=>frz_sl) l
theorem rows_ren (l:List α) (ks:List Nat):(l.map f).map (·.map (ren ks))=l.map f:=flat_rows (fun _=>rfl) (fun _ _=>rfl) l
theorem pasB_flat {ids:List Nat} {v e:Nat} {l:List α}:pasB ids ⟨v,e,l.map f⟩=⟨v,e,l.map f⟩:=by
 simp only [pasB]; rw [flat_rows (fun _=>rfl) (fun _ _=>rfl)]
theorem renB_flat {ids:List Nat} {v e:Nat} {l:List α}:renB ids ⟨v,e,l.map f⟩=⟨v,e,l.map f⟩:=by
 simp only [renB]; rw [flat_rows (fun _=>rfl) (fun _ _=>rfl)]
theorem outB_flat {h:List Blk} {ids:List Nat} {n v e:Nat} {l:List α}:outB h ids n ⟨v,e,l.map f⟩=⟨v,e,l.map f⟩:=by
 simp only [outB]; rw [flat_rows (fun _=>out_c) (fun _ _=>out_sl)]
end
theorem consE {α:Type} {a b:α} {l m:List α} (h1:a=b) (h2:l=m):a :: l=b :: m:=by rw [h1,h2]
theorem pasH_nil {h:List Blk}:pasH h []=[]:=rfl
section
variable {P:Program} {rest:List AOper} {tr:Tr} {fr:Fr} {h:List Blk} {K:KT} {d:Option Nat} {k:Nat} {st:List KF} {Q:Exit→Fr→List Blk→Prop}
theorem N.condU {x:AO} {a b:AC} (hx:x.ev (lk fr)=.bit) (hA:AK P k a st Q fr h) (hB:AK P k b st Q fr h):AK P k (.cond x a b) st Q fr h:=by
 unfold AK at hA hB ⊢
 simp only [AW,hx,boolOf]
 exact ⟨trivial,hA,hB⟩
theorem T.eqnU {ne:Bool} {x:AO} {e:Nat} (hx:x.ev (lk fr)=.sl e []) (hK:WOpsT P rest (tr ++ [([],[])]) (put fr d .bit) h K):WOpsT P (⟨d,.eqn ne x,none⟩ :: rest) tr fr h K :=
 T.pure nofun nofun (by simp [stepA,hx]) hK
theorem T.eqs {ks:List CK} {ne:Bool} {x y:AO} {us vs:List Value} {b:Bool} (hx:plainA (x.ev (lk fr))=some us) (hy:plainA (y.ev (lk fr))=some vs) (hb:eqLv ks us vs=some b)
  (hK:WOpsT P rest (tr ++ [([],[])]) (put fr d (.c (.bool (xor ne b)))) h K):WOpsT P (⟨d,.eqs ks ne x y,none⟩ :: rest) tr fr h K :=
 T.pure nofun nofun (by simp only [stepA,hx,hy,hb,pureS]; rfl) hK
theorem T.i2s {x:AO} {k:IntKind} {n:Int} (hx:x.ev (lk fr)=.c (.int k n)) (hK:WOpsT P rest (tr ++ [([],[])]) (put fr d (.c (.string (Utf8.encode n)))) h K):WOpsT P (⟨d,.i2s x,none⟩ :: rest) tr fr h K :=
 T.pure nofun nofun (by simp only [stepA,hx,pureS]; rfl) hK
theorem T.s2b {x:AO} {s:ByteArray} (hx:x.ev (lk fr)=.c (.string s)) (hK:WOpsT P rest (tr ++ [([],[h.length])]) (put fr d (.psl h.length 1 0 s.size)) (h ++ [⟨1,1,bcells (s.data.toList.map fun b=>(b.toNat:Int))⟩]) K):WOpsT P (⟨d,.s2b x,none⟩ :: rest) tr fr h K :=
 T.make nofun nofun (by simp only [stepA,hx,bcells,List.map_map]; rfl) hK
theorem T.slcs {x:AO} {lo hi:Option AO} {s:ByteArray} {l m:Int} (hx:x.ev (lk fr)=.c (.string s)) (hl:((lo.map fun l=>ofInt (AO.ev (lk fr) l)).getD (some 0))=some l) (hm:((hi.map fun l=>ofInt (AO.ev (lk fr) l)).getD (some (s.size:Int)))=some m)
  (hn:0≤l∧l≤m∧m≤s.size) (hK:WOpsT P rest (tr ++ [([],[])]) (put fr d (.c (.string (s.extract l.toNat m.toNat)))) h K):WOpsT P (⟨d,.slcs x lo hi,none⟩ :: rest) tr fr h K :=
 T.pure nofun nofun (by simp only [stepA,hx,hl,hm,pureS]; rw [if_pos hn]; rfl) hK
theorem T.ixs {x i:AO} {s:ByteArray} {k:IntKind} {j:Int} {b:UInt8} (hx:x.ev (lk fr)=.c (.string s)) (hi:i.ev (lk fr)=.c (.int k j)) (hj:0≤j) (hb:s[j.toNat]?=some b)
  (hK:WOpsT P rest (tr ++ [([],[])]) (put fr d (.c (.int .u8 b.toNat))) h K):WOpsT P (⟨d,.ixs x i,none⟩ :: rest) tr fr h K :=
 T.pure nofun nofun (by simp only [stepA,hx,hi,ofInt,pureS]; rw [if_pos hj,hb]; rfl) hK
theorem T.lens {x:AO} {s:ByteArray} (hx:x.ev (lk fr)=.c (.string s)) (hK:WOpsT P rest (tr ++ [([],[])]) (put fr d (I s.size)) h K):WOpsT P (⟨d,.lens x,none⟩ :: rest) tr fr h K :=
 T.pure nofun nofun (by simp only [stepA,hx,pureS]; rfl) hK
theorem T.clr {z:List Value} {x:AO} {b ver off len:Nat} {B:Blk} (hx:x.ev (lk fr)=.psl b ver off len) (hb:h[b]?=some B) (hB:B.ver=ver∧B.esz=z.length)
  (hK:WOpsT P rest (tr ++ [([b],[b])]) (put fr d (.tup [])) (h.set b { B with rows:=B.rows.take off ++ List.replicate len (z.map .c) ++ B.rows.drop (off+len) }) K):WOpsT P (⟨d,.clr z x,none⟩ :: rest) tr fr h K :=
 T.turn nofun nofun (by simp only [stepA,hx,hb]; rw [if_pos hB]) hK
theorem T.xcall {f:FuncId} {args:List AO} {vs:List V} {r:V} (hv:args.map (AO.ev (lk fr))=vs) (hF:ExtE P f vs r) (hK:WOpsT P rest (tr ++ [([],[])]) (put fr d r) h K):WOpsT P (⟨d,.xcall f args,none⟩ :: rest) tr fr h K:=by
 subst hv
 exact ⟨r,hF,hK⟩
theorem T.capN {x:AO} (hx:x.ev (lk fr)=.c (.slice none 0 0)) (hK:WOpsT P rest (tr ++ [([],[])]) (put fr d (I 0)) h K):WOpsT P (⟨d,.capx x,none⟩ :: rest) tr fr h K :=
 T.pure nofun nofun (by simp only [stepA,hx]) hK
theorem T.slcN {e:Nat} {x:AO} {lo hi:Option AO} (hx:x.ev (lk fr)=.c (.slice none 0 0)) (hl:((lo.map fun l=>ofInt (AO.ev (lk fr) l)).getD (some 0))=some 0) (hm:((hi.map fun l=>ofInt (AO.ev (lk fr) l)).getD (some 0))=some 0)
  (hK:WOpsT P rest (tr ++ [([],[])]) (put fr d (.c (.slice none 0 0))) h K):WOpsT P (⟨d,.slc e x lo hi,none⟩ :: rest) tr fr h K :=
 T.pure nofun nofun (by simp only [stepA,hx,hl,hm]; rfl) hK
theorem T.nilcf {x:AO} {f:FuncId} {cs:List V} (hx:x.ev (lk fr)=.fn f cs) (hK:WOpsT P rest (tr ++ [([],[])]) (put fr d (.fn f cs)) h K):WOpsT P (⟨d,.nilc x,none⟩ :: rest) tr fr h K :=
 T.pure nofun nofun (by simp only [stepA,hx]) hK
theorem T.nilci {x:AO} {t:TypeId} {v:V} (hx:x.ev (lk fr)=.ifc t v) (hK:WOpsT P rest (tr ++ [([],[])]) (put fr d (.ifc t v)) h K):WOpsT P (⟨d,.nilc x,none⟩ :: rest) tr fr h K :=
 T.pure nofun nofun (by simp only [stepA,hx]) hK
theorem Weaks.nilAs (i e:Nat) {fr2:Fr} {h2:List Blk} (he:0 < e) (hi:lk fr i=.c (.slice none 0 0)) (hr:Weaks k ((i,.psl h.length 1 0 0) :: fr) (h ++ [⟨1,e,[]⟩]) fr2 h2):Weaks k fr h fr2 h2 :=
 .virt e he (fun j=>by
  simp only [lk]
  by_cases hj:i=j
  ·subst hj; rw [if_pos rfl]; exact .inr ⟨hi,rfl⟩
  ·rw [if_neg hj]; exact .inl rfl) hr
def WCall (P:Program) (f:FuncId) (vs:List V) (rest:List AOper) (tr:Tr) (fr:Fr) (h:List Blk) (K:KT) (d:Option Nat):Prop :=
 CallOkT P f vs h fun R W x h'=>WOpsT P rest (tr ++ [(R,W)]) (put fr d x) h' K
theorem T.ofFn {x:AO} {args:List AO} {f:FuncId} {caps:List V} (hx:x.ev (lk fr)=.fn f caps) (hW:WCall P f (args.map (AO.ev (lk fr)) ++ caps) rest tr fr h K d):WOpsT P (⟨d,.callc x args,none⟩ :: rest) tr fr h K:=by
 simp only [WOpsT,WOpT,hx]
 exact hW
theorem C.zero {f:FuncId} {vs us:List V} {r:V} (he:enters P f=true) (hv:vs.map (pas [])=us) (hF:FnE P f us [] r [])
  (hK:WOpsT P rest (tr ++ [([],[])]) (put fr d (ren [] r)) h K):WCall P f vs rest tr fr h K d:=by
 subst hv
 refine ⟨[],0,r,[],[],by simp,by simp,rfl,by simp,he,hF,.refl,?_⟩
 simp only [upto,List.append_nil,List.replicate,back_nil]
 exact hK
theorem C.pass (perm:List Nat) {f:FuncId} {vs us:List V} {r:V} {hin hout:List Blk} (he:enters P f=true) (hv:vs.map (pas perm)=us) (hF:FnE P f us hin r hout)
  (hH:pasH h perm=hin) (hp:permOk h.length perm=true) (hl:(hout.length == perm.length+(hout.drop perm.length).length)=true) (hver:((hout.drop perm.length).all fun k=>Nat.blt 0 k.ver)=true)
  (hK:WOpsT P rest (tr ++ [(perm,perm ++ upto h.length (hout.drop perm.length).length)]) (put fr d (ren (perm ++ upto h.length (hout.drop perm.length).length) r)) (setAll h perm ((hout.take perm.length).map (renB (perm ++ upto h.length (hout.drop perm.length).length))) ++ (hout.drop perm.length).map (renB (perm ++ upto h.length (hout.drop perm.length).length))) K) :
  WCall P f vs rest tr fr h K d:=by
 obtain ⟨h1,h2⟩:=permOk_ok hp
 subst hH; subst hv
 have hl':hout.length=perm.length+(hout.drop perm.length).length:=by simpa using hl
 refine ⟨perm,(hout.drop perm.length).length,r,hout,_,h1,h2,hl',fun k hk=>?_,he,hF,.refl,?_⟩
 ·rw [List.all_eq_true] at hver
  have:=hver k hk; simpa using this
 ·rw [back_all h perm hout _ h1 h2 hl' _ rfl]
  exact hK
theorem C.read (perm:List Nat) {f:FuncId} {vs us:List V} {r:V} {hin hout:List Blk} (he:enters P f=true) (hv:vs.map (pas perm)=us) (hF:FnE P f us hin r hout)
  (hH:pasH h perm=hin) (hp:permOk h.length perm=true) (hl:(hout.length == perm.length+(hout.drop perm.length).length)=true) (hver:((hout.drop perm.length).all fun k=>Nat.blt 0 k.ver)=true)
  (hS:(hout.take perm.length).map (renB (perm ++ upto h.length (hout.drop perm.length).length))=perm.map fun b=>h.getD b default)
  (hK:WOpsT P rest (tr ++ [(perm,upto h.length (hout.drop perm.length).length)]) (put fr d (ren (perm ++ upto h.length (hout.drop perm.length).length) r)) (h ++ (hout.drop perm.length).map (renB (perm ++ upto h.length (hout.drop perm.length).length))) K) :
  WCall P f vs rest tr fr h K d:=by
 obtain ⟨h1,h2⟩:=permOk_ok hp
 subst hH; subst hv
 have hl':hout.length=perm.length+(hout.drop perm.length).length:=by simpa using hl
 have hb:=back_all h perm hout _ h1 h2 hl' _ rfl
 rw [hS,setAll_self h perm h1 h2] at hb
 refine ⟨perm,(hout.drop perm.length).length,r,hout,upto h.length (hout.drop perm.length).length,h1,h2,hl',fun k hk=>?_,he,hF,⟨fun b hb=>List.mem_append_right _ hb,fun b hm hn=>?_⟩,?_⟩
 ·rw [List.all_eq_true] at hver
  have:=hver k hk; simpa using this
 ·have hbp:b ∈ perm:=by
   rcases List.mem_append.1 hm with h|h
   ·exact h
   ·exact absurd h hn
  refine ⟨hbp,h2 b hbp,?_⟩
  rw [hb,List.getElem?_append_left (h2 b hbp)]
 ·rw [hb]; exact hK
end
theorem sm:(∀ {ks:List Nat} {v:Value},ren ks (.c v)=.c v)∧(∀ {ks:List Nat} {vs:List V},ren ks (.tup vs)=.tup (vs.map (ren ks)))∧(∀ {ks:List Nat} {vs:List V},ren ks (.agg vs)=.agg (vs.map (ren ks))) ∧
  (∀ {ks:List Nat} {e:Nat} {rows:List (List V)},ren ks (.sl e rows)=.sl e rows)∧(∀ n:Nat,0+n=n)∧(∀ n:Nat,n+0=n)∧(∀ {α:Type} (a:α) (l:List α),(a :: l).length=l.length+1)∧(∀ {α:Type},([]:List α).length=0) ∧
  (∀ {α:Type} (l:List α),[] ++ l=l)∧(∀ {α:Type} (l:List α),l ++ []=l)∧(∀ {α:Type} (a:α) (l m:List α),(a :: l) ++ m=a :: (l ++ m))∧(∀ {α:Type} (a b:α) (l:List α),(a :: l).set 0 b=b :: l)∧(∀ {α:Type} (a b:α) (l:List α) (n:Nat),(a :: l).set (n+1) b=a :: l.set n b) ∧
  (∀ {α:Type} (l:List α),l.take 0=[])∧(∀ {α:Type} (l:List α),l.drop 0=l)∧(∀ {α:Type} (a:α) (l:List α) (n:Nat),(a :: l).take (n+1)=a :: l.take n)∧(∀ {α:Type} (a:α) (l:List α) (n:Nat),(a :: l).drop (n+1)=l.drop n)∧(∀ {α:Type} (n:Nat),([]:List α).take n=[])∧(∀ {α:Type} (n:Nat),([]:List α).drop n=[]) ∧
  (∀ {α β:Type} (f:α→β),[].map f=[])∧(∀ {α β:Type} (f:α→β) (a:α) (l:List α),(a :: l).map f=f a :: l.map f)∧(∀ {α:Type} (a:α) (l:List α),(a :: l)[0]?=some a)∧(∀ {α:Type} (a:α) (l:List α) (n:Nat),(a :: l)[n+1]?=l[n]?) ∧
  (∀ {ks:List Nat} {b ver off len:Nat},ren ks (.psl b ver off len)=match ks[b]? with
   | some b'=>.psl b' ver off len
   | none=>.any)∧(∀ {ks:List Nat} {b ver r k:Nat},ren ks (.ptr b ver r k)=match ks[b]? with
   | some b'=>.ptr b' ver r k
   | none=>.any)∧(∀ {ks:List Nat} (xs:List Int),(cells xs).map (fun x=>x.map (ren ks))=cells xs)∧(∀ {ks:List Nat} (xs:List Int),(bcells xs).map (fun x=>x.map (ren ks))=bcells xs) ∧
  (∀ (p:Prop) [Decidable p],(decide p=true)=p)∧((false=true)=False)∧(∀ p:Prop,(True↔p)=p)∧(∀ p:Prop,(p↔True)=p)∧(∀ p:Prop,(False↔p)=¬ p)∧(∀ p:Prop,(p↔False)=¬ p)∧((0:Int).toNat=0) :=
 ⟨ren_c,ren_tup,ren_agg,ren_sl,Nat.zero_add,Nat.add_zero,fun _ _=>rfl,rfl,fun _=>rfl,List.append_nil,fun _ _ _=>rfl,fun _ _ _=>rfl,fun _ _ _ _=>rfl,fun _=>rfl,fun _=>rfl,fun _ _ _=>rfl,fun _ _ _=>rfl,fun _=>List.take_nil,fun _=>List.drop_nil,fun _=>rfl,fun _ _ _=>rfl,fun _ _=>rfl,fun _ _ _=>rfl,
  ren_psl,ren_ptr,cells_ren,bcells_ren,fun _ _=>decide_eq_true_eq,Bool.false_eq_true,fun _=>true_iff _,fun _=>iff_true _,fun _=>false_iff _,fun _=>iff_false _,rfl⟩
section
variable {P:Program} {k:Nat} {st:List KF} {Q:Exit→Fr→List Blk→Prop} {fr:Fr} {h:List Blk}
theorem rk:(∀ b,RK P k (.seq b :: st) Q .normal fr h=AKW P k b st Q fr h)∧(∀ b i,RK P k (.seq b :: st) Q (.exit i) fr h=RK P k st Q (.exit i) fr h)∧(∀ b,RK P k (.seq b :: st) Q .ret fr h=RK P k st Q .ret fr h) ∧
  (∀ i,RK P k (.block i :: st) Q .normal fr h=RK P k st Q .normal fr h)∧(∀ i j,RK P k (.block i :: st) Q (.exit j) fr h=if j=i then RK P k st Q .normal fr h else RK P k st Q (.exit j) fr h)∧(∀ i,RK P k (.block i :: st) Q .ret fr h=RK P k st Q .ret fr h) ∧
  (∀ C,RK P k (.loop C :: st) Q .normal fr h=C fr h)∧(∀ C i,RK P k (.loop C :: st) Q (.exit i) fr h=RK P k st Q (.exit i) fr h)∧(∀ C,RK P k (.loop C :: st) Q .ret fr h=RK P k st Q .ret fr h) :=
 ⟨fun _=>rfl,fun _ _=>rfl,fun _=>rfl,fun _=>rfl,fun _ _=>rfl,fun _=>rfl,fun _=>rfl,fun _ _=>rfl,fun _=>rfl⟩
theorem rk0:∀ e,RK P k [] Q e fr h=Q e fr h:=fun _=>rfl
end
section
variable {P:Program} {k:Nat} {st:List KF} {Q:Exit→Fr→List Blk→Prop} {fr:Fr} {h:List Blk} {x:AO} {a b:AC}
theorem N.c1 {p:Prop} {i:Decidable p} (hA:AK P k a st Q fr h) (hx:x.ev (lk fr)=.c (.bool (decide p)):=by rfl) (hp:p:=by omega):AK P k (.cond x a b) st Q fr h:=N.cT hx hp hA
theorem N.c2 {p:Prop} {i:Decidable p} (hA:AK P k b st Q fr h) (hx:x.ev (lk fr)=.c (.bool (decide p)):=by rfl) (hp:¬ p:=by omega):AK P k (.cond x a b) st Q fr h:=N.cF hx hp hA
theorem N.c3 (hA:AK P k a st Q fr h) (hx:x.ev (lk fr)=.c (.bool true):=by rfl):AK P k (.cond x a b) st Q fr h:=N.condT hx rfl hA
theorem N.c4 (hA:AK P k b st Q fr h) (hx:x.ev (lk fr)=.c (.bool false):=by rfl):AK P k (.cond x a b) st Q fr h:=N.condF hx rfl hA
end
theorem lb {n m:Nat} (h:Nat.ble n m=true:=by rfl):n≤m:=Nat.le_of_ble_eq_true h
-- L rules
section
variable {P:Program} {rest:List AOper} {tr:Tr} {fr:Fr} {h:List Blk} {K:KT} {d:Option Nat}
theorem L.ld {a:AO} {b ver r k:Nat} {B:Blk} {row:List V} {v:V} (hK:WOpsT P rest (tr ++ [([b],[])]) (put fr d v) h K) (ha:a.ev (lk fr)=.ptr b ver r k:=by rfl) (hb:h[b]?=some B:=by rfl) (hv:B.ver=ver:=by rfl) (hr:B.rows[r]?=some row:=by rfl) (hk:row[k]?=some v:=by rfl):WOpsT P (⟨d,.ld none a,none⟩ :: rest) tr fr h K:=T.ld ha hb hv hr hk hK
theorem L.ldd {a:AO} {k:Nat} {row:List V} {v:V} (hK:WOpsT P rest (tr ++ [([],[])]) (put fr d v) h K) (ha:a.ev (lk fr)=.dp row k:=by rfl) (hk:row[k]?=some v:=by rfl):WOpsT P (⟨d,.ld none a,none⟩ :: rest) tr fr h K:=T.ldd ha hk hK
theorem L.ldn {a:AO} {n b ver r k:Nat} {B:Blk} {row:List V} (hK:WOpsT P rest (tr ++ [([b],[])]) (put fr d (.agg ((row.drop k).take n))) h K) (ha:a.ev (lk fr)=.ptr b ver r k:=by rfl) (hb:h[b]?=some B:=by rfl) (hv:B.ver=ver:=by rfl) (hr:B.rows[r]?=some row:=by rfl) (hk:k+n≤row.length:=by exact lb):WOpsT P (⟨d,.ld (some n) a,none⟩ :: rest) tr fr h K:=T.ldn ha hb hv hr hk hK
theorem L.lddn {a:AO} {n k:Nat} {row:List V} (hK:WOpsT P rest (tr ++ [([],[])]) (put fr d (.agg ((row.drop k).take n))) h K) (ha:a.ev (lk fr)=.dp row k:=by rfl) (hk:k+n≤row.length:=by exact lb):WOpsT P (⟨d,.ld (some n) a,none⟩ :: rest) tr fr h K:=T.lddn ha hk hK
theorem L.add {x y:AO} {a b:Int} (hK:WOpsT P rest (tr ++ [([],[])]) (put fr d (I (a+b))) h K) (hx:x.ev (lk fr)=.c (.int .i64 a):=by rfl) (hy:y.ev (lk fr)=.c (.int .i64 b):=by rfl) (h1:-9223372036854775808≤a+b:=by omega) (h2:a+b≤9223372036854775807:=by omega):WOpsT P (⟨d,.bin .add x y,none⟩ :: rest) tr fr h K:=T.add hx hy h1 h2 hK
theorem L.sub {x y:AO} {a b:Int} (hK:WOpsT P rest (tr ++ [([],[])]) (put fr d (I (a - b))) h K) (hx:x.ev (lk fr)=.c (.int .i64 a):=by rfl) (hy:y.ev (lk fr)=.c (.int .i64 b):=by rfl) (h1:-9223372036854775808≤a - b:=by omega) (h2:a - b≤9223372036854775807:=by omega):WOpsT P (⟨d,.bin .sub x y,none⟩ :: rest) tr fr h K:=T.sub hx hy h1 h2 hK
theorem L.bin {op:BinOp} {x y:AO} {u v r:Value} (hK:WOpsT P rest (tr ++ [([],[])]) (put fr d (.c r)) h K) (hx:x.ev (lk fr)=.c u:=by rfl) (hy:y.ev (lk fr)=.c v:=by rfl) (hb:binV op u v=some r:=by rfl):WOpsT P (⟨d,.bin op x y,none⟩ :: rest) tr fr h K:=T.bin hx hy hb hK
theorem L.idx {x i:AO} {e b ver off len:Nat} {n:Int} {k:IntKind} {B:Blk} (hK:WOpsT P rest (tr ++ [([b],[])]) (put fr d (.ptr b ver (off+n.toNat) 0)) h K) (hx:x.ev (lk fr)=.psl b ver off len:=by rfl) (hi:i.ev (lk fr)=.c (.int k n):=by rfl) (hb:h[b]?=some B:=by rfl) (hv:B.ver=ver∧B.esz=e:=by exact ⟨rfl,rfl⟩) (hn:0≤n∧n < len:=by omega):WOpsT P (⟨d,.idx e none x i,none⟩ :: rest) tr fr h K:=T.idx hx hi hb hv hn hK
theorem L.idxs {x i:AO} {e e':Nat} {n:Int} {k:IntKind} {rows:List (List V)} {row:List V} (hK:WOpsT P rest (tr ++ [([],[])]) (put fr d (.dp row 0)) h K) (hx:x.ev (lk fr)=.sl e' rows:=by rfl) (hi:i.ev (lk fr)=.c (.int k n):=by rfl) (he:e'=e:=by rfl) (hn:0≤n:=by omega) (hr:rows[n.toNat]?=some row:=by rfl):WOpsT P (⟨d,.idx e none x i,none⟩ :: rest) tr fr h K:=T.idxs hx hi he hn hr hK
theorem L.idxa {x i:AO} {e b ver r c len:Nat} {n:Int} {k:IntKind} {B:Blk} (hK:WOpsT P rest (tr ++ [([b],[])]) (put fr d (.ptr b ver r (c+n.toNat * e))) h K) (hx:x.ev (lk fr)=.ptr b ver r c:=by rfl) (hi:i.ev (lk fr)=.c (.int k n):=by rfl) (hb:h[b]?=some B:=by rfl) (hv:B.ver=ver:=by rfl) (hn:0≤n∧n < len:=by omega):WOpsT P (⟨d,.idx e (some len) x i,none⟩ :: rest) tr fr h K:=T.idxa hx hi hb hv hn hK
theorem L.idxd {x i:AO} {e c len:Nat} {n:Int} {k:IntKind} {row:List V} (hK:WOpsT P rest (tr ++ [([],[])]) (put fr d (.dp row (c+n.toNat * e))) h K) (hx:x.ev (lk fr)=.dp row c:=by rfl) (hi:i.ev (lk fr)=.c (.int k n):=by rfl) (hn:0≤n∧n < len:=by omega):WOpsT P (⟨d,.idx e (some len) x i,none⟩ :: rest) tr fr h K:=T.idxd hx hi hn hK
theorem L.fad {x:AO} {o b ver r k:Nat} {B:Blk} (hK:WOpsT P rest (tr ++ [([b],[])]) (put fr d (.ptr b ver r (k+o))) h K) (hx:x.ev (lk fr)=.ptr b ver r k:=by rfl) (hb:h[b]?=some B:=by rfl) (hv:B.ver=ver:=by rfl):WOpsT P (⟨d,.fad o x,none⟩ :: rest) tr fr h K:=T.fad hx hb hv hK
theorem L.fadd {x:AO} {o k:Nat} {row:List V} (hK:WOpsT P rest (tr ++ [([],[])]) (put fr d (.dp row (k+o))) h K) (hx:x.ev (lk fr)=.dp row k:=by rfl):WOpsT P (⟨d,.fad o x,none⟩ :: rest) tr fr h K:=T.fadd hx hK
theorem L.st {a y:AO} {n b ver r k:Nat} {B:Blk} {row cs:List V} (hK:WOpsT P rest (tr ++ [(b :: vlook (y.ev (lk fr)),[b])]) (put fr d .any) (h.set b { B with rows:=B.rows.set r (spl row k cs) }) K) (ha:a.ev (lk fr)=.ptr b ver r k:=by rfl) (hb:h[b]?=some B:=by rfl) (hc:vcells (fun b=>h[b]?) (y.ev (lk fr))=some cs:=by rfl) (hv:B.ver=ver∧cs.length=n:=by exact ⟨rfl,rfl⟩) (hr:B.rows[r]?=some row:=by rfl) (hk:k+n≤row.length:=by exact lb):WOpsT P (⟨d,.st n a y,none⟩ :: rest) tr fr h K:=T.st ha hb hc hv hr hk hK
theorem L.zero {cells:List Value} (hK:WOpsT P rest (tr ++ [([],[h.length])]) (put fr d (.ptr h.length 1 0 0)) (h ++ [⟨1,cells.length,[cells.map .c]⟩]) K) (hl:0 < cells.length:=by decide):WOpsT P (⟨d,.zero cells,none⟩ :: rest) tr fr h K:=T.zero hl hK
theorem L.build {z:List Value} {ps:List (Nat×Nat×AO)} {cs:List V} {R:List Nat} (hK:WOpsT P rest (tr ++ [(R,[])]) (put fr d (.agg cs)) h K) (hf:fillP (fun b=>h[b]?) (AO.ev (lk fr)) (z.map .c) ps=some (cs,R):=by rfl):WOpsT P (⟨d,.build z ps,none⟩ :: rest) tr fr h K:=T.build hf hK
theorem L.len {x:AO} {b ver off len:Nat} {B:Blk} (hK:WOpsT P rest (tr ++ [([b],[])]) (put fr d (I len)) h K) (hx:x.ev (lk fr)=.psl b ver off len:=by rfl) (hb:h[b]?=some B:=by rfl) (hv:B.ver=ver:=by rfl):WOpsT P (⟨d,.len x,none⟩ :: rest) tr fr h K:=T.len hx hb hv hK
theorem L.lenS {x:AO} {e:Nat} {rows:List (List V)} (hK:WOpsT P rest (tr ++ [([],[])]) (put fr d (I rows.length)) h K) (hx:x.ev (lk fr)=.sl e rows:=by rfl):WOpsT P (⟨d,.len x,none⟩ :: rest) tr fr h K:=T.lenS hx hK
theorem L.lenN {x:AO} (hK:WOpsT P rest (tr ++ [([],[])]) (put fr d (I 0)) h K) (hx:x.ev (lk fr)=.c (.slice none 0 0):=by rfl):WOpsT P (⟨d,.len x,none⟩ :: rest) tr fr h K:=T.lenN hx hK
theorem L.bsl {z:List Value} {n:Nat} {ps:List (Nat×AO)} {rows:List (List V)} {R:List Nat} (hK:WOpsT P rest (tr ++ [(R,[h.length])]) (put fr d (.psl h.length 1 0 n)) (h ++ [⟨1,z.length,rows⟩]) K) (hf:fillR (fun b=>h[b]?) (AO.ev (lk fr)) z.length (List.replicate n (z.map .c)) ps=some (rows,R):=by rfl) (hz:0 < z.length∧n * z.length≤2 ^ 24:=by decide):WOpsT P (⟨d,.bsl z n ps,none⟩ :: rest) tr fr h K:=T.bsl hf hz hK
theorem L.ext {x:AO} {i:Nat} {vs:List V} {v:V} (hK:WOpsT P rest (tr ++ [([],[])]) (put fr d v) h K) (hx:x.ev (lk fr)=.tup vs:=by rfl) (hi:vs[i]?=some v:=by rfl):WOpsT P (⟨d,.ext x i,none⟩ :: rest) tr fr h K:=T.ext hx hi hK
theorem L.nilc {x:AO} {b ver r k:Nat} {B:Blk} (hK:WOpsT P rest (tr ++ [([b],[])]) (put fr d (.ptr b ver r k)) h K) (hx:x.ev (lk fr)=.ptr b ver r k:=by rfl) (hb:h[b]?=some B:=by rfl) (hv:B.ver=ver:=by rfl):WOpsT P (⟨d,.nilc x,none⟩ :: rest) tr fr h K:=T.nilc hx hb hv hK
theorem L.nilcd {x:AO} {k:Nat} {row:List V} (hK:WOpsT P rest (tr ++ [([],[])]) (put fr d (.dp row k)) h K) (hx:x.ev (lk fr)=.dp row k:=by rfl):WOpsT P (⟨d,.nilc x,none⟩ :: rest) tr fr h K:=T.nilcd hx hK
theorem L.new {x:AO} {e:Nat} {cs:List V} (hK:WOpsT P rest (tr ++ [(vlook (x.ev (lk fr)),[h.length])]) (put fr d (.ptr h.length 1 0 0)) (h ++ [⟨1,e,[cs]⟩]) K) (hv:vcells (fun b=>h[b]?) (x.ev (lk fr))=some cs:=by rfl) (hl:cs.length=e∧0 < e:=by exact ⟨rfl,by decide⟩):WOpsT P (⟨d,.new e x,none⟩ :: rest) tr fr h K:=T.new hv hl hK
theorem L.goT {op:AOp} {g:Nat} {p:Prop} {i:Decidable p} (hK:WOpsT P (⟨d,op,none⟩ :: rest) tr fr h K) (hg:lk fr g=.c (.bool (decide p)):=by rfl) (hp:p:=by omega):WOpsT P (⟨d,op,some (g,true)⟩ :: rest) tr fr h K:=T.goT hg hp hK
theorem L.paT {op:AOp} {g:Nat} {p:Prop} {i:Decidable p} (hK:WOpsT P rest (tr ++ [([],[])]) (put fr d (.c undef)) h K) (hg:lk fr g=.c (.bool (decide p)):=by rfl) (hp:¬ p:=by omega):WOpsT P (⟨d,op,some (g,true)⟩ :: rest) tr fr h K:=T.paT hg hp hK
theorem L.goF {op:AOp} {g:Nat} {p:Prop} {i:Decidable p} (hK:WOpsT P (⟨d,op,none⟩ :: rest) tr fr h K) (hg:lk fr g=.c (.bool (decide p)):=by rfl) (hp:¬ p:=by omega):WOpsT P (⟨d,op,some (g,false)⟩ :: rest) tr fr h K:=T.goF hg hp hK
theorem L.paF {op:AOp} {g:Nat} {p:Prop} {i:Decidable p} (hK:WOpsT P rest (tr ++ [([],[])]) (put fr d (.c undef)) h K) (hg:lk fr g=.c (.bool (decide p)):=by rfl) (hp:p:=by omega):WOpsT P (⟨d,op,some (g,false)⟩ :: rest) tr fr h K:=T.paF hg hp hK
theorem L.go {op:AOp} {g:Nat} {want b:Bool} (hK:WOpsT P (⟨d,op,none⟩ :: rest) tr fr h K) (hg:lk fr g=.c (.bool b):=by rfl) (hb:b=want:=by rfl):WOpsT P (⟨d,op,some (g,want)⟩ :: rest) tr fr h K:=T.go hg hb hK
theorem L.pass {op:AOp} {g:Nat} {want b:Bool} (hK:WOpsT P rest (tr ++ [([],[])]) (put fr d (.c undef)) h K) (hg:lk fr g=.c (.bool b):=by rfl) (hb:b=!want:=by rfl):WOpsT P (⟨d,op,some (g,want)⟩ :: rest) tr fr h K:=T.pass hg hb hK
theorem L.pkT {c a b:AO} {p:Prop} {i:Decidable p} (hK:WOpsT P rest (tr ++ [([],[])]) (put fr d (a.ev (lk fr))) h K) (hc:c.ev (lk fr)=.c (.bool (decide p)):=by rfl) (hp:p:=by omega):WOpsT P (⟨d,.pick c a b,none⟩ :: rest) tr fr h K:=T.pkT hc hp hK
theorem L.pkF {c a b:AO} {p:Prop} {i:Decidable p} (hK:WOpsT P rest (tr ++ [([],[])]) (put fr d (b.ev (lk fr))) h K) (hc:c.ev (lk fr)=.c (.bool (decide p)):=by rfl) (hp:¬ p:=by omega):WOpsT P (⟨d,.pick c a b,none⟩ :: rest) tr fr h K:=T.pkF hc hp hK
theorem L.pickT {c a b:AO} {t:Bool} (hK:WOpsT P rest (tr ++ [([],[])]) (put fr d (a.ev (lk fr))) h K) (hc:c.ev (lk fr)=.c (.bool t):=by rfl) (ht:t=true:=by rfl):WOpsT P (⟨d,.pick c a b,none⟩ :: rest) tr fr h K:=T.pickT hc ht hK
theorem L.pickF {c a b:AO} {t:Bool} (hK:WOpsT P rest (tr ++ [([],[])]) (put fr d (b.ev (lk fr))) h K) (hc:c.ev (lk fr)=.c (.bool t):=by rfl) (ht:t=false:=by rfl):WOpsT P (⟨d,.pick c a b,none⟩ :: rest) tr fr h K:=T.pickF hc ht hK
theorem L.pickB {c a b:AO} {t u v:Bool} (hK:WOpsT P rest (tr ++ [([],[])]) (put fr d (.c (.bool (if t then u else v)))) h K) (hc:c.ev (lk fr)=.c (.bool t):=by rfl) (ha:a.ev (lk fr)=.c (.bool u):=by rfl) (hb:b.ev (lk fr)=.c (.bool v):=by rfl):WOpsT P (⟨d,.pick c a b,none⟩ :: rest) tr fr h K:=T.pickB hc ha hb hK
end
-- end of L rules
section
variable {P:Program} {rest:List AOper} {tr:Tr} {fr:Fr} {h:List Blk} {K:KT} {d:Option Nat}
theorem T.cP (perm:List Nat) {f:FuncId} {args:List AO} {us:List V} {r:V} {hin hout:List Blk} (he:enters P f=true) (hF:FnE P f us hin r hout)
  (hK:WOpsT P rest (tr ++ [(perm,perm ++ upto h.length (hout.drop perm.length).length)]) (put fr d (ren (perm ++ upto h.length (hout.drop perm.length).length) r)) (setAll h perm ((hout.take perm.length).map (renB (perm ++ upto h.length (hout.drop perm.length).length))) ++ (hout.drop perm.length).map (renB (perm ++ upto h.length (hout.drop perm.length).length))) K)
  (hv:(args.map (AO.ev (lk fr))).map (pas perm)=us:=by rfl)
  (hH:pasH h perm=hin:=by first|rfl|exact pasH_nil|(unfold pasH; simp only [List.map]; (repeat' (first|rfl|exact pasB_bytes|exact pasB_ints|exact pasB_flat|refine consE ?_ ?_)); done)|(simp [pasH,pasB,cells_pas,bcells_pas]; done))
  (hp:permOk h.length perm=true:=by rfl) (hl:(hout.length == perm.length+(hout.drop perm.length).length)=true:=by rfl) (hver:((hout.drop perm.length).all fun k=>Nat.blt 0 k.ver)=true:=by rfl) :
  WOpsT P (⟨d,.call f args,none⟩ :: rest) tr fr h K:=T.callP perm he rfl (by rw [hv]; exact hF) hH hp hl hver hK
theorem T.eqpP {ne:Bool} {x:AO} {b ver r k:Nat} {B:Blk} (hx:x.ev (lk fr)=.ptr b ver r k) (hb:h[b]?=some B) (hv:B.ver=ver)
  (hK:WOpsT P rest (tr ++ [([b],[])]) (put fr d (.c (.bool ne))) h K):WOpsT P (⟨d,.eqp ne x,none⟩ :: rest) tr fr h K :=
 T.pure nofun nofun (by simp only [stepA,hx,hb]; rw [if_pos hv]) hK
theorem T.eqpN {ne:Bool} {x:AO} (hx:x.ev (lk fr)=.c (.pointer none))
  (hK:WOpsT P rest (tr ++ [([],[])]) (put fr d (.c (.bool (!ne)))) h K):WOpsT P (⟨d,.eqp ne x,none⟩ :: rest) tr fr h K :=
 T.pure nofun nofun (by simp only [stepA,hx]) hK
theorem T.appz {z:List Value} {bytes:Nat} {s x:AO} {k:IntKind} {m:Int} (hs:s.ev (lk fr)=.c (.slice none 0 0)) (hx:x.ev (lk fr)=.c (.int k m)) (hz:0 < z.length∧0 < bytes∧0 < m∧bytes * (m.toNat+m.toNat / 4+1024)≤2 ^ 48)
  (hK:WOpsT P rest (tr ++ [([],[h.length])]) (put fr d (.psl h.length 1 0 m.toNat)) (h ++ [⟨1,z.length,List.replicate m.toNat (z.map .c)⟩]) K):WOpsT P (⟨d,.appz z bytes s x,none⟩ :: rest) tr fr h K :=
 T.make nofun nofun (by simp only [stepA,hs,hx,ofInt]; rw [if_pos hz]) hK
end
section
variable {P:Program} {rest:List AOper} {tr:Tr} {fr:Fr} {h:List Blk} {K:KT} {d:Option Nat}
theorem rI {x i:AO} {e e':Nat} {n:Int} {k:IntKind} {rows:List (List V)} {row:List V} (hr:rows[n.toNat]?=some row) (hK:WOpsT P rest (tr ++ [([],[])]) (put fr d (.dp row 0)) h K) (hx:x.ev (lk fr)=.sl e' rows:=by rfl) (hi:i.ev (lk fr)=.c (.int k n):=by rfl) (he:e'=e:=by rfl) (hn:0≤n:=by omega):WOpsT P (⟨d,.idx e none x i,none⟩ :: rest) tr fr h K:=T.idxs hx hi he hn hr hK
theorem rL {a:AO} {n b ver r k:Nat} {B:Blk} {rows:List (List V)} {row:List V} (hr:rows[r]?=some row) (hK:WOpsT P rest (tr ++ [([b],[])]) (put fr d (.agg ((row.drop k).take n))) h K) (ha:a.ev (lk fr)=.ptr b ver r k:=by rfl) (hb:h[b]?=some B:=by rfl) (hv:B.ver=ver:=by rfl) (hw:B.rows=rows:=by rfl) (hk:k+n≤row.length:=by exact lb):WOpsT P (⟨d,.ld (some n) a,none⟩ :: rest) tr fr h K:=T.ldn ha hb hv (by rw [hw]; exact hr) hk hK
theorem rS {a y:AO} {n b ver r k:Nat} {B:Blk} {rows:List (List V)} {row cs:List V} (hr:rows[r]?=some row) (hK:WOpsT P rest (tr ++ [(b :: vlook (y.ev (lk fr)),[b])]) (put fr d .any) (h.set b { B with rows:=B.rows.set r (spl row k cs) }) K) (ha:a.ev (lk fr)=.ptr b ver r k:=by rfl) (hb:h[b]?=some B:=by rfl) (hw:B.rows=rows:=by rfl) (hc:vcells (fun b=>h[b]?) (y.ev (lk fr))=some cs:=by rfl) (hv:B.ver=ver∧cs.length=n:=by exact ⟨rfl,rfl⟩) (hk:k+n≤row.length:=by exact lb):WOpsT P (⟨d,.st n a y,none⟩ :: rest) tr fr h K:=T.st ha hb hc hv (by rw [hw]; exact hr) hk hK
end
section
variable {k:Nat} {fr fr':Fr} {h h':List Blk}
theorem Weaks.G (ids:List Nat) (m:Nat) (hids:gcOk k h.length ids=true:=by rfl) (hb:selO h ids m fr fr':=by repeat (first|exact trivial|refine ⟨.rfl,?_⟩|refine ⟨.any,?_⟩)) (hh:h'=outH h ids m:=by first|rfl|(symm; unfold outH; simp only [List.map]; (repeat' (first|rfl|exact outB_bytes|exact outB_ints|exact outB_flat|refine consE ?_ ?_)); done)):Weaks k fr h fr' h':=Weaks.gc ids m hids hb hh
theorem sE {ids:List Nat} {m:Nat} (p:selO h ids m fr fr':=by repeat (first|exact trivial|refine ⟨.rfl,?_⟩|refine ⟨.any,?_⟩)):selO h ids m fr fr':=p
theorem sB (p:selB fr fr':=by repeat (first|exact trivial|refine ⟨.rfl,?_⟩|refine ⟨.any,?_⟩)):selB fr fr':=p
theorem oO {ids:List Nat} {m:Nat} (p:h'=outH h ids m:=by first|rfl|(symm; unfold outH; simp only [List.map]; (repeat' (first|rfl|exact outB_bytes|exact outB_ints|exact outB_flat|refine consE ?_ ?_)); done)):h'=outH h ids m:=p
theorem pA {perm:List Nat} {hin:List Blk} (p:pasH h perm=hin:=by first|rfl|exact pasH_nil|(unfold pasH; simp only [List.map]; (repeat' (first|rfl|exact pasB_bytes|exact pasB_ints|exact pasB_flat|refine consE ?_ ?_)); done)|simp [pasH,pasB,cells_pas,bcells_pas]):pasH h perm=hin:=p
theorem rN {X:Prop} (p:X:=by first|rfl|((repeat' (first|rfl|exact renB_bytes|exact renB_ints|exact renB_flat|refine consE ?_ ?_)); done)|simp [renB,cells_ren,bcells_ren]):X:=p
end
end Go.Proofs.Ytdbbnlafkndcnaa.Calc
namespace Go.Proofs.Ytdbbnlafkndcnaa.Calc
open Go
abbrev m' (i j:Nat):AOper:=⟨some i,.mv (.t j),none⟩
abbrev o' (i:Nat) (x:AOp):AOper:=⟨some i,x,none⟩
abbrev n' (x:AOp):AOper:=⟨none,x,none⟩
abbrev i' (n:Int):AO:=.k (.int .i64 n)
abbrev gT' (i j:Nat) (x:AOp):AOper:=⟨some i,x,some (j,true)⟩
abbrev gF' (i j:Nat) (x:AOp):AOper:=⟨some i,x,some (j,false)⟩
abbrev aB' (i:Nat) (op:BinOp) (x y:AO):AOper:=⟨some i,.bin op x y,none⟩
abbrev aF' (i n j:Nat):AOper:=⟨some i,.fad n (.t j),none⟩
abbrev aL' (i j:Nat):AOper:=⟨some i,.ld none (.t j),none⟩
abbrev aM' (i n j:Nat):AOper:=⟨some i,.ld (some n) (.t j),none⟩
abbrev aX' (i e j k:Nat):AOper:=⟨some i,.idx e none (.t j) (.t k),none⟩
abbrev aE' (i j n:Nat):AOper:=⟨some i,.ext (.t j) n,none⟩
abbrev aC' (i f:Nat) (l:List AO):AOper:=⟨some i,.call f l,none⟩
abbrev aS' (n j k:Nat):AOper:=⟨none,.st n (.t j) (.t k),none⟩
abbrev aN' (i j:Nat):AOper:=⟨some i,.nilc (.t j),none⟩
abbrev aV' (i:Nat) (n:Int):AOper:=⟨some i,.mv (.k (.int .i64 n)),none⟩
abbrev aT' (i j:Nat):AOper:=⟨some i,.len (.t j),none⟩
abbrev aG' (i g j:Nat):AOper:=⟨some i,.mv (.t j),some (g,true)⟩
abbrev kF':AO:=.k (.bool false)
abbrev kT':AO:=.k (.bool true)
abbrev zLB:List Value:=[.string ⟨#[]⟩,.string ⟨#[]⟩,.slice none 0 0,.slice none 0 0,.slice none 0 0,.slice none 0 0,.slice none 0 0,.slice none 0 0]
abbrev zLM:List Value:=[.int .i64 0,.int .i64 0,.int .i64 0,.int .i64 0,.int .i64 0,.int .i64 0,.int .i64 0,.int .i64 0,.int .i64 0,.int .i64 0,.int .i64 0,.int .i64 0,.bool false,.slice none 0 0,.int .i64 0,.int .i64 0,.int .i64 0]
abbrev zLN:List Value:=[.string ⟨#[]⟩,.string ⟨#[]⟩,.slice none 0 0,.slice none 0 0,.slice none 0 0,.slice none 0 0,.slice none 0 0,.slice none 0 0,.int .i64 0,.int .i64 0,.int .i64 0,.int .i64 0,.int .i64 0,.int .i64 0,.int .i64 0,.int .i64 0,.int .i64 0,.int .i64 0,.int .i64 0,.int .i64 0,.bool false,.slice none 0 0,.int .i64 0,.int .i64 0,.int .i64 0,.slice none 0 0]
def bfr:List Nat→List Nat
 | i :: j :: l=>List.range' i (j - i) ++ bfr l
 | _=>[]
def bf (l:List (List Nat)):List (List Nat):=l.map bfr
def lvA:AC→List (List Nat)
 | .reg _ l=>[l]
 | .dreg _ _ l=>[l]
 | .seq a b=>lvA a ++ lvA b
 | .cond _ a b=>lvA a ++ lvA b
 | .block _ a=>lvA a
 | .loop a=>lvA a
 | _=>[]
def lvs (c:AC):List (Nat×List Nat):=(lvA c).zipIdx.map fun p=>(p.2,p.1)
abbrev kS (P:Program) (f:Func) (v:List (Nat×List Nat)):Option AC:=f.body.bind (compC P f.ntmps v)
abbrev qS (P:Program) (f:Func):Option (List AR):=f.results.toList.mapM (compRes P)
abbrev KQ (P:Program) (f:Func) (c:AC) (r:List AR):Prop:=kS P f (lvs c)=some c∧qS P f=some r
abbrev zLC:List Value:=[.string ⟨#[]⟩,.int .i64 0,.int .i64 0,.int .i64 0,.slice none 0 0]
abbrev zLI:List Value:=[.int .i64 0]
abbrev WC (P:Program) (f:FuncId) (as:List AO) (d:Option Nat) (rest:List AOper) (tr:Tr) (fr:Fr) (h:List Blk) (K:KT):Prop:=WOpsT P (⟨d,.call f as,none⟩ :: rest) tr fr h K
theorem N.fnC {P:Program} {f:FuncId} {fn:Func} {ac:AC} {vars:List (Nat×List Nat)} {ars:List AR} {args:List V} {h0:List Blk} {r:V} {h':List Blk} (hf:P.funcs[f]?=some fn) (hk:kS P fn vars=some ac∧qS P fn=some ars)
  (hA:∀ Q:Exit→Fr→List Blk→Prop,(∀ fr h x,resV ars fr h=some x→WeakS h0.length x h r h'→Q .ret fr h)→(∀ fr h x,resV ars fr h=some x→WeakS h0.length x h r h'→Q .normal fr h)→AK P h0.length ac [] Q (enter 0 args) h0) (hn:args.length≤fn.ntmps:=by exact lb):FnE P f args h0 r h':=N.fn hf hk.1 hn hk.2 hA
theorem go1 {G A B:Prop} (a:A) (b:B) (h:((Unit→A)→(Unit→B)→G)∧B=B:=by
  refine ⟨fun hA hB=>?_,?_⟩
  ·first|refine N.regS fun Kn hKn=>?_|refine N.dregS fun Kn hKn=>?_|refine N.regN fun Kn hKn=>?_|refine N.dregN fun Kn hKn=>?_|simp only [T.mv,sm,AO.ev,put,lk,enter,reduceIte,Nat.reduceEqDiff,Nat.reduceAdd,Nat.reduceMul,Nat.reduceSub,Int.reduceNeg,Int.reduceToNat,upto,renB,setAll]|(refine T.nil ?_; (first|refine hK _ _ _ (by rfl) ?_|refine hK _ _ _ ?_); (try simp only [keep,List.map,lk,reduceIte,Nat.reduceEqDiff,enter]))|(show WOpsT _ (⟨_,.ld _ _,none⟩ :: _) _ _ _ _; first|refine L.ld ?_|refine L.ldd ?_|refine L.ldn ?_|refine L.lddn ?_)|(show WOpsT _ (⟨_,.idx _ _ _ _,none⟩ :: _) _ _ _ _; first|refine L.idx ?_|refine L.idxs ?_|refine L.idxa ?_|refine L.idxd ?_)|(show WOpsT _ (⟨_,.bin _ _ _,none⟩ :: _) _ _ _ _; first|refine L.add ?_|refine L.sub ?_|refine T.mul rfl rfl (by omega) (by omega) ?_|refine T.rem rfl rfl (by omega) ?_|refine T.quo rfl rfl (by omega) ?_|refine T.shl rfl rfl (by omega) ?_|refine T.shr rfl rfl (by omega) ?_|refine L.bin ?_)|(show WOpsT _ (⟨_,_,some (_,true)⟩ :: _) _ _ _ _; first|refine L.goT ?_|refine L.paT ?_|refine L.go ?_|refine L.pass ?_|refine T.pU rfl ?_|refine T.gT rfl (fun hcn=>?_) (fun hcn=>?_))|(show WOpsT _ (⟨_,_,some (_,false)⟩ :: _) _ _ _ _; first|refine L.goF ?_|refine L.paF ?_|refine L.go ?_|refine L.pass ?_|refine T.pU rfl ?_|refine T.gF rfl (fun hcn=>?_) (fun hcn=>?_))|(show WOpsT _ (⟨_,.pick _ _ _,none⟩ :: _) _ _ _ _; first|refine L.pkT ?_|refine L.pkF ?_|refine L.pickT ?_|refine L.pickF ?_|refine L.pickB ?_|refine T.pkD rfl (fun hcn=>?_) (fun hcn=>?_))|(show AKW _ _ _ _ _ _ _; first|refine N.now ?_)|(show UK _ _ _ _ _ _ _ _; first|refine N.round ?_)|(show UC _ _ _ _ _ _ _ _; first|refine N.ucN ?_)|(show AK _ _ (.cond _ _ _) _ _ _ _; first|refine N.c1 ?_|refine N.c2 ?_|refine N.c3 ?_|refine N.c4 ?_|refine N.condD rfl (fun hcn=>?_) (fun hcn=>?_)|refine N.condB rfl (fun hcn=>?_) (fun hcn=>?_)|refine N.condU rfl ?_ ?_)|(show AK _ _ _ _ _ _ _; first|refine N.seq ?_|refine N.block ?_|refine N.skip ?_|refine N.exit ?_|refine N.ret ?_)|(show RK _ _ _ _ _ _ _; first|refine N.cuN ?_|refine N.cuE rfl ?_|refine N.cuX (by decide) ?_|refine N.cuR ?_|simp only [rk,rk0,reduceIte,Nat.reduceEqDiff])|(show WOpsT _ _ _ _ _ _; first|refine T.min2 rfl rfl rfl ?_|refine T.max2 rfl rfl rfl ?_|refine L.ext ?_|refine T.lenc ?_|refine T.eqpP rfl rfl rfl ?_|refine T.eqpN rfl ?_|refine T.eqnP rfl rfl ⟨rfl,by decide⟩ ?_|refine T.eqnN rfl ?_|refine T.eqnU rfl ?_|refine T.lens rfl ?_|refine T.i2s rfl ?_|refine T.s2b rfl ?_|refine T.slcs rfl rfl rfl (by omega) ?_|refine T.capN rfl ?_|refine T.slcN rfl rfl rfl ?_|refine T.neg rfl ?_|refine T.xorn rfl ?_|refine T.notD rfl ?_|refine T.not rfl ?_|refine T.eqb0 rfl rfl ?_|refine T.eqb1 rfl rfl ?_|refine T.cvt rfl ?_|refine L.fad ?_|refine L.fadd ?_|refine L.nilc ?_|refine L.nilcd ?_|refine T.nilcf rfl ?_|refine T.nilci rfl ?_|refine L.st ?_|refine T.fld rfl rfl ?_|refine L.new ?_|refine L.zero ?_|refine L.build ?_|refine L.len ?_|refine L.lenS ?_|refine L.lenN ?_|refine T.mkf ?_|refine T.mki ?_|refine T.mksl rfl rfl (by decide) ?_|refine T.copy rfl rfl rfl ⟨rfl,rfl⟩ ?_|refine T.ixa rfl rfl (by omega) rfl ?_|refine L.bsl ?_|refine T.slc rfl rfl rfl rfl ⟨rfl,rfl⟩ (by omega) ?_|refine T.slcS rfl rfl rfl rfl (by omega) ?_)|refine hQ _ _ _ rfl ?_|refine hQN _ _ _ rfl ?_
   all_goals ((try revert hcn); (try (revert hKn; revert Kn)); first|exact hA ()|exact hB ())
  ·first|exact (rfl:True=True)|exact rfl):G:=h.1 (fun _=>a) (fun _=>b)
theorem goW {G A B:Prop} (a:A) (b:B) (h:((Unit→A)→(Unit→B)→G)∧B=B:=by
  refine ⟨fun hA hB=>?_,?_⟩
  ·first|refine N.regS fun Kn hKn=>?_|refine N.dregS fun Kn hKn=>?_|refine N.regN fun Kn hKn=>?_|refine N.dregN fun Kn hKn=>?_|simp only [T.mv,sm,AO.ev,put,lk,enter,reduceIte,Nat.reduceEqDiff,Nat.reduceAdd,Nat.reduceMul,Nat.reduceSub,Int.reduceNeg,Int.reduceToNat,upto,renB,setAll]|(refine T.nil ?_; (first|refine hK _ _ _ (by rfl) ?_|refine hK _ _ _ ?_); (try simp only [keep,List.map,lk,reduceIte,Nat.reduceEqDiff,enter]))|(show WOpsT _ (⟨_,.ld _ _,none⟩ :: _) _ _ _ _; first|refine L.ld ?_|refine L.ldd ?_|refine L.ldn ?_|refine L.lddn ?_)|(show WOpsT _ (⟨_,.idx _ _ _ _,none⟩ :: _) _ _ _ _; first|refine L.idx ?_|refine L.idxs ?_|refine L.idxa ?_|refine L.idxd ?_)|(show WOpsT _ (⟨_,.bin _ _ _,none⟩ :: _) _ _ _ _; first|refine L.add ?_|refine L.sub ?_|refine T.mul rfl rfl (by omega) (by omega) ?_|refine T.rem rfl rfl (by omega) ?_|refine T.quo rfl rfl (by omega) ?_|refine T.shl rfl rfl (by omega) ?_|refine T.shr rfl rfl (by omega) ?_|refine L.bin ?_)|(show WOpsT _ (⟨_,_,some (_,true)⟩ :: _) _ _ _ _; first|refine L.goT ?_|refine L.paT ?_|refine L.go ?_|refine L.pass ?_|refine T.pU rfl ?_|refine T.gT rfl (fun hcn=>?_) (fun hcn=>?_))|(show WOpsT _ (⟨_,_,some (_,false)⟩ :: _) _ _ _ _; first|refine L.goF ?_|refine L.paF ?_|refine L.go ?_|refine L.pass ?_|refine T.pU rfl ?_|refine T.gF rfl (fun hcn=>?_) (fun hcn=>?_))|(show WOpsT _ (⟨_,.pick _ _ _,none⟩ :: _) _ _ _ _; first|refine L.pkT ?_|refine L.pkF ?_|refine L.pickT ?_|refine L.pickF ?_|refine L.pickB ?_|refine T.pkD rfl (fun hcn=>?_) (fun hcn=>?_))|(show UK _ _ _ _ _ _ _ _; first|refine N.round ?_)|(show UC _ _ _ _ _ _ _ _; first|refine N.ucN ?_)|(show AK _ _ (.cond _ _ _) _ _ _ _; first|refine N.c1 ?_|refine N.c2 ?_|refine N.c3 ?_|refine N.c4 ?_|refine N.condD rfl (fun hcn=>?_) (fun hcn=>?_)|refine N.condB rfl (fun hcn=>?_) (fun hcn=>?_)|refine N.condU rfl ?_ ?_)|(show AK _ _ _ _ _ _ _; first|refine N.seq ?_|refine N.block ?_|refine N.skip ?_|refine N.exit ?_|refine N.ret ?_)|(show RK _ _ _ _ _ _ _; first|refine N.cuN ?_|refine N.cuE rfl ?_|refine N.cuX (by decide) ?_|refine N.cuR ?_|simp only [rk,rk0,reduceIte,Nat.reduceEqDiff])|(show WOpsT _ _ _ _ _ _; first|refine T.min2 rfl rfl rfl ?_|refine T.max2 rfl rfl rfl ?_|refine L.ext ?_|refine T.lenc ?_|refine T.eqpP rfl rfl rfl ?_|refine T.eqpN rfl ?_|refine T.eqnP rfl rfl ⟨rfl,by decide⟩ ?_|refine T.eqnN rfl ?_|refine T.eqnU rfl ?_|refine T.lens rfl ?_|refine T.i2s rfl ?_|refine T.s2b rfl ?_|refine T.slcs rfl rfl rfl (by omega) ?_|refine T.capN rfl ?_|refine T.slcN rfl rfl rfl ?_|refine T.neg rfl ?_|refine T.xorn rfl ?_|refine T.notD rfl ?_|refine T.not rfl ?_|refine T.eqb0 rfl rfl ?_|refine T.eqb1 rfl rfl ?_|refine T.cvt rfl ?_|refine L.fad ?_|refine L.fadd ?_|refine L.nilc ?_|refine L.nilcd ?_|refine T.nilcf rfl ?_|refine T.nilci rfl ?_|refine L.st ?_|refine T.fld rfl rfl ?_|refine L.new ?_|refine L.zero ?_|refine L.build ?_|refine L.len ?_|refine L.lenS ?_|refine L.lenN ?_|refine T.mkf ?_|refine T.mki ?_|refine T.mksl rfl rfl (by decide) ?_|refine T.copy rfl rfl rfl ⟨rfl,rfl⟩ ?_|refine T.ixa rfl rfl (by omega) rfl ?_|refine L.bsl ?_|refine T.slc rfl rfl rfl rfl ⟨rfl,rfl⟩ (by omega) ?_|refine T.slcS rfl rfl rfl rfl (by omega) ?_)|refine hQ _ _ _ rfl ?_|refine hQN _ _ _ rfl ?_
   all_goals ((try revert hcn); (try (revert hKn; revert Kn)); first|exact hA ()|exact hB ())
  ·first|exact (rfl:True=True)|exact rfl):G:=h.1 (fun _=>a) (fun _=>b)
theorem goB {G A B:Prop} (a:A) (b:B) (h:((Unit→A)→(Unit→B)→G)∧B=B:=by
  refine ⟨fun hA hB=>?_,?_⟩
  ·first|refine N.regS fun Kn hKn=>?_|refine N.dregS fun Kn hKn=>?_|refine N.regN fun Kn hKn=>?_|refine N.dregN fun Kn hKn=>?_|simp only [T.mv,sm,AO.ev,put,lk,enter,reduceIte,Nat.reduceEqDiff,Nat.reduceAdd,Nat.reduceMul,Nat.reduceSub,Int.reduceNeg,Int.reduceToNat,upto,renB,setAll]|(refine T.nil ?_; (first|refine hK _ _ _ (by rfl) ?_|refine hK _ _ _ ?_); (try simp only [keep,List.map,lk,reduceIte,Nat.reduceEqDiff,enter]))|(show WOpsT _ (⟨_,.ld _ _,none⟩ :: _) _ _ _ _; first|refine L.ld ?_|refine L.ldd ?_|refine L.ldn ?_|refine L.lddn ?_)|(show WOpsT _ (⟨_,.idx _ _ _ _,none⟩ :: _) _ _ _ _; first|refine L.idx ?_|refine L.idxs ?_|refine L.idxa ?_|refine L.idxd ?_)|(show WOpsT _ (⟨_,.bin _ _ _,none⟩ :: _) _ _ _ _; first|refine L.add ?_|refine L.sub ?_|refine T.mul rfl rfl (by omega) (by omega) ?_|refine T.rem rfl rfl (by omega) ?_|refine T.quo rfl rfl (by omega) ?_|refine T.shl rfl rfl (by omega) ?_|refine T.shr rfl rfl (by omega) ?_|refine L.bin ?_)|(show WOpsT _ (⟨_,_,some (_,true)⟩ :: _) _ _ _ _; first|refine L.goT ?_|refine L.paT ?_|refine L.go ?_|refine L.pass ?_|refine T.pU rfl ?_|refine T.gT rfl (fun hcn=>?_) (fun hcn=>?_))|(show WOpsT _ (⟨_,_,some (_,false)⟩ :: _) _ _ _ _; first|refine L.goF ?_|refine L.paF ?_|refine L.go ?_|refine L.pass ?_|refine T.pU rfl ?_|refine T.gF rfl (fun hcn=>?_) (fun hcn=>?_))|(show WOpsT _ (⟨_,.pick _ _ _,none⟩ :: _) _ _ _ _; first|refine L.pkT ?_|refine L.pkF ?_|refine L.pickT ?_|refine L.pickF ?_|refine L.pickB ?_|refine T.pkD rfl (fun hcn=>?_) (fun hcn=>?_))|(show AKW _ _ _ _ _ _ _; first|refine N.now ?_)|(show UK _ _ _ _ _ _ _ _; first|refine N.round ?_)|(show UC _ _ _ _ _ _ _ _; first|refine N.ucN ?_)|(show AK _ _ (.cond _ _ _) _ _ _ _; first|refine N.c1 ?_|refine N.c2 ?_|refine N.c3 ?_|refine N.c4 ?_|refine N.condD rfl (fun hcn=>?_) (fun hcn=>?_)|refine N.condB rfl (fun hcn=>?_) (fun hcn=>?_)|refine N.condU rfl ?_ ?_)|(show AK _ _ _ _ _ _ _; first|refine N.seq ?_|refine N.skip ?_|refine N.exit ?_|refine N.ret ?_)|(show RK _ _ _ _ _ _ _; first|refine N.cuN ?_|refine N.cuE rfl ?_|refine N.cuX (by decide) ?_|refine N.cuR ?_|simp only [rk,rk0,reduceIte,Nat.reduceEqDiff])|(show WOpsT _ _ _ _ _ _; first|refine T.min2 rfl rfl rfl ?_|refine T.max2 rfl rfl rfl ?_|refine L.ext ?_|refine T.lenc ?_|refine T.eqpP rfl rfl rfl ?_|refine T.eqpN rfl ?_|refine T.eqnP rfl rfl ⟨rfl,by decide⟩ ?_|refine T.eqnN rfl ?_|refine T.eqnU rfl ?_|refine T.lens rfl ?_|refine T.i2s rfl ?_|refine T.s2b rfl ?_|refine T.slcs rfl rfl rfl (by omega) ?_|refine T.capN rfl ?_|refine T.slcN rfl rfl rfl ?_|refine T.neg rfl ?_|refine T.xorn rfl ?_|refine T.notD rfl ?_|refine T.not rfl ?_|refine T.eqb0 rfl rfl ?_|refine T.eqb1 rfl rfl ?_|refine T.cvt rfl ?_|refine L.fad ?_|refine L.fadd ?_|refine L.nilc ?_|refine L.nilcd ?_|refine T.nilcf rfl ?_|refine T.nilci rfl ?_|refine L.st ?_|refine T.fld rfl rfl ?_|refine L.new ?_|refine L.zero ?_|refine L.build ?_|refine L.len ?_|refine L.lenS ?_|refine L.lenN ?_|refine T.mkf ?_|refine T.mki ?_|refine T.mksl rfl rfl (by decide) ?_|refine T.copy rfl rfl rfl ⟨rfl,rfl⟩ ?_|refine T.ixa rfl rfl (by omega) rfl ?_|refine L.bsl ?_|refine T.slc rfl rfl rfl rfl ⟨rfl,rfl⟩ (by omega) ?_|refine T.slcS rfl rfl rfl rfl (by omega) ?_)|refine hQ _ _ _ rfl ?_|refine hQN _ _ _ rfl ?_
   all_goals ((try revert hcn); (try (revert hKn; revert Kn)); first|exact hA ()|exact hB ())
  ·first|exact (rfl:True=True)|exact rfl):G:=h.1 (fun _=>a) (fun _=>b)
end Go.Proofs.Ytdbbnlafkndcnaa.Calc
namespace Go.Proofs.Ytdbbnlafkndcnaa.Calc
open Go
open Go.ChangeShapes Go.WideShapes
def Rels (w:World):List Value→List V→Prop
 | [],[]=>True
 | v :: vs,y :: ys=>Rel w (fun _=>False) [] v y∧Rels w vs ys
 | _,_=>False
theorem Rels.get {w:World}:∀ {vs:List Value} {ys:List V},Rels w vs ys→vs.length=ys.length∧∀ (i:Nat) (v:Value) (y:V),vs[i]?=some v→ys[i]?=some y→Rel w (fun _=>False) [] v y:=by
 intro vs
 induction vs with
 | nil=>intro ys h; cases ys with
  | nil=>exact ⟨rfl,fun i v y h=>by simp at h⟩
  | cons _ _=>exact h.elim
 | cons v vs ih =>
  intro ys h
  cases ys with
  | nil=>exact h.elim
  | cons y ys =>
   obtain ⟨h1,h2⟩:=h
   obtain ⟨g1,g2⟩:=ih h2
   refine ⟨by simp [g1],fun i u z hu hz=>?_⟩
   cases i with
   | zero=>simp at hu hz; subst hu; subst hz; exact h1
   | succ i=>exact g2 i u z (by simpa using hu) (by simpa using hz)
theorem FnE.callsR {P:Program} {f:FuncId} {args:List V} {r:Value} (h:FnE P f args [] (.c r) []) (w:World) (vs:List Value) (hr:Rels w vs args):Calls P f vs.toArray w fun e w'=>e=.returned r∧RowKit.Below w.heap.size w w':=by
 obtain ⟨h1,h2⟩:=hr.get
 refine (h.calls w vs.toArray (by simpa using h1) (fun i v y hv hy=>h2 i v y (by simpa using hv) hy)).mono ?_
 rintro e w' ⟨v,ι',rfl,hr,hb⟩
 exact ⟨by rw [hr.c_eq],hb⟩
theorem ints_rel {H:Type} {enc:TypeId×Value→H} {P:Program} {W:World} {base:Nat} {spare:Nat→Bool} {held:Bool} {t e:TypeId} {k:IntKind} {a:Option Addr} {len cap:Nat} {d:DataW H} {ps:List MemPlace} {ts:List TypeId} {ds:List (DataW H)} {j:Nat}
  (hsz:(DataW.weightsEach P ts ds).all (·≤reachBytes)=true) (ht:ts[j]?=some t) (hd:ds[j]?=some d) (hu:P.underlying t=some (.slice e)) (he:P.underlying e=some (.int k)) (hc:P.cellsOf e=1) {B:Nat} (hB:P.bytesOf e=B)
  (h:DataW.Trod enc P W base spare held t (.slice a len cap) d ps) :
  ∃ l:List Int,Rel W (fun _=>False) [] (.slice a len cap) (.sl 1 (l.map fun n=>[.c (.int k n)]))∧l.length * B≤140737488351232∧∀ n ∈ l,(Lit.int k n).wf=true:=by
 obtain ⟨fuel,hf⟩:=h
 rcases open_ints hu he hc hf with ⟨hcs,_⟩|⟨x,l,c,zs,hcs,_,hl,_,hz,hx,hcell,hwf⟩
 ·simp [Value.cells] at hcs
  obtain ⟨rfl,rfl,rfl⟩:=hcs
  exact ⟨[],.slnil,by simp,by simp⟩
 ·simp [Value.cells] at hcs
  obtain ⟨rfl,rfl,rfl⟩:=hcs
  obtain ⟨hx,_⟩:=Prod.mk.inj hx
  subst hx
  have z:=sized_slice hsz ht hd hu
  rw [hB] at z
  have hl2:len≤zs.length:=by
   rw [hz]
   split
   ·exact hl
   ·exact Nat.le_refl _
  have h1:(lits (H:=H) k (zs.take len)).length+(lits (H:=H) k (zs.drop len)).length=zs.length:=by
   simp [lits]
   omega
  rw [h1] at z
  have hspot:0 < zs.length→x.spot=none:=by
   intro hi
   have:=hcell 0 hi
   rw [show x.add 0=x by simp [Addr.add]] at this
   unfold World.cell? at this
   cases hs:x.spot with
   | none=>rfl
   | some s =>
    rw [hs] at this
    split at this
    ·simp at this
    ·cases this
  have key:∀ (i jj:Nat) (y:V),cellOf ((zs.take len).map fun n=>[V.c (.int k n)]) i jj=some y→i < len∧jj=0∧y=.c (.int k (zs.getD i 0)):=by
   intro i jj y hy
   unfold cellOf at hy
   rw [List.getElem?_map] at hy
   cases hi:(zs.take len)[i]? with
   | none=>rw [hi] at hy; simp at hy
   | some n =>
    rw [hi] at hy
    rw [List.getElem?_take] at hi
    split at hi
    ·rename_i hlt
     simp only [Option.map_some,Option.bind_some] at hy
     cases jj with
     | zero =>
      simp at hy
      refine ⟨hlt,rfl,?_⟩
      rw [List.getD_eq_getElem?_getD,hi,← hy]; rfl
     | succ jj=>simp at hy
    ·cases hi
  refine ⟨zs.take len,.sl (fun i _=>.int k (zs.getD i 0)) (by simp; omega) hl (fun h0=>hspot (by omega)) (fun row hr=>by obtain ⟨n,_,rfl⟩:=List.mem_map.1 hr; rfl) (fun i jj y hy=>?_) (fun i jj y hy=>?_),?_,fun n hn=>hwf n (List.mem_of_mem_take hn)⟩
  ·obtain ⟨hlt,rfl,rfl⟩:=key i jj y hy
   refine ⟨fun h=>h,?_,rfl⟩
   have:=hcell i (by omega)
   have hs:=hspot (by omega)
   obtain ⟨blk,off,spot⟩:=x
   dsimp only at hs; subst hs
   have e:(⟨blk,off,none⟩:Addr).add i=⟨blk,off+i * 1+0,none⟩:=by
    unfold Addr.add
    split
    ·rename_i h0; subst h0; simp
    ·simp
   rw [e] at this
   exact this
  ·obtain ⟨hlt,rfl,rfl⟩:=key i jj y hy
   exact .c
  ·rw [List.length_take]
   exact Nat.le_trans (Nat.mul_le_mul_right _ (Nat.le_trans (Nat.min_le_right _ _) (Nat.le_refl _))) z
abbrev cutW:List Char:=[Char.ofNat 99,Char.ofNat 117,Char.ofNat 116]
theorem mkCut (P:Program) (r:List (List Char)) (h:behindMainWord (wordsSigns P.initOrder.toList)=cutW :: r):P.make=some .cut:=by
 unfold Program.make
 rw [h]
 rfl
theorem hlCut (P:Program) (r:List (List Char)) (h:behindMainWord (wordsSigns P.initOrder.toList)=cutW :: r):P.headLifts=[]:=by
 unfold Program.headLifts
 rw [h]
 rfl
theorem lfCut (P:Program) (r:List (List Char)) (h:behindMainWord (wordsSigns P.initOrder.toList)=cutW :: r):P.liftsFinal=false:=by
 unfold Program.liftsFinal
 rw [h,hlCut P r h]
 rfl
theorem meCut (P:Program) (r:List (List Char)) (h:behindMainWord (wordsSigns P.initOrder.toList)=cutW :: r) (h1:P.laysLater=false) (h2:P.bearsReflect=false) (h3:P.doorFits []=true):P.mayEnter=true:=by
 unfold Program.mayEnter
 rw [h]
 dsimp only
 rw [show stripLifts liftWords (cutW :: r)=([],cutW :: r) from rfl,h1,h2,h3]
 rfl
theorem andT {a b:Bool} (h1:a=true) (h2:b=true):(a && b)=true:=by rw [h1,h2]; rfl
end Go.Proofs.Ytdbbnlafkndcnaa.Calc
