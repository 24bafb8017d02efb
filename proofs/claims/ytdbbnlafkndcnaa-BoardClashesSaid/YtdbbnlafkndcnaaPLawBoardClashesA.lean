/- Several texts in one (Calc1, Calc2, Calc3, Calc4, Calc5, Calc6, Calc7, Calc8, Calc9, CalcA, CalcB, CalcC, CalcD, CalcR, CalcE, CalcF, CalcG), for the proof of LawBoardClashes. No condition beyond those in each lemma. -/
import Derived.Calls
import Derived.Laws.World
import Derived.Laws.Sem
import Derived.Laws.Entries
import Derived.Laws.BitsLemmas
import Derived.Laws.Strings
import Derived.Laws.StructEq
import Derived.ChangeKeysEq
import Derived.Laws.IdiomStrings
namespace Go.Proofs.Ytdbbnlafkndcnaa.Calc
open Go
inductive V where
 | any
 | c (v:Value)
 | sl (esz:Nat) (rows:List (List V))
 | psl (b ver off len:Nat)
 | ptr (b ver row col:Nat)
 | dp (row:List V) (col:Nat)
 | agg (cs:List V)
 | tup (vs:List V)
 | fn (f:FuncId) (caps:List V)
 | ifc (t:TypeId) (v:V)
 | bit
 deriving Inhabited
def scal:Value→Bool
 | .agg _=>false
 | .tuple _=>false
 | _=>true
structure Place where
 row:Nat
 off:Nat
 esz:Nat
 n:Nat
 cap:Nat
 ver:Nat
 real:Bool
 deriving Inhabited
structure Blk where
 ver:Nat
 esz:Nat
 rows:List (List V)
 deriving Inhabited
def Own (ι:List Place) (r:Nat):Prop:=∃ p ∈ ι,p.real=true∧p.row=r
def OX (X:Nat→Prop) (ι:List Place) (r:Nat):Prop:=Own ι r∨X r
def cellOf (rows:List (List V)) (i j:Nat):Option V:=(rows[i]?).bind (·[j]?)
def PslRel (p:Place) (off len:Nat) (v:Value):Prop :=
 ∃ a cap,v=.slice a len cap∧len≤cap∧off+len≤p.n∧off+cap≤p.cap∧(cap=0∨(p.real=true∧a=some ⟨p.row,p.off+off * p.esz,none⟩))
inductive Rel (w:World) (own:Nat→Prop):List Place→Value→V→Prop
 | any {κ v}:Rel w own κ v .any
 | c {κ v}:Rel w own κ v (.c v)
 | slnil {κ esz}:Rel w own κ (.slice none 0 0) (.sl esz [])
 | sl {κ esz rows} {a:Addr} {len cap:Nat} (cv:Nat→Nat→Value) (hlen:rows.length=len) (hcap:len≤cap)
   (hspot:0 < len→a.spot=none) (hesz:∀ row ∈ rows,row.length=esz)
   (hc:∀ i j x,cellOf rows i j=some x→¬ own a.block∧w.cell? ⟨a.block,a.off+i * esz+j,none⟩=some (cv i j)∧scal (cv i j)=true)
   (hr:∀ i j x,cellOf rows i j=some x→Rel w own [] (cv i j) x):Rel w own κ (.slice (some a) len cap) (.sl esz rows)
 | psl {κ v b ver off len} (p:Place) (hp:κ[b]?=some p) (hle:ver≤p.ver) (h:ver=p.ver→PslRel p off len v):Rel w own κ v (.psl b ver off len)
 | ptr {κ v b ver row col} (p:Place) (hp:κ[b]?=some p) (hle:ver≤p.ver) (h:ver=p.ver→p.real=true∧v=.pointer (some ⟨p.row,p.off+row * p.esz+col,none⟩)):Rel w own κ v (.ptr b ver row col)
 | dp {κ row col} {blk base:Nat} (cv:Nat→Value)
   (hc:∀ j x,row[j]?=some x→¬ own blk∧w.cell? ⟨blk,base+j,none⟩=some (cv j)∧scal (cv j)=true)
   (hr:∀ j x,row[j]?=some x→Rel w own [] (cv j) x):Rel w own κ (.pointer (some ⟨blk,base+col,none⟩)) (.dp row col)
 | agg {κ} {cs:Array Value} {vs:List V} (hl:cs.size=vs.length) (hs:∀ (i:Nat) (c:Value),cs[i]?=some c→scal c=true) (h:∀ (i:Nat) (c:Value) (x:V),cs[i]?=some c→vs[i]?=some x→Rel w own κ c x):Rel w own κ (.agg cs) (.agg vs)
 | tup {κ} {cs:Array Value} {vs:List V} (hl:cs.size=vs.length) (h:∀ (i:Nat) (c:Value) (x:V),cs[i]?=some c→vs[i]?=some x→Rel w own κ c x):Rel w own κ (.tuple cs) (.tup vs)
 | fn {κ f} {cs:Array Value} {vs:List V} (hl:cs.size=vs.length) (h:∀ (i:Nat) (c:Value) (x:V),cs[i]?=some c→vs[i]?=some x→Rel w own κ c x):Rel w own κ (.func (.func f) #[] cs) (.fn f vs)
 | ifc {κ t v x} (h:Rel w own κ v x):Rel w own κ (.iface t v) (.ifc t x)
 | bit {κ b}:Rel w own κ (.bool b) .bit
structure Frm (w:World) (o:Nat→Prop) (w':World) (o':Nat→Prop):Prop where
 size:w.heap.size≤w'.heap.size
 same:∀ r,r < w.heap.size→¬ o r→w'.heap[r]?=w.heap[r]?
 own:∀ r,o' r→o r∨w.heap.size≤r
 os:w'.os=w.os
 tape:w'.tape=w.tape
 output:w'.output=w.output
theorem Frm.refl (w:World) (o:Nat→Prop):Frm w o w o:=⟨Nat.le_refl _,fun _ _ _=>rfl,fun _ h=>.inl h,rfl,rfl,rfl⟩
theorem Frm.trans {w w1 w2:World} {o o1 o2:Nat→Prop} (h:Frm w o w1 o1) (k:Frm w1 o1 w2 o2):Frm w o w2 o2 where
 size:=Nat.le_trans h.size k.size
 same r hr ho:=by
  have h1:¬ o1 r:=fun h'=>by
   rcases h.own r h' with h2|h2
   ·exact ho h2
   ·omega
  rw [k.same r (Nat.lt_of_lt_of_le hr h.size) h1,h.same r hr ho]
 own r hr:=by
  rcases k.own r hr with h1|h1
  ·exact h.own r h1
  ·exact .inr (Nat.le_trans h.size h1)
 os:=k.os.trans h.os
 tape:=k.tape.trans h.tape
 output:=k.output.trans h.output
theorem Frm.x {w w':World} {ι ι':List Place} (X:Nat→Prop) (h:Frm w (Own ι) w' (Own ι')):Frm w (OX X ι) w' (OX X ι') :=
 ⟨h.size,fun r hr ho=>h.same r hr (fun h'=>ho (.inl h')),fun r hr=>by
  rcases hr with hr|hr
  ·exact (h.own r hr).imp .inl id
  ·exact .inl (.inr hr),h.os,h.tape,h.output⟩
def Refs (κ κ':List Place):Prop:=∀ (b:Nat) (p:Place),κ[b]?=some p→∃ p':Place,κ'[b]?=some p'∧(p'=p∨p.ver < p'.ver)
theorem Refs.refl (κ:List Place):Refs κ κ:=fun _ p h=>⟨p,h,.inl rfl⟩
theorem Refs.nil (κ:List Place):Refs [] κ:=fun _ _ h=>by simp at h
theorem Refs.trans {a b c:List Place} (h:Refs a b) (k:Refs b c):Refs a c:=fun i p hp=>by
 obtain ⟨p1,h1,h2⟩:=h i p hp
 obtain ⟨p2,h3,h4⟩:=k i p1 h1
 refine ⟨p2,h3,?_⟩
 rcases h2 with rfl|h2 <;> rcases h4 with rfl|h4
 ·exact .inl rfl
 ·exact .inr h4
 ·exact .inr h2
 ·exact .inr (Nat.lt_trans h2 h4)
theorem Refs.snoc (κ:List Place) (l:List Place):Refs κ (κ ++ l):=fun b p h=>⟨p,by
 rw [List.getElem?_append_left]; exact h
 exact (List.getElem?_eq_some_iff.1 h).1,.inl rfl⟩
theorem cell_same {w w':World} {a:Addr} {v:Value} (h:w'.heap[a.block]?=w.heap[a.block]?) (hc:w.cell? a=some v):w'.cell? a=some v:=by
 unfold World.cell? at *; rw [h]; exact hc
theorem Rel.mono {w w':World} {own own':Nat→Prop} (hF:Frm w own w' own') {κ:List Place} {v:Value} {x:V} (h:Rel w own κ v x) :
  ∀ {κ':List Place},Refs κ κ'→Rel w' own' κ' v x:=by
 induction h with
 | any=>intro _ _; exact .any
 | bit=>intro _ _; exact .bit
 | c=>intro _ _; exact .c
 | slnil=>intro _ _; exact .slnil
 | @sl κ esz rows a len cap cv hlen hcap hspot hesz hc hr ih =>
  intro κ' _
  refine .sl cv hlen hcap hspot hesz (fun i j x hx=>?_) (fun i j x hx=>ih i j x hx (Refs.refl _))
  obtain ⟨h1,h2,h4⟩:=hc i j x hx
  have hlt:a.block < w.heap.size:=World.block_lt_of_cell? w ⟨a.block,_,none⟩ h2
  refine ⟨fun h'=>?_,cell_same (a:=⟨a.block,_,none⟩) (hF.same _ hlt h1) h2,h4⟩
  rcases hF.own _ h' with h3|h3
  ·exact h1 h3
  ·omega
 | psl p hp hle h =>
  intro κ' hR
  obtain ⟨p',h1,h2⟩:=hR _ _ hp
  rcases h2 with rfl|h2
  ·exact .psl _ h1 hle h
  ·exact .psl _ h1 (by omega) (by omega)
 | ptr p hp hle h =>
  intro κ' hR
  obtain ⟨p',h1,h2⟩:=hR _ _ hp
  rcases h2 with rfl|h2
  ·exact .ptr _ h1 hle h
  ·exact .ptr _ h1 (by omega) (by omega)
 | @dp κ row col blk base cv hc hr ih =>
  intro κ' _
  refine .dp cv (fun j x hx=>?_) (fun j x hx=>ih j x hx (Refs.refl _))
  obtain ⟨h1,h2,h4⟩:=hc j x hx
  have hlt:blk < w.heap.size:=World.block_lt_of_cell? w ⟨blk,_,none⟩ h2
  refine ⟨fun h'=>?_,cell_same (a:=⟨blk,_,none⟩) (hF.same _ hlt h1) h2,h4⟩
  rcases hF.own _ h' with h3|h3
  ·exact h1 h3
  ·omega
 | agg hl hs _ ih=>intro κ' hR; exact .agg hl hs fun i c x h1 h2=>ih i c x h1 h2 hR
 | tup hl _ ih=>intro κ' hR; exact .tup hl fun i c x h1 h2=>ih i c x h1 h2 hR
 | fn hl _ ih=>intro κ' hR; exact .fn hl fun i c x h1 h2=>ih i c x h1 h2 hR
 | ifc _ ih=>intro κ' hR; exact .ifc (ih hR)
def CellsRel (w:World) (own:Nat→Prop) (κ:List Place) (p:Place) (rows:List (List V)) (c:Array Value) (fz:Nat×Nat):Prop :=
 p.off+p.cap * p.esz≤c.size∧(∀ j,p.off≤j→j < p.off+p.cap * p.esz→¬ (fz.1≤j∧j < fz.2)) ∧
  ∀ i j x,cellOf rows i j=some x→∃ v,c[p.off+i * p.esz+j]?=some v∧scal v=true∧Rel w own κ v x
structure BRel (w:World) (own:Nat→Prop) (κ:List Place) (p:Place) (k:Blk):Prop where
 ver:k.ver=p.ver
 esz:k.esz=p.esz
 pos:0 < p.esz
 num:k.rows.length=p.n
 fit:p.n≤p.cap
 rows:∀ row ∈ k.rows,row.length=p.esz
 cells:p.real=true→∃ c T fz,w.heap[p.row]?=some (.cells c T fz)∧CellsRel w own κ p k.rows c fz
 virt:p.real=false→p.cap=0
variable {X:Nat→Prop}
structure HRel (X:Nat→Prop) (w:World) (ι:List Place) (h:List Blk):Prop where
 len:ι.length=h.length
 blk:∀ (b:Nat) (p:Place) (k:Blk),ι[b]?=some p→h[b]?=some k→BRel w (OX X ι) ι p k
 sep:∀ (b b':Nat) (p p':Place),ι[b]?=some p→ι[b']?=some p'→p.real=true→p'.real=true→p.row=p'.row→b=b'
 xsep:∀ (b:Nat) (p:Place),ι[b]?=some p→p.real=true→¬ X p.row
 xlt:∀ r,X r→r < w.heap.size
theorem CellsRel.mono {w w':World} {own own':Nat→Prop} {κ κ':List Place} {p:Place} {rows:List (List V)} {c:Array Value} {fz:Nat×Nat}
  (h:CellsRel w own κ p rows c fz) (hF:Frm w own w' own') (hR:Refs κ κ'):CellsRel w' own' κ' p rows c fz :=
 ⟨h.1,h.2.1,fun i j x hx=>let ⟨v,h1,h3,h2⟩:=h.2.2 i j x hx; ⟨v,h1,h3,h2.mono hF hR⟩⟩
theorem HRel.row_lt {w:World} {ι:List Place} {h:List Blk} (H:HRel X w ι h) {b:Nat} {p:Place} (hp:ι[b]?=some p) (hr:p.real=true):p.row < w.heap.size:=by
 have hb:b < h.length:=by rw [← H.len]; exact (List.getElem?_eq_some_iff.1 hp).1
 obtain ⟨c,T,fz,h1,_⟩:=(H.blk b p _ hp (List.getElem?_eq_getElem hb)).cells hr
 exact (Array.getElem?_eq_some_iff.1 h1).1
theorem Own.of {ι:List Place} {b:Nat} {p:Place} (hp:ι[b]?=some p) (hr:p.real=true):Own ι p.row:=⟨p,List.mem_of_getElem? hp,hr,rfl⟩
theorem HRel.own_lt {w:World} {ι:List Place} {h:List Blk} (H:HRel X w ι h) {r:Nat} (ho:Own ι r):r < w.heap.size:=by
 obtain ⟨p,hm,hr,rfl⟩:=ho
 obtain ⟨b,hb⟩:=List.mem_iff_getElem?.1 hm
 exact H.row_lt hb hr
theorem HRel.set {w w':World} {ι:List Place} {h:List Blk} (H:HRel X w ι h) {b:Nat} {p:Place} (hp:ι[b]?=some p) (p':Place) (k':Blk)
  (hsize:w.heap.size≤w'.heap.size) (hsame:∀ r,r < w.heap.size→(p.real=true→r≠p.row)→w'.heap[r]?=w.heap[r]?)
  (hos:w'.os=w.os) (htape:w'.tape=w.tape) (hout:w'.output=w.output)
  (hrow:p'.real=true→(p.real=true∧p'.row=p.row)∨w.heap.size≤p'.row)
  (hver:p'=p∨p.ver < p'.ver)
  (h1:k'.ver=p'.ver) (h2:k'.esz=p'.esz) (h3:0 < p'.esz) (h4:k'.rows.length=p'.n) (h4':p'.n≤p'.cap) (h5:∀ row ∈ k'.rows,row.length=p'.esz)
  (h6:p'.real=true→∃ c T fz,w'.heap[p'.row]?=some (.cells c T fz)∧CellsRel w (OX X ι) ι p' k'.rows c fz) (h7:p'.real=false→p'.cap=0) :
  HRel X w' (ι.set b p') (h.set b k')∧Frm w (Own ι) w' (Own (ι.set b p'))∧Refs ι (ι.set b p'):=by
 have hbl:b < ι.length:=(List.getElem?_eq_some_iff.1 hp).1
 have hown:∀ r,Own (ι.set b p') r→Own ι r∨w.heap.size≤r:=by
  rintro r ⟨q,hq,hqr,rfl⟩
  obtain ⟨i,hi⟩:=List.mem_iff_getElem?.1 hq
  rw [List.getElem?_set] at hi
  by_cases hib:b=i
  ·subst hib
   rw [if_pos rfl,if_pos hbl] at hi
   cases hi
   rcases hrow hqr with ⟨h8,h9⟩|h8
   ·left; rw [h9]; exact Own.of hp h8
   ·exact .inr h8
  ·rw [if_neg hib] at hi
   exact .inl (Own.of hi hqr)
 have hF:Frm w (Own ι) w' (Own (ι.set b p')):=⟨hsize,fun r hr ho=>hsame r hr (fun hr' e=>ho (e ▸ Own.of hp hr')),hown,hos,htape,hout⟩
 have hR:Refs ι (ι.set b p'):=by
  intro i q hi
  by_cases hib:b=i
  ·subst hib
   rw [hp] at hi; cases hi
   exact ⟨p',by rw [List.getElem?_set,if_pos rfl,if_pos hbl],hver⟩
  ·exact ⟨q,by rw [List.getElem?_set,if_neg hib]; exact hi,.inl rfl⟩
 refine ⟨⟨by rw [List.length_set,List.length_set]; exact H.len,?_,?_,?_,fun r hr=>Nat.lt_of_lt_of_le (H.xlt r hr) hsize⟩,hF,hR⟩
 ·intro i q k hi hk
  rw [List.getElem?_set] at hi hk
  by_cases hib:b=i
  ·subst hib
   rw [if_pos rfl,if_pos hbl] at hi
   rw [if_pos rfl,if_pos (by rw [← H.len]; exact hbl)] at hk
   cases hi; cases hk
   refine ⟨h1,h2,h3,h4,h4',h5,fun hr=>?_,h7⟩
   obtain ⟨c,T,fz,g1,g2⟩:=h6 hr
   exact ⟨c,T,fz,g1,g2.mono (hF.x X) hR⟩
  ·rw [if_neg hib] at hi hk
   have B:=H.blk i q k hi hk
   refine ⟨B.ver,B.esz,B.pos,B.num,B.fit,B.rows,fun hr=>?_,B.virt⟩
   obtain ⟨c,T,fz,g1,g2⟩:=B.cells hr
   refine ⟨c,T,fz,?_,g2.mono (hF.x X) hR⟩
   rw [hsame q.row (H.row_lt hi hr) (fun hpr e=>hib (H.sep b i p q hp hi hpr hr e.symm))]
   exact g1
 ·intro i j q q' hi hj hr hr' e
  rw [List.getElem?_set] at hi hj
  by_cases hib:b=i
  ·by_cases hjb:b=j
   ·omega
   ·rw [if_neg hjb] at hj
    subst hib
    rw [if_pos rfl,if_pos hbl] at hi
    cases hi
    rcases hrow hr with ⟨h8,h9⟩|h8
    ·exact absurd (H.sep b j p q' hp hj h8 hr' (by rw [← h9,e])) hjb
    ·have:=H.row_lt hj hr'; omega
  ·rw [if_neg hib] at hi
   by_cases hjb:b=j
   ·subst hjb
    rw [if_pos rfl,if_pos hbl] at hj
    cases hj
    rcases hrow hr' with ⟨h8,h9⟩|h8
    ·exact absurd (H.sep b i p q hp hi h8 hr (by rw [← h9,e])) hib
    ·have:=H.row_lt hi hr; omega
   ·rw [if_neg hjb] at hj
    exact H.sep i j q q' hi hj hr hr' e
 ·intro i q hi hr hx
  rw [List.getElem?_set] at hi
  by_cases hib:b=i
  ·subst hib
   rw [if_pos rfl,if_pos hbl] at hi
   cases hi
   rcases hrow hr with ⟨h8,h9⟩|h8
   ·rw [h9] at hx; exact H.xsep b p hp h8 hx
   ·have:=H.xlt _ hx; omega
  ·rw [if_neg hib] at hi
   exact H.xsep i q hi hr hx
theorem HRel.push {w w':World} {ι:List Place} {h:List Blk} (H:HRel X w ι h) (p':Place) (k':Blk)
  (hsize:w.heap.size≤w'.heap.size) (hsame:∀ r,r < w.heap.size→w'.heap[r]?=w.heap[r]?)
  (hos:w'.os=w.os) (htape:w'.tape=w.tape) (hout:w'.output=w.output)
  (hrow:p'.real=true→w.heap.size≤p'.row)
  (h1:k'.ver=p'.ver) (h2:k'.esz=p'.esz) (h3:0 < p'.esz) (h4:k'.rows.length=p'.n) (h4':p'.n≤p'.cap) (h5:∀ row ∈ k'.rows,row.length=p'.esz)
  (h6:p'.real=true→∃ c T fz,w'.heap[p'.row]?=some (.cells c T fz)∧CellsRel w (OX X ι) ι p' k'.rows c fz) (h7:p'.real=false→p'.cap=0) :
  HRel X w' (ι ++ [p']) (h ++ [k'])∧Frm w (Own ι) w' (Own (ι ++ [p']))∧Refs ι (ι ++ [p']):=by
 have hget:∀ (i:Nat) (q:Place),(ι ++ [p'])[i]?=some q→ι[i]?=some q∨(i=ι.length∧q=p'):=by
  intro i q hi
  rw [List.getElem?_append] at hi
  by_cases hlt:i < ι.length
  ·rw [if_pos hlt] at hi; exact .inl hi
  ·rw [if_neg hlt] at hi
   have h0:=(List.getElem?_eq_some_iff.1 hi).1
   simp at h0
   have:i=ι.length:=by omega
   subst this
   simp at hi
   exact .inr ⟨rfl,hi.symm⟩
 have hown:∀ r,Own (ι ++ [p']) r→Own ι r∨w.heap.size≤r:=by
  rintro r ⟨q,hq,hqr,rfl⟩
  rw [List.mem_append] at hq
  rcases hq with hq|hq
  ·exact .inl ⟨q,hq,hqr,rfl⟩
  ·simp at hq; subst hq; exact .inr (hrow hqr)
 have hF:Frm w (Own ι) w' (Own (ι ++ [p'])):=⟨hsize,fun r hr _=>hsame r hr,hown,hos,htape,hout⟩
 have hR:Refs ι (ι ++ [p']):=Refs.snoc _ _
 refine ⟨⟨by simp [H.len],?_,?_,?_,fun r hr=>Nat.lt_of_lt_of_le (H.xlt r hr) hsize⟩,hF,hR⟩
 ·intro i q k hi hk
  rcases hget i q hi with hi|⟨rfl,rfl⟩
  ·have hlt:i < h.length:=by rw [← H.len]; exact (List.getElem?_eq_some_iff.1 hi).1
   rw [List.getElem?_append_left hlt] at hk
   have B:=H.blk i q k hi hk
   refine ⟨B.ver,B.esz,B.pos,B.num,B.fit,B.rows,fun hr=>?_,B.virt⟩
   obtain ⟨c,T,fz,g1,g2⟩:=B.cells hr
   exact ⟨c,T,fz,by rw [hsame _ (H.row_lt hi hr)]; exact g1,g2.mono (hF.x X) hR⟩
  ·rw [H.len,List.getElem?_append_right (Nat.le_refl _)] at hk
   simp at hk; subst hk
   refine ⟨h1,h2,h3,h4,h4',h5,fun hr=>?_,h7⟩
   obtain ⟨c,T,fz,g1,g2⟩:=h6 hr
   exact ⟨c,T,fz,g1,g2.mono (hF.x X) hR⟩
 ·intro i j q q' hi hj hr hr' e
  rcases hget i q hi with ki|⟨ki,rfl⟩ <;> rcases hget j q' hj with kj|⟨kj,rfl⟩
  ·exact H.sep i j q q' ki kj hr hr' e
  ·have:=H.row_lt ki hr; have:=hrow hr'; omega
  ·have:=H.row_lt kj hr'; have:=hrow hr; omega
  ·rw [ki,kj]
 ·intro i q hi hr hx
  rcases hget i q hi with ki|⟨ki,rfl⟩
  ·exact H.xsep i q ki hr hx
  ·have:=H.xlt _ hx; have:=hrow hr; omega
theorem HRel.grown {w w':World} {ι:List Place} {h:List Blk} (H:HRel X w ι h) (hF:Frm w (Own ι) w' (Own ι)) (hown:∀ r,Own ι r→w'.heap[r]?=w.heap[r]?):HRel X w' ι h:=by
 refine ⟨H.len,fun b p k hp hk=>?_,H.sep,H.xsep,fun r hr=>Nat.lt_of_lt_of_le (H.xlt r hr) hF.size⟩
 have B:=H.blk b p k hp hk
 refine ⟨B.ver,B.esz,B.pos,B.num,B.fit,B.rows,fun hr=>?_,B.virt⟩
 obtain ⟨c,T,fz,g1,g2⟩:=B.cells hr
 exact ⟨c,T,fz,by rw [hown _ (Own.of hp hr)]; exact g1,g2.mono (hF.x X) (Refs.refl _)⟩
mutual
def V.mapR (gp gq:Nat→Nat→Nat→Nat→V):V→V
 | .any=>.any
 | .bit=>.bit
 | .c x=>.c x
 | .sl e r=>.sl e r
 | .psl b v o l=>gp b v o l
 | .ptr b v r k=>gq b v r k
 | .dp row k=>.dp row k
 | .agg cs=>.agg (V.mapL gp gq cs)
 | .tup cs=>.tup (V.mapL gp gq cs)
 | .fn f cs=>.fn f (V.mapL gp gq cs)
 | .ifc t v=>.ifc t (V.mapR gp gq v)
def V.mapL (gp gq:Nat→Nat→Nat→Nat→V):List V→List V
 | []=>[]
 | x :: xs=>V.mapR gp gq x :: V.mapL gp gq xs
end
theorem V.mapL_eq (gp gq:Nat→Nat→Nat→Nat→V) (l:List V):V.mapL gp gq l=l.map (V.mapR gp gq):=by
 induction l with
 | nil=>rfl
 | cons x xs ih=>simp only [V.mapL,List.map_cons,ih]
theorem Rel.shrink {w:World} {own own':Nat→Prop} (ho:∀ r,own' r→own r) {κ κ':List Place} {v:Value} {x:V} (h:Rel w own κ v x) (hR:Refs κ κ'):Rel w own' κ' v x :=
 h.mono ⟨Nat.le_refl _,fun _ _ _=>rfl,fun r hr=>.inl (ho r hr),rfl,rfl,rfl⟩ hR
theorem Rel.mapR {w:World} {own own':Nat→Prop} (ho:∀ r,own' r→own r) {gp gq:Nat→Nat→Nat→Nat→V} {κ κ':List Place} {v:Value} {x:V}
  (h:Rel w own κ v x) (hp:∀ b n o l cv,Rel w own κ cv (.psl b n o l)→Rel w own' κ' cv (gp b n o l))
  (hq:∀ b n r c cv,Rel w own κ cv (.ptr b n r c)→Rel w own' κ' cv (gq b n r c)):Rel w own' κ' v (x.mapR gp gq):=by
 induction h with
 | any=>exact .any
 | bit=>exact .bit
 | c=>exact .c
 | slnil=>exact .slnil
 | sl cv hlen hcap hspot hesz hc hr ih =>
  exact .sl cv hlen hcap hspot hesz (fun i j x hx=>⟨fun h'=>(hc i j x hx).1 (ho _ h'),(hc i j x hx).2⟩) (fun i j x hx=>(hr i j x hx).shrink ho (Refs.refl _))
 | psl p hp' hle h=>exact hp _ _ _ _ _ (.psl p hp' hle h)
 | ptr p hp' hle h=>exact hq _ _ _ _ _ (.ptr p hp' hle h)
 | dp cv hc hr ih=>exact .dp cv (fun j x hx=>⟨fun h'=>(hc j x hx).1 (ho _ h'),(hc j x hx).2⟩) (fun j x hx=>(hr j x hx).shrink ho (Refs.refl _))
 | agg hl hs _ ih =>
  simp only [V.mapR,V.mapL_eq]
  refine .agg (by simpa using hl) hs fun i c x h1 h2=>?_
  rw [List.getElem?_map] at h2
  obtain ⟨y,h3,rfl⟩:=Option.map_eq_some_iff.1 h2
  exact ih i c y h1 h3 hp hq
 | tup hl _ ih =>
  simp only [V.mapR,V.mapL_eq]
  refine .tup (by simpa using hl) fun i c x h1 h2=>?_
  rw [List.getElem?_map] at h2
  obtain ⟨y,h3,rfl⟩:=Option.map_eq_some_iff.1 h2
  exact ih i c y h1 h3 hp hq
 | fn hl _ ih =>
  simp only [V.mapR,V.mapL_eq]
  refine .fn (by simpa using hl) fun i c x h1 h2=>?_
  rw [List.getElem?_map] at h2
  obtain ⟨y,h3,rfl⟩:=Option.map_eq_some_iff.1 h2
  exact ih i c y h1 h3 hp hq
 | ifc _ ih=>simp only [V.mapR]; exact .ifc (ih hp hq)
def frz (h:List Blk) (keep:Nat→Bool):Nat→V→V
 | 0=>V.mapR (fun _ _ _ _=>.any) (fun _ _ _ _=>.any)
 | n+1=>V.mapR (fun b ver off len=>if keep b then .any else
   match h[b]? with
   | some k=>if k.ver=ver then .sl k.esz (((k.rows.drop off).take len).map (·.map (frz h keep n))) else .any
   | none=>.any) (fun _ _ _ _=>.any)
theorem cellOf_map (rows:List (List V)) (g:V→V) (i j:Nat) (x:V) (h:cellOf (rows.map (·.map g)) i j=some x):∃ y,cellOf rows i j=some y∧x=g y:=by
 unfold cellOf at *
 rw [List.getElem?_map] at h
 cases hr:rows[i]? with
 | none=>rw [hr] at h; simp at h
 | some r =>
  rw [hr] at h
  simp only [Option.map_some,Option.bind_some,List.getElem?_map] at h ⊢
  obtain ⟨y,h1,h2⟩:=Option.map_eq_some_iff.1 h
  exact ⟨y,h1,h2.symm⟩
theorem cellOf_sub (rows:List (List V)) (off len i j:Nat) (x:V) (h:cellOf ((rows.drop off).take len) i j=some x):cellOf rows (off+i) j=some x:=by
 unfold cellOf at *
 rw [List.getElem?_take] at h
 by_cases hi:i < len
 ·rw [if_pos hi,List.getElem?_drop] at h; exact h
 ·rw [if_neg hi] at h; simp at h
theorem Rel.frz {w:World} {ι:List Place} {h:List Blk} (H:HRel X w ι h) {keep:Nat→Bool} {own':Nat→Prop}
  (ho:∀ r,own' r→(∃ b p,ι[b]?=some p∧keep b=true∧p.real=true∧p.row=r)∨X r) (n:Nat) :
  ∀ {v:Value} {x:V} {κ':List Place},Rel w (OX X ι) ι v x→Rel w own' κ' v (frz h keep n x):=by
 have ho':∀ r,own' r→OX X ι r:=fun r hr=>by
  rcases ho r hr with ⟨b,p,h1,_,h2,rfl⟩|hx
  ·exact .inl (Own.of h1 h2)
  ·exact .inr hx
 induction n with
 | zero=>intro v x κ' hx; exact hx.mapR ho' (fun _ _ _ _ _ _=>.any) (fun _ _ _ _ _ _=>.any)
 | succ n ih =>
  intro v x κ' hx
  refine hx.mapR ho' (fun b ver off len cv hcv=>?_) (fun _ _ _ _ _ _=>.any)
  by_cases hk:keep b=true
  ·rw [if_pos hk]; exact .any
  rw [if_neg hk]
  cases hb:h[b]? with
  | none=>exact .any
  | some k =>
   dsimp only
   by_cases hv:k.ver=ver
   ·rw [if_pos hv]
    cases hcv with
    | psl p hp hle hP =>
     have B:=H.blk b p k hp hb
     obtain ⟨a,cap,rfl,h1,h2,h3,h4⟩:=hP (by rw [← hv,B.ver])
     have hlen:((k.rows.drop off).take len).length=len:=by
      rw [List.length_take,List.length_drop,B.num]; omega
     rcases h4 with rfl|⟨h4,rfl⟩
     ·obtain rfl:len=0:=by omega
      cases a with
      | none=>simp only [List.take_zero,List.map_nil]; exact .slnil
      | some a =>
       simp only [List.take_zero,List.map_nil]
       exact .sl (fun _ _=>undef) rfl (Nat.le_refl _) (by omega) (by simp) (by simp [cellOf]) (by simp [cellOf])
     ·obtain ⟨c,T,fz,g1,g2⟩:=B.cells h4
      refine .sl (fun i j=>(c[p.off+(off+i) * p.esz+j]?).getD undef) (by simpa using hlen) h1 (fun _=>rfl) ?_ ?_ ?_
      ·intro row hrow
       obtain ⟨r,hr,rfl⟩:=List.mem_map.1 hrow
       rw [List.length_map,B.esz]
       exact B.rows r (List.mem_of_mem_drop (List.mem_of_mem_take hr))
      ·intro i j x hx
       obtain ⟨y,hy,rfl⟩:=cellOf_map _ _ _ _ _ hx
       obtain ⟨cv,e1,e3,e2⟩:=g2.2.2 _ _ _ (cellOf_sub _ _ _ _ _ _ hy)
       refine ⟨fun hown=>?_,?_,by rw [e1]; exact e3⟩
       ·rcases ho _ hown with ⟨b',p',q1,q2,q3,q4⟩|hx
        ·have:=H.sep b' b p' p q1 hp q3 h4 q4
         subst this
         exact hk q2
        ·exact H.xsep b p hp h4 hx
       ·rw [e1]
        simp only [World.cell?,g1]
        have:p.off+off * p.esz+i * k.esz+j=p.off+(off+i) * p.esz+j:=by rw [B.esz,Nat.add_mul]; omega
        rw [this]; simpa using e1
      ·intro i j x hx
       obtain ⟨y,hy,rfl⟩:=cellOf_map _ _ _ _ _ hx
       obtain ⟨cv,e1,e3,e2⟩:=g2.2.2 _ _ _ (cellOf_sub _ _ _ _ _ _ hy)
       rw [e1]
       exact ih e2
   ·rw [if_neg hv]; exact .any
def pos:List Nat→Nat→Option Nat
 | [],_=>none
 | x :: xs,b=>if x=b then some 0 else (pos xs b).map (· + 1)
theorem pos_get {l:List Nat}:∀ {b i:Nat},pos l b=some i→l[i]?=some b:=by
 induction l with
 | nil=>intro b i h; simp [pos] at h
 | cons x xs ih =>
  intro b i h
  simp only [pos] at h
  by_cases hx:x=b
  ·rw [if_pos hx] at h; cases h; simp [hx]
  ·rw [if_neg hx] at h
   obtain ⟨j,h1,rfl⟩:=Option.map_eq_some_iff.1 h
   simpa using ih h1
theorem pos_mem {l:List Nat} {b:Nat} (h:b ∈ l):(pos l b).isSome=true:=by
 induction l with
 | nil=>simp at h
 | cons x xs ih =>
  simp only [pos]
  by_cases hx:x=b
  ·rw [if_pos hx]; rfl
  ·rw [if_neg hx]
   have:b ∈ xs:=by simpa [Ne.symm hx] using h
   rw [Option.isSome_map]; exact ih this
def out (h:List Blk) (ids:List Nat) (n:Nat):V→V :=
 V.mapR (fun b ver off len=>match pos ids b with
   | some b'=>.psl b' ver off len
   | none=>frz h (fun b=>(pos ids b).isSome) n (.psl b ver off len))
  (fun b ver r k=>match pos ids b with
   | some b'=>.ptr b' ver r k
   | none=>.any)
def outB (h:List Blk) (ids:List Nat) (n:Nat) (k:Blk):Blk:={ k with rows:=k.rows.map (·.map (out h ids n)) }
def outH (h:List Blk) (ids:List Nat) (n:Nat):List Blk:=ids.map fun b=>outB h ids n (h.getD b default)
theorem reindex {w:World} {ι:List Place} {h:List Blk} (H:HRel X w ι h) (ids:List Nat) (hnd:ids.Nodup) (hlt:∀ b ∈ ids,b < h.length) (n:Nat) :
  ∃ ι':List Place,ι'=ids.map (fun b=>ι.getD b default)∧HRel X w ι' (outH h ids n)∧(∀ v x,Rel w (OX X ι) ι v x→Rel w (OX X ι') ι' v (out h ids n x))∧(∀ r,Own ι' r→Own ι r):=by
 have hget:∀ {i:Nat} {p:Place},(ids.map (fun b=>ι.getD b default))[i]?=some p→∃ b,ids[i]?=some b∧ι[b]?=some p:=by
  intro i p hi
  rw [List.getElem?_map] at hi
  obtain ⟨b,h1,h2⟩:=Option.map_eq_some_iff.1 hi
  refine ⟨b,h1,?_⟩
  have:=hlt b (List.mem_of_getElem? h1)
  rw [← H.len] at this
  rw [List.getD_eq_getElem?_getD,List.getElem?_eq_getElem this] at h2
  rw [List.getElem?_eq_getElem this]; simpa using h2
 have hput:∀ {i b:Nat} {p:Place},ids[i]?=some b→ι[b]?=some p→(ids.map (fun b=>ι.getD b default))[i]?=some p:=by
  intro i b p h1 h2
  rw [List.getElem?_map,h1,Option.map_some,List.getD_eq_getElem?_getD,h2]; rfl
 have hown:∀ r,Own (ids.map (fun b=>ι.getD b default)) r→∃ b p,ι[b]?=some p∧(pos ids b).isSome=true∧p.real=true∧p.row=r:=by
  rintro r ⟨p,hp,hr,rfl⟩
  obtain ⟨i,hi⟩:=List.mem_iff_getElem?.1 hp
  obtain ⟨b,h1,h2⟩:=hget hi
  exact ⟨b,p,h2,pos_mem (List.mem_of_getElem? h1),hr,rfl⟩
 have hown':∀ r,Own (ids.map (fun b=>ι.getD b default)) r→Own ι r:=fun r hr=>by
  obtain ⟨b,p,h1,_,h3,rfl⟩:=hown r hr
  exact Own.of h1 h3
 have hrel:∀ v x,Rel w (OX X ι) ι v x→Rel w (OX X (ids.map (fun b=>ι.getD b default))) (ids.map (fun b=>ι.getD b default)) v (out h ids n x):=by
  intro v x hx
  refine hx.mapR (fun r hr=>hr.imp (hown' r) id) (fun b ver off len cv hcv=>?_) (fun b ver r k cv hcv=>?_)
  ·cases hb:pos ids b with
   | none=>exact hcv.frz H (fun r hr=>hr.imp (hown r) id) n
   | some b' =>
    cases hcv with
    | psl p hp hle hP=>exact .psl p (hput (pos_get hb) hp) hle hP
  ·cases hb:pos ids b with
   | none=>exact .any
   | some b' =>
    cases hcv with
    | ptr p hp hle hP=>exact .ptr p (hput (pos_get hb) hp) hle hP
 refine ⟨_,rfl,⟨by simp [outH],?_,?_,?_,H.xlt⟩,hrel,hown'⟩
 ·intro i p k hi hk
  obtain ⟨b,h1,h2⟩:=hget hi
  have hb:b < h.length:=hlt b (List.mem_of_getElem? h1)
  simp only [outH,List.getElem?_map,h1,Option.map_some,Option.some.injEq] at hk
  subst hk
  have hg:h.getD b default=h[b]:=by rw [List.getD_eq_getElem?_getD,List.getElem?_eq_getElem hb]; rfl
  have B:=H.blk b p h[b] h2 (List.getElem?_eq_getElem hb)
  rw [← hg] at B
  refine ⟨B.ver,B.esz,B.pos,by simpa [outB] using B.num,B.fit,?_,fun hr=>?_,B.virt⟩
  ·intro row hrow
   simp only [outB] at hrow
   obtain ⟨r,hr,rfl⟩:=List.mem_map.1 hrow
   rw [List.length_map]; exact B.rows r hr
  ·obtain ⟨c,T,fz,g1,g2,g3,g4⟩:=B.cells hr
   refine ⟨c,T,fz,g1,g2,g3,fun i j x hx=>?_⟩
   simp only [outB] at hx
   obtain ⟨y,hy,rfl⟩:=cellOf_map _ _ _ _ _ hx
   obtain ⟨v,e1,e3,e2⟩:=g4 i j y hy
   exact ⟨v,e1,e3,hrel v y e2⟩
 ·intro i j p p' hi hj hr hr' e
  obtain ⟨b,h1,h2⟩:=hget hi
  obtain ⟨b',h1',h2'⟩:=hget hj
  have hbb:=H.sep b b' p p' h2 h2' hr hr' e
  subst hbb
  exact (List.getElem?_inj (List.getElem?_eq_some_iff.1 h1).1 hnd).1 (by rw [h1,h1'])
 ·intro i p hi hr
  obtain ⟨b,h1,h2⟩:=hget hi
  exact H.xsep b p h2 hr
end Go.Proofs.Ytdbbnlafkndcnaa.Calc
namespace Go.Proofs.Ytdbbnlafkndcnaa.Calc
open Go
variable {X:Nat→Prop}
inductive AO where
 | t (i:Nat)
 | k (v:Value)
 | f (g:FuncId)
 deriving Inhabited
def AO.ev (sl:Nat→V):AO→V
 | .t i=>sl i
 | .k v=>.c v
 | .f g=>.fn g []
def compO:Operand→Option AO
 | .tmp t=>some (.t t)
 | .const v=>some (.k v)
 | .func g=>some (.f g)
 | .global _=>none
def SlRel (X:Nat→Prop) (w:World) (ι:List Place) (sl:Nat→V) (a:Act):Prop:=∀ i,Rel w (OX X ι) ι (a.tmps.getD i undef) (sl i)
theorem AO.ev_rel {w:World} {ι:List Place} {sl:Nat→V} {a:Act} (hs:SlRel X w ι sl a) {o:Operand} {x:AO} (hx:compO o=some x):Rel w (OX X ι) ι (a.eval o) (x.ev sl):=by
 cases o <;> simp only [compO,Option.some.injEq,reduceCtorEq] at hx <;> subst hx
 ·exact hs _
 ·exact .c
 ·exact .fn rfl (by simp)
theorem Rel.c_eq {w:World} {own:Nat→Prop} {κ:List Place} {v u:Value} (h:Rel w own κ v (.c u)):v=u:=by cases h; rfl
def binV:BinOp→Value→Value→Option Value
 | .shl,.int k a,.int _ b=>if b < 0 then none else some (.int k (k.wrap (a * 2 ^ min b.toNat k.bits)))
 | .shr,.int k a,.int _ b=>if b < 0 then none else some (.int k (a / 2 ^ min b.toNat k.bits))
 | .add,.int k a,.int k' b=>if k=k' then some (.int k (k.wrap (a+b))) else none
 | .sub,.int k a,.int k' b=>if k=k' then some (.int k (k.wrap (a - b))) else none
 | .mul,.int k a,.int k' b=>if k=k' then some (.int k (k.wrap (a * b))) else none
 | .quo,.int k a,.int k' b=>if k=k' then if b=0 then none else some (.int k (k.wrap (a.tdiv b))) else none
 | .rem,.int k a,.int k' b=>if k=k' then if b=0 then none else some (.int k (a.tmod b)) else none
 | .and,.int k a,.int k' b=>if k=k' then some (.int k (bits .and k a b)) else none
 | .or,.int k a,.int k' b=>if k=k' then some (.int k (bits .or k a b)) else none
 | .xor,.int k a,.int k' b=>if k=k' then some (.int k (bits .xor k a b)) else none
 | .andNot,.int k a,.int k' b=>if k=k' then some (.int k (bits .andNot k a b)) else none
 | .eql,.int k a,.int k' b=>if k=k' then some (.bool (decide (a=b))) else none
 | .neq,.int k a,.int k' b=>if k=k' then some (.bool (decide (a≠b))) else none
 | .lss,.int k a,.int k' b=>if k=k' then some (.bool (decide (a < b))) else none
 | .leq,.int k a,.int k' b=>if k=k' then some (.bool (decide (a≤b))) else none
 | .gtr,.int k a,.int k' b=>if k=k' then some (.bool (decide (b < a))) else none
 | .geq,.int k a,.int k' b=>if k=k' then some (.bool (decide (b≤a))) else none
 | .add,.string a,.string b=>if a.size+b.size≤9223372036854775807 then some (.string (a ++ b)) else none
 | .eql,.string a,.string b=>some (.bool (decide (a=b)))
 | .neq,.string a,.string b=>some (.bool (decide (a≠b)))
 | _,_,_=>none
theorem bytes_eq (a b:ByteArray):(a.toList == b.toList)=decide (a=b):=by
 rw [Bool.eq_iff_iff]
 simp only [beq_iff_eq,decide_eq_true_eq]
 constructor
 ·intro h
  have e:∀ x:ByteArray,x.toList=x.data.toList:=fun x=>by
   exact ByteArray.toList_eq x
  rw [e,e] at h
  cases a; cases b
  simp at h; simp [h]
 ·rintro rfl; rfl
theorem run_binV {P:Program} {op:BinOp} {t:TypeId} {xo yo:Operand} {x y v:Value} (h:binV op x y=some v) (w:World) :
    (do eqGuard op t xo yo x y; binOp op t x y).run P w=.ok v w:=by
  unfold binV at h
  split at h
  · split at h
    · cases h
    · rename_i hb; cases h; simp [eqGuard_at_int,binOp,Op.shift,hb]
  · split at h
    · cases h
    · rename_i hb; cases h
      have e:∀ a:Int,∀ n:Nat,a.fdiv (2 ^ n)=a / 2 ^ n:=fun a n=>Int.fdiv_eq_ediv_of_nonneg _ (Int.le_of_lt (Int.pow_pos (by decide)))
      simp [eqGuard_at_int,binOp,Op.shift,hb,e]
  all_goals first
    | (split at h
       · split at h <;> simp_all [eqGuard_at_int,binOp,Op.intDiv]; done
       · cases h)
    | (split at h
       · rename_i hk; subst hk; cases h; simp [eqGuard_at_int,binOp,Op.intArith,Op.intBits,Op.intCmp,bits]; done
       · cases h)
    | (split at h
       · rename_i hk; subst hk; cases h
         simp only [eqGuard_at_int,binOp,Op.intCmp,Sem.run_bind,Sem.run_pure,Result.andThen_ok]
         simp only [ne_eq,not_true_eq_false,if_false,Sem.run_pure]
         first|rfl|(simp [bne]; rfl)|(congr 2; simp [bne])
       · cases h)
    | (cases h; simp [eqGuard_at_string,binOp,Op.stringOp,bytes_eq]; done)
    | (split at h
       · rename_i hk; cases h
         simp only [eqGuard_at_string,binOp,Op.stringOp,Sem.run_bind,Sem.run_pure,Result.andThen_ok]
         rw [if_neg (by simp; omega)]; rfl
       · cases h)
    | (cases h; done)
end Go.Proofs.Ytdbbnlafkndcnaa.Calc
namespace Go.Proofs.Ytdbbnlafkndcnaa.Calc
open Go
theorem add_plain (r o i:Nat):Addr.add ⟨r,o,none⟩ i=⟨r,o+i,none⟩:=by
 unfold Addr.add
 split
 ·subst_vars; rfl
 ·rfl
theorem run_loadCellsFrom {P:Program} {w:World} {r o:Nat} (l:List Value):∀ (i:Nat) (acc:Array Value),
  (∀ j v,l[j]?=some v→w.cell? ⟨r,o+i+j,none⟩=some v)→(loadCellsFrom ⟨r,o,none⟩ i l.length acc).run P w=.ok (acc ++ l.toArray) w:=by
 induction l with
 | nil=>intro i acc _; simp [loadCellsFrom]
 | cons v l ih =>
  intro i acc h
  simp only [List.length_cons,loadCellsFrom,Sem.run_bind,run_load,add_plain]
  have h0:=h 0 v (by simp)
  rw [Nat.add_zero] at h0
  rw [h0]
  simp only [Result.andThen_ok]
  rw [ih (i+1) (acc.push v) (fun j u hj=>by
   have:=h (j+1) u (by simpa using hj)
   rw [← this]; congr 2; omega)]
  simp
theorem run_loadCells {P:Program} {w:World} {r o:Nat} (l:List Value) (h:∀ j v,l[j]?=some v→w.cell? ⟨r,o+j,none⟩=some v) :
  (loadCells ⟨r,o,none⟩ l.length).run P w=.ok l.toArray w:=by
 unfold loadCells
 rw [run_loadCellsFrom l 0 #[] (by simpa using h)]
 simp
def splice (c:Array Value) (o:Nat):List Value→Array Value
 | []=>c
 | v :: vs=>splice (c.setIfInBounds o v) (o+1) vs
theorem splice_size (vs:List Value):∀ (c:Array Value) (o:Nat),(splice c o vs).size=c.size:=by
 induction vs with
 | nil=>intro c o; rfl
 | cons v vs ih=>intro c o; simp only [splice]; rw [ih]; simp
theorem splice_get (vs:List Value):∀ (c:Array Value) (o i:Nat),o+vs.length≤c.size →
  (splice c o vs)[i]?=if o≤i∧i < o+vs.length then vs[i - o]? else c[i]?:=by
 induction vs with
 | nil=>intro c o i _; simp only [splice,List.length_nil]; rw [if_neg (by omega)]
 | cons v vs ih =>
  intro c o i h
  simp only [splice,List.length_cons] at h ⊢
  rw [ih _ _ _ (by simp; omega)]
  by_cases h1:o+1≤i∧i < o+1+vs.length
  ·rw [if_pos h1,if_pos (by omega)]
   have:i - o=(i - (o+1))+1:=by omega
   rw [this]; rfl
  ·rw [if_neg h1,Array.getElem?_setIfInBounds]
   by_cases h2:o=i
   ·subst h2
    rw [if_pos rfl,if_pos (by omega),if_pos (by omega)]; simp
   ·rw [if_neg h2,if_neg (by omega)]
def World.row (w:World) (r:Nat) (o:Obj):World:={ w with heap:=w.heap.setIfInBounds r o }
@[simp] theorem World.row_size (w:World) (r:Nat) (o:Obj):(World.row w r o).heap.size=w.heap.size:=by simp [World.row]
theorem World.row_get (w:World) (r:Nat) (o:Obj) (h:r < w.heap.size):(World.row w r o).heap[r]?=some o:=by simp [World.row,h]
theorem World.row_other (w:World) (r:Nat) (o:Obj) (i:Nat) (h:i≠r):(World.row w r o).heap[i]?=w.heap[i]?:=by
 simp only [World.row,Array.getElem?_setIfInBounds]; rw [if_neg (fun e=>h e.symm)]
theorem run_store1 {P:Program} {w:World} {r i:Nat} {c:Array Value} {T:TypeId} {fz:Nat×Nat} {v:Value} (hb:w.heap[r]?=some (.cells c T fz))
  (hi:i < c.size) (hf:¬ (fz.1≤i∧i < fz.2)) (hv:scal v=true) :
  (store ⟨r,i,none⟩ v).run P w=.ok () (World.row w r (.cells (c.setIfInBounds i v) T fz)):=by
 have hc:w.cell? ⟨r,i,none⟩=some c[i]:=by simp [World.cell?,hb,hi]
 have hz:w.frozen? ⟨r,i,none⟩=false:=by
  simp only [World.frozen?,hb]
  simpa using hf
 have hs:w.setCell ⟨r,i,none⟩ v=World.row w r (.cells (c.setIfInBounds i v) T fz):=by
  unfold World.setCell World.row
  congr 1
  apply Array.ext_getElem?
  intro k
  rw [Array.getElem?_modify,Array.getElem?_setIfInBounds]
  by_cases hk:r=k
  ·subst hk
   have:=(Array.getElem?_eq_some_iff.1 hb).1
   rw [if_pos rfl,if_pos rfl,if_pos this,hb]
   simp
  ·rw [if_neg hk,if_neg hk]
 cases v <;> first|(simp [scal] at hv; done)|(simp only [store,Sem.run,hc,hz,hs]; rfl)
theorem run_storeCells {P:Program} {r o:Nat} {T:TypeId} {fz:Nat×Nat} (vs:List Value):∀ (i:Nat) (w:World) (c:Array Value),
  w.heap[r]?=some (.cells c T fz)→o+i+vs.length≤c.size→(∀ j,o+i≤j→j < o+i+vs.length→¬ (fz.1≤j∧j < fz.2))→(∀ v ∈ vs,scal v=true) →
  (storeCells ⟨r,o,none⟩ vs i).run P w=.ok () (World.row w r (.cells (splice c (o+i) vs) T fz)):=by
 induction vs with
 | nil =>
  intro i w c hb _ _ _
  simp only [storeCells,splice,Sem.run_pure]
  congr 1
  unfold World.row
  have:w.heap.setIfInBounds r (.cells c T fz)=w.heap:=by
   apply Array.ext_getElem?
   intro k
   rw [Array.getElem?_setIfInBounds]
   by_cases hk:r=k
   ·subst hk; rw [if_pos rfl,if_pos (Array.getElem?_eq_some_iff.1 hb).1,hb]
   ·rw [if_neg hk]
  rw [this]
 | cons v vs ih =>
  intro i w c hb hl hf hs
  simp only [List.length_cons] at hl hf
  have hlt:=(Array.getElem?_eq_some_iff.1 hb).1
  simp only [storeCells,Sem.run_bind,add_plain]
  rw [run_store1 hb (by omega) (hf _ (by omega) (by omega)) (hs v (by simp))]
  simp only [Result.andThen_ok]
  rw [ih (i+1) _ (c.setIfInBounds (o+i) v) (World.row_get _ _ _ hlt) (by simp; omega) (fun j h1 h2=>hf j (by omega) (by omega)) (fun u hu=>hs u (by simp [hu]))]
  simp only [World.row,splice]
  congr 2
  rw [Array.setIfInBounds_setIfInBounds,Nat.add_assoc]
inductive CK where
 | b
 | i (k:IntKind)
 | s
 deriving Inhabited
def eqC:CK→Value→Value→Option Bool
 | .b,.bool a,.bool b=>some (a == b)
 | .i k,.int k1 a,.int k2 b=>if k1=k∧k2=k then some (decide (a=b)) else none
 | .s,.string a,.string b=>some (decide (a=b))
 | _,_,_=>none
def eqLv:List CK→List Value→List Value→Option Bool
 | [],[],[]=>some true
 | k :: ks,x :: xs,y :: ys=>match eqC k x y,eqLv ks xs ys with
  | some a,some b=>some (a && b)
  | _,_=>none
 | _,_,_=>none
def plainL:List V→Option (List Value)
 | []=>some []
 | .c v :: r=>(plainL r).map (v :: ·)
 | _=>none
def plainA:V→Option (List Value)
 | .agg cs=>plainL cs
 | .c (.agg cs)=>some cs.toList
 | _=>none
def shpF (P:Program) (g:TypeId→Option (List CK)):List Field→Nat→Option (List CK)
 | [],_=>some []
 | f :: r,o=>match g f.type with
  | some l=>if f.name ≠ "_" ∧ f.offset=o∧P.cellsOf f.type=l.length∧0 < l.length then (shpF P g r (o+l.length)).map (l ++ ·) else none
  | none=>none
def shp (P:Program):Nat→TypeId→Option (List CK)
 | 0,_=>none
 | d+1,t=>match P.underlying t with
  | some .bool=>some [.b]
  | some (.int k)=>some [.i k]
  | some .string=>some [.s]
  | some (.array n e)=>match shp P d e with
   | some l=>if P.cellsOf e=l.length∧0 < l.length then some ((List.replicate n l).flatten) else none
   | none=>none
  | some (.struct fs)=>if P.stoodInHeld t=true then none else shpF P (shp P d) fs.toList 0
  | _=>none
inductive AOp where
 | mv (x:AO)
 | pick (c a b:AO)
 | nilc (x:AO)
 | bin (op:BinOp) (x y:AO)
 | eqb (ne:Bool) (x y:AO)
 | eqn (ne:Bool) (x:AO)
 | not (x:AO)
 | neg (x:AO)
 | xorn (x:AO)
 | cvt (k:IntKind) (x:AO)
 | new (esz:Nat) (x:AO)
 | zero (cells:List Value)
 | build (zero:List Value) (parts:List (Nat×Nat×AO))
 | bsl (zero:List Value) (len:Nat) (parts:List (Nat×AO))
 | ld (n:Option Nat) (a:AO)
 | st (n:Nat) (a v:AO)
 | mksl (zero:List Value) (bytes:Nat) (l c:AO)
 | slc (esz:Nat) (x:AO) (lo hi:Option AO)
 | fad (off:Nat) (x:AO)
 | idx (esz:Nat) (arr:Option Nat) (x i:AO)
 | fld (off:Nat) (n:Option Nat) (x:AO)
 | ixa (len esz:Nat) (n:Option Nat) (x i:AO)
 | ixs (x i:AO)
 | ext (x:AO) (i:Nat)
 | len (x:AO)
 | lens (x:AO)
 | lenc (n:Nat)
 | capx (x:AO)
 | copy (esz:Nat) (d s:AO)
 | app (esz bytes:Nat) (s x:AO)
 | mnx (mx:Bool) (xs:List AO)
 | mkf (f:FuncId) (caps:List AO)
 | mki (t:TypeId) (x:AO)
 | call (f:FuncId) (args:List AO)
 | callc (x:AO) (args:List AO)
 | inv (tab:List (TypeId×FuncId)) (x:AO) (args:List AO)
 | eqs (ks:List CK) (ne:Bool) (x y:AO)
 | i2s (x:AO)
 | s2b (x:AO)
 | slcs (x:AO) (lo hi:Option AO)
 | clr (zero:List Value) (x:AO)
 | eqp (ne:Bool) (x:AO)
 | appz (zero:List Value) (bytes:Nat) (s n:AO)
 | xcall (f:FuncId) (args:List AO)
 | bad
 deriving Inhabited
def vcells (bl:Nat→Option Blk):V→Option (List V)
 | .agg cs=>some cs
 | .c v=>if scal v then some [.c v] else none
 | .sl e r=>some [.sl e r]
 | .dp r k=>some [.dp r k]
 | .fn f cs=>some [.fn f cs]
 | .ifc t v=>some [.ifc t v]
 | .bit=>some [.bit]
 | .psl b ver o l=>match bl b with
  | some k=>if k.ver=ver then some [.psl b ver o l] else none
  | none=>none
 | .ptr b ver r k=>match bl b with
  | some B=>if B.ver=ver then some [.ptr b ver r k] else none
  | none=>none
 | _=>none
def vlook:V→List Nat
 | .psl b _ _ _=>[b]
 | .ptr b _ _ _=>[b]
 | _=>[]
def spl (l:List V) (o:Nat):List V→List V
 | []=>l
 | v :: vs=>spl (l.set o v) (o+1) vs
def ofInt:V→Option Int
 | .c (.int _ n)=>some n
 | _=>none
def rowsOf (bl:Nat→Option Blk):V→Option (Nat×List (List V))
 | .sl e r=>some (e,r)
 | .psl b ver off len=>match bl b with
  | some k=>if k.ver=ver then some (k.esz,(k.rows.drop off).take len) else none
  | none=>none
 | _=>none
def srcOf (bl:Nat→Option Blk) (esz:Nat):V→Option (Nat×List (List V))
 | .c (.slice none 0 0)=>some (esz,[])
 | v=>rowsOf bl v
abbrev Step:=Option (V×List (Nat×Blk)×List Blk×List Nat)
def pureS (x:Option V):Step:=x.map fun x=>(x,[],[],[])
def fillP (bl:Nat→Option Blk) (ev:AO→V) (cs:List V):List (Nat×Nat×AO)→Option (List V×List Nat)
 | []=>some (cs,[])
 | (off,size,x) :: rest=>match vcells bl (ev x) with
  | none=>none
  | some l=>if l.length=size∧off+size≤cs.length then (fillP bl ev (spl cs off l) rest).map fun (r,k)=>(r,vlook (ev x) ++ k) else none
def fillR (bl:Nat→Option Blk) (ev:AO→V) (esz:Nat) (rows:List (List V)):List (Nat×AO)→Option (List (List V)×List Nat)
 | []=>some (rows,[])
 | (i,x) :: rest=>match vcells bl (ev x) with
  | none=>none
  | some l=>if l.length=esz∧i < rows.length then (fillR bl ev esz (rows.set i l) rest).map fun (r,k)=>(r,vlook (ev x) ++ k) else none
def partL (n:Option Nat) (cs:List V) (off:Nat):Option V :=
 match n with
 | none=>cs[off]?
 | some n=>some (.agg ((cs.drop off).take n))
def mnxF (mx:Bool) (ev:AO→V) (acc:Option V) (y:AO):Option V :=
 match acc,ev y with
 | some (.c (.int k a)),.c (.int k' b)=>if k=k' then some (.c (.int k (if mx then (if b > a then b else a) else (if b < a then b else a)))) else none
 | _,_=>none
def stepA (op:AOp) (ev:AO→V) (bl:Nat→Option Blk) (c:Nat):Step :=
 match op with
 | .mv x=>pureS (some (ev x))
 | .pick c a b=>pureS (match ev c with
  | .c (.bool t)=>some (if t then ev a else ev b)
  | _=>none)
 | .nilc x=>match ev x with
  | .ptr b ver r k=>match bl b with
   | some B=>if B.ver=ver then some (.ptr b ver r k,[],[],[b]) else none
   | none=>none
  | .dp r k=>some (.dp r k,[],[],[])
  | .fn f cs=>some (.fn f cs,[],[],[])
  | .ifc t v=>some (.ifc t v,[],[],[])
  | _=>none
 | .bin op x y=>pureS (match ev x,ev y with
  | .c u,.c v=>(binV op u v).map .c
  | _,_=>none)
 | .eqb ne x y=>pureS (match ev x,ev y with
  | .c (.bool u),.c (.bool v)=>some (.c (.bool (xor ne (u == v))))
  | _,_=>none)
 | .eqn ne x=>match ev x with
  | .c (.slice none _ _)=>some (.c (.bool (!ne)),[],[],[])
  | .psl b ver _ len=>match bl b with
   | some B=>if B.ver=ver∧0 < len then some (.c (.bool ne),[],[],[b]) else none
   | none=>none
  | .sl _ rows=>if 0 < rows.length then some (.c (.bool ne),[],[],[]) else some (.bit,[],[],[])
  | _=>none
 | .not x=>pureS (match ev x with
  | .c (.bool b)=>some (.c (.bool (!b)))
  | _=>none)
 | .neg x=>pureS (match ev x with
  | .c (.int k n)=>some (.c (.int k (k.wrap (0 - n))))
  | _=>none)
 | .xorn x=>pureS (match ev x with
  | .c (.int k n)=>some (.c (.int k (bits .xor k (if k.signed then -1 else k.max) n)))
  | _=>none)
 | .cvt k x=>pureS (match ev x with
  | .c (.int _ n)=>some (.c (.int k (k.wrap n)))
  | _=>none)
 | .new esz x=>match vcells bl (ev x) with
  | some cs=>if cs.length=esz∧0 < esz then some (.ptr c 1 0 0,[],[⟨1,esz,[cs]⟩],vlook (ev x)) else none
  | none=>none
 | .zero cells=>if 0 < cells.length then some (.ptr c 1 0 0,[],[⟨1,cells.length,[cells.map .c]⟩],[]) else none
 | .build zero parts=>match fillP bl ev (zero.map .c) parts with
  | some (cs,r)=>some (.agg cs,[],[],r)
  | none=>none
 | .bsl zero len parts=>if 0 < zero.length∧len * zero.length≤2 ^ 24 then match fillR bl ev zero.length (List.replicate len (zero.map .c)) parts with
  | some (rows,r)=>some (.psl c 1 0 len,[],[⟨1,zero.length,rows⟩],r)
  | none=>none else none
 | .ld n a=>match ev a with
  | .ptr b ver r k=>match bl b with
   | some B=>if B.ver=ver then match B.rows[r]? with
    | some row=>match n with
     | none=>(row[k]?).map fun x=>(x,[],[],[b])
     | some n=>if k+n≤row.length then some (.agg ((row.drop k).take n),[],[],[b]) else none
    | none=>none else none
   | none=>none
  | .dp row k=>match n with
   | none=>(row[k]?).map fun x=>(x,[],[],[])
   | some n=>if k+n≤row.length then some (.agg ((row.drop k).take n),[],[],[]) else none
  | _=>none
 | .st n a v=>match ev a with
  | .ptr b ver r k=>match bl b,vcells bl (ev v) with
   | some B,some cs=>if B.ver=ver∧cs.length=n then match B.rows[r]? with
    | some row=>if k+n≤row.length then some (.any,[(b,{ B with rows:=B.rows.set r (spl row k cs) })],[],b :: vlook (ev v)) else none
    | none=>none else none
   | _,_=>none
  | _=>none
 | .mksl zero bytes l c'=>match ofInt (ev l),ofInt (ev c') with
  | some n,some m=>if 0 < zero.length∧0 < bytes∧0≤n∧n≤m∧bytes * m≤2 ^ 48 then
    some (.psl c 1 0 n.toNat,[],[⟨1,zero.length,List.replicate n.toNat (zero.map .c)⟩],[]) else none
  | _,_=>none
 | .slc esz x lo hi=>match ev x with
  | .psl b ver off len=>match bl b,(lo.map fun l=>ofInt (ev l)).getD (some 0),(hi.map fun l=>ofInt (ev l)).getD (some len) with
   | some B,some l,some h=>if B.ver=ver∧B.esz=esz∧0≤l∧l≤h∧h≤len then some (.psl b ver (off+l.toNat) (h.toNat - l.toNat),[],[],[b]) else none
   | _,_,_=>none
  | .sl e rows=>match (lo.map fun l=>ofInt (ev l)).getD (some 0),(hi.map fun l=>ofInt (ev l)).getD (some rows.length) with
   | some l,some h=>if e=esz∧0≤l∧l≤h∧h≤rows.length then some (.sl e ((rows.drop l.toNat).take (h.toNat - l.toNat)),[],[],[]) else none
   | _,_=>none
  | .c (.slice none 0 0)=>match (lo.map fun l=>ofInt (ev l)).getD (some 0),(hi.map fun l=>ofInt (ev l)).getD (some 0) with
   | some l,some h=>if l=0∧h=0 then some (.c (.slice none 0 0),[],[],[]) else none
   | _,_=>none
  | _=>none
 | .fad off x=>match ev x with
  | .ptr b ver r k=>match bl b with
   | some B=>if B.ver=ver then some (.ptr b ver r (k+off),[],[],[b]) else none
   | none=>none
  | .dp r k=>some (.dp r (k+off),[],[],[])
  | _=>none
 | .idx esz arr x i=>match ofInt (ev i),arr,ev x with
  | some n,none,.psl b ver off len=>match bl b with
   | some B=>if B.ver=ver∧B.esz=esz∧0≤n∧n < len then some (.ptr b ver (off+n.toNat) 0,[],[],[b]) else none
   | none=>none
  | some n,none,.sl e rows=>if e=esz∧0≤n then match rows[n.toNat]? with
   | some row=>some (.dp row 0,[],[],[])
   | none=>none else none
  | some n,some len,.ptr b ver r k=>match bl b with
   | some B=>if B.ver=ver∧0≤n∧n < len then some (.ptr b ver r (k+n.toNat * esz),[],[],[b]) else none
   | none=>none
  | some n,some len,.dp r k=>if 0≤n∧n < len then some (.dp r (k+n.toNat * esz),[],[],[]) else none
  | _,_,_=>none
 | .fld off n x=>pureS (match ev x with
  | .agg cs=>partL n cs off
  | _=>none)
 | .ixa len esz n x i=>pureS (match ofInt (ev i),ev x with
  | some j,.agg cs=>if 0≤j∧j < len then partL n cs (j.toNat * esz) else none
  | _,_=>none)
 | .ixs x i=>pureS (match ofInt (ev i),ev x with
  | some j,.c (.string s)=>if 0≤j then (s[j.toNat]?).map fun b=>.c (.int .u8 b.toNat) else none
  | _,_=>none)
 | .ext x i=>pureS (match ev x with
  | .tup vs=>vs[i]?
  | _=>none)
 | .len x=>match ev x with
  | .psl b ver _ len=>match bl b with
   | some B=>if B.ver=ver then some (.c (.int .i64 len),[],[],[b]) else none
   | none=>none
  | .sl _ rows=>some (.c (.int .i64 rows.length),[],[],[])
  | .c (.slice none 0 0)=>some (.c (.int .i64 0),[],[],[])
  | _=>none
 | .lens x=>pureS (match ev x with
  | .c (.string s)=>some (.c (.int .i64 s.size))
  | _=>none)
 | .lenc n=>some (.c (.int .i64 n),[],[],[])
 | .capx x=>match ev x with
  | .psl b ver _ _=>match bl b with
   | some B=>if B.ver=ver then some (.any,[],[],[b]) else none
   | none=>none
  | .sl _ _=>some (.any,[],[],[])
  | .c (.slice none 0 0)=>some (.c (.int .i64 0),[],[],[])
  | _=>none
 | .copy esz d s=>match ev d with
  | .psl b ver off len=>match bl b,rowsOf bl (ev s) with
   | some B,some (e,rows)=>if B.ver=ver∧B.esz=esz∧e=esz then
     some (.c (.int .i64 (min rows.length len:Nat)),[(b,{ B with rows:=B.rows.take off ++ rows.take len ++ B.rows.drop (off+min rows.length len) })],[],b :: vlook (ev s)) else none
   | some B,none=>match ev s with
    | .c (.slice none 0 0)=>if B.ver=ver then some (.c (.int .i64 0),[],[],[b]) else none
    | _=>none
   | _,_=>none
  | _=>none
 | .app esz bytes s x=>match srcOf bl esz (ev x) with
  | some (e,new)=>if e=esz∧0 < esz∧0 < bytes then match ev s with
   | .c (.slice none 0 0)=>if new.length=0 then some (.c (.slice none 0 0),[],[],vlook (ev x))
     else if bytes * (new.length+new.length / 4+1024)≤2 ^ 48 then some (.psl c 1 0 new.length,[],[⟨1,esz,new⟩],vlook (ev x)) else none
   | .psl b ver off len=>match bl b with
    | some B=>if B.ver=ver∧B.esz=esz∧off+len≤B.rows.length∧bytes * (len+new.length+(len+new.length) / 4+1024)≤2 ^ 48 then
      some (.psl b (ver+1) 0 (len+new.length),[(b,⟨ver+1,esz,(B.rows.drop off).take len ++ new⟩)],[],b :: vlook (ev x)) else none
    | none=>none
   | _=>none else none
  | none=>none
 | .mnx mx xs=>pureS (match xs with
  | []=>none
  | x :: rest=>rest.foldl (mnxF mx ev) (some (ev x)))
 | .mkf f caps=>some (.fn f (caps.map ev),[],[],[])
 | .mki t x=>some (.ifc t (ev x),[],[],[])
 | .eqs ks ne x y=>pureS (match plainA (ev x),plainA (ev y) with
  | some us,some vs=>(eqLv ks us vs).map fun b=>.c (.bool (xor ne b))
  | _,_=>none)
 | .i2s x=>pureS (match ev x with
  | .c (.int _ n)=>some (.c (.string (Utf8.encode n)))
  | _=>none)
 | .s2b x=>match ev x with
  | .c (.string s)=>some (.psl c 1 0 s.size,[],[⟨1,1,s.data.toList.map fun b=>[.c (.int .u8 b.toNat)]⟩],[])
  | _=>none
 | .slcs x lo hi=>pureS (match ev x with
  | .c (.string s)=>match (lo.map fun l=>ofInt (ev l)).getD (some 0),(hi.map fun l=>ofInt (ev l)).getD (some (s.size:Int)) with
   | some l,some h=>if 0≤l∧l≤h∧h≤s.size then some (.c (.string (s.extract l.toNat h.toNat))) else none
   | _,_=>none
  | _=>none)
 | .clr z x=>match ev x with
  | .psl b ver off len=>match bl b with
   | some B=>if B.ver=ver∧B.esz=z.length then some (.tup [],[(b,{ B with rows:=B.rows.take off ++ List.replicate len (z.map .c) ++ B.rows.drop (off+len) })],[],[b]) else none
   | none=>none
  | .c (.slice none 0 0)=>some (.tup [],[],[],[])
  | _=>none
 | .eqp ne x=>match ev x with
  | .ptr b ver _ _=>match bl b with
   | some B=>if B.ver=ver then some (.c (.bool ne),[],[],[b]) else none
   | none=>none
  | .dp _ _=>some (.c (.bool ne),[],[],[])
  | .c (.pointer none)=>some (.c (.bool (!ne)),[],[],[])
  | _=>none
 | .appz z bytes s n=>match ev s,ofInt (ev n) with
  | .c (.slice none 0 0),some m=>if 0 < z.length∧0 < bytes∧0 < m∧bytes * (m.toNat+m.toNat / 4+1024)≤2 ^ 48 then
    some (.psl c 1 0 m.toNat,[],[⟨1,z.length,List.replicate m.toNat (z.map .c)⟩],[]) else none
  | _,_=>none
 | .call _ _|.callc _ _|.inv _ _ _|.xcall _ _|.bad=>none
def aggOf (P:Program) (t:TypeId):Option (Option Nat) :=
 match P.underlying t,P.info? t with
 | some (.struct _),some i|some (.array _ _),some i=>some (some i.size)
 | some _,some _=>some none
 | _,_=>none
def zeroOf (P:Program) (t:TypeId):Option (List Value) :=
 match P.info? t with
 | some i=>match i.zero with
  | some z=>if z.cells.size=i.size && z.cells.all scal then some z.cells.toList else none
  | none=>none
 | none=>none
def szOf (P:Program) (t:TypeId):Option Nat:=(P.info? t).map (·.size)
def compL (l:List Operand):Option (List AO):=l.mapM compO
def compP (P:Program) (t:TypeId) (parts:List (Nat×Operand)):Option (List (Nat×Nat×AO)) :=
 match P.underlying t with
 | some (.struct fields)=>if fields.all (fun f=>(szOf P f.type).isSome) then parts.mapM fun (i,x)=>do
   let f ← fields[i]?
   let s ← szOf P f.type
   let y ← compO x
   pure (f.offset,s,y) else none
 | some (.array _ e)=>match szOf P e with
  | some s=>parts.mapM fun (i,x)=>do
   let y ← compO x
   pure (i * s,s,y)
  | none=>none
 | _=>none
def compOpt:Option Operand→Option (Option AO)
 | none=>some none
 | some x=>(compO x).map some
def enters (P:Program) (f:FuncId):Bool:=match P.funcs[f]? with
 | some fn=>fn.name != "runtime.NumGoroutine" && fn.body.isSome
 | none=>false
def methOf (P:Program) (t:TypeId) (name:String):Option FuncId :=
 match P.info? t with
 | some i=>match i.methods.find? (·.name == name) with
  | some m=>match m.path.toList,m.func,P.underlying t with
   | [],some (f,true),some (.pointer _)=>if enters P f then some f else none
   | _,_,_=>none
  | none=>none
 | none=>none
def methTab (P:Program) (name:String):List (TypeId×FuncId):=(List.range P.types.size).filterMap fun t=>(methOf P t name).map (t,·)
def lookT:List (TypeId×FuncId)→TypeId→Option FuncId
 | [],_=>none
 | (t,f) :: r,u=>if t=u then some f else lookT r u
def compEq (P:Program) (op:BinOp) (t:TypeId) (x y:AO):Option AOp :=
 if P.eqGuardType P.depth t=false then (match op with
  | .eql=>(shp P 20 t).map fun ks=>.eqs ks false x y
  | .neq=>(shp P 20 t).map fun ks=>.eqs ks true x y
  | _=>none) else none
def comp (P:Program) (o:Op):Option AOp :=
 match o with
 | .move x|.assign x=>(compO x).map .mv
 | .pick c a b=>do pure (.pick (← compO c) (← compO a) (← compO b))
 | .nilCheck x=>(compO x).map .nilc
 | .binOp op t x y _=>do
  let x' ← compO x
  let y' ← compO y
  match P.underlying t with
  | some (.int _)|some .string=>pure (.bin op x' y')
  | some .bool=>match op with
   | .eql=>pure (.eqb false x' y')
   | .neq=>pure (.eqb true x' y')
   | _=>none
  | some (.slice _)=>match op,y with
   | .eql,.const (.slice none 0 0)=>pure (.eqn false x')
   | .neq,.const (.slice none 0 0)=>pure (.eqn true x')
   | _,_=>none
  | some (.pointer _)=>match op,y with
   | .eql,.const (.pointer none)=>pure (.eqp false x')
   | .neq,.const (.pointer none)=>pure (.eqp true x')
   | _,_=>none
  | some (.struct _)=>compEq P op t x' y'
  | some (.array _ _)=>compEq P op t x' y'
  | _=>none
 | .unOp op _ x=>do
  let x' ← compO x
  match op with
  | .not=>pure (.not x')
  | .neg=>pure (.neg x')
  | .xor=>pure (.xorn x')
  | _=>none
 | .convert s t x=>do
  let x' ← compO x
  match P.underlying s,P.underlying t with
  | some (.int _),some (.int k)=>pure (.cvt k x')
  | some (.int _),some .string=>pure (.i2s x')
  | some .string,some (.slice e)=>match P.underlying e with
   | some (.int .u8)=>pure (.s2b x')
   | _=>none
  | _,_=>none
 | .box e x=>do pure (.new (← szOf P e) (← compO x))
 | .alloc e=>(zeroOf P e).map .zero
 | .build t parts=>do pure (.build (← zeroOf P t) (← compP P t parts.toList))
 | .buildSlice t len parts=>match P.underlying t with
  | some (.slice e)=>do
   let z ← zeroOf P e
   let ps ← parts.toList.mapM fun (i,x)=>do pure (i,← compO x)
   pure (.bsl z len ps)
  | _=>none
 | .load t a=>do pure (.ld (← aggOf P t) (← compO a))
 | .store t a v=>do pure (.st (← szOf P t) (← compO a) (← compO v))
 | .makeSlice t l c=>match P.underlying t with
  | some (.slice e)=>do
   let z ← zeroOf P e
   let i ← P.info? e
   pure (.mksl z i.bytes (← compO l) (← compO c))
  | _=>none
 | .slice t x lo hi none=>match P.underlying t with
  | some (.slice e)=>do pure (.slc (← szOf P e) (← compO x) (← compOpt lo) (← compOpt hi))
  | some .string=>do pure (.slcs (← compO x) (← compOpt lo) (← compOpt hi))
  | _=>none
 | .fieldAddr t x i=>match P.underlying t with
  | some (.struct fields)=>do
   let f ← fields[i]?
   let s ← szOf P f.type
   if s=0 then none else pure (.fad f.offset (← compO x))
  | _=>none
 | .indexAddr t x i=>match P.underlying t with
  | some (.slice e)=>do pure (.idx (← szOf P e) none (← compO x) (← compO i))
  | some (.array n e)=>do pure (.idx (← szOf P e) (some n) (← compO x) (← compO i))
  | _=>none
 | .field t x i=>match P.underlying t with
  | some (.struct fields)=>do
   let f ← fields[i]?
   pure (.fld f.offset (← aggOf P f.type) (← compO x))
  | _=>none
 | .index t x i=>match P.underlying t with
  | some (.array n e)=>do pure (.ixa n (← szOf P e) (← aggOf P e) (← compO x) (← compO i))
  | some .string=>do pure (.ixs (← compO x) (← compO i))
  | _=>none
 | .extract x i=>do pure (.ext (← compO x) i)
 | .makeFunc (.func f) first caps=>if first.size=0 then (compL caps.toList).map (.mkf f) else none
 | .makeInterface t x=>match P.underlying t with
  | some (.interface _)|none=>none
  | _=>do pure (.mki t (← compO x))
 | .call c=>match c.callee with
  | .value (.func f)=>if enters P f then (compL c.args.toList).map (.call f) else (compL c.args.toList).map (.xcall f)
  | .value x=>do pure (.callc (← compO x) (← compL c.args.toList))
  | .invoke r name=>do pure (.inv (methTab P name) (← compO r) (← compL c.args.toList))
  | .builtin b=>match b,c.argTypes.toList,c.args.toList with
   | .len,[t],[x]=>match P.underlying t with
    | some (.slice _)=>(compO x).map .len
    | some .string=>(compO x).map .lens
    | some (.array n _)=>some (.lenc n)
    | _=>none
   | .cap,[t],[x]=>match P.underlying t with
    | some (.slice _)=>(compO x).map .capx
    | _=>none
   | .copy,[t,_],[d,s]=>match P.underlying t with
    | some (.slice e)=>do pure (.copy (← szOf P e) (← compO d) (← compO s))
    | _=>none
   | .append,[t,u],[s,x]=>match P.underlying t,P.underlying u with
    | some (.slice e),some (.slice _)=>do
     let i ← P.info? e
     let _ ← zeroOf P e
     pure (.app i.size i.bytes (← compO s) (← compO x))
    | some (.slice e),some (.int _)=>do
     let i ← P.info? e
     let z ← zeroOf P e
     pure (.appz z i.bytes (← compO s) (← compO x))
    | _,_=>none
   | .clear,[t],[x]=>match P.underlying t with
    | some (.slice e)=>do pure (.clr (← zeroOf P e) (← compO x))
    | _=>none
   | .min,_,xs=>(compL xs).map (.mnx false)
   | .max,_,xs=>(compL xs).map (.mnx true)
   | _,_,_=>none
 | _=>none
end Go.Proofs.Ytdbbnlafkndcnaa.Calc
namespace Go.Proofs.Ytdbbnlafkndcnaa.Calc
open Go
variable {X:Nat→Prop}
def appU (h:List Blk):List (Nat×Blk)→List Blk
 | []=>h
 | (b,k) :: r=>appU (h.set b k) r
def appN (h:List Blk) (c:Nat):List Blk→List Blk
 | []=>h
 | k :: r=>appN (h.set c k) (c+1) r
def OkV (X:Nat→Prop) (P:Program) (w:World) (ι:List Place) (s:Sem Value) (x:V) (h':List Blk):Prop :=
 ∃ cv w' ι',s.run P w=.ok cv w'∧HRel X w' ι' h'∧Rel w' (OX X ι') ι' cv x∧Frm w (Own ι) w' (Own ι')∧Refs ι ι'
def Ok (X:Nat→Prop) (P:Program) (w:World) (ι:List Place) (s:Sem Next) (x:V) (h':List Blk):Prop :=
 ∃ nx cv w' ι',s.run P w=.ok nx w'∧(nx=.value cv∨(nx=.skip∧cv=undef))∧HRel X w' ι' h'∧Rel w' (OX X ι') ι' cv x∧Frm w (Own ι) w' (Own ι')∧Refs ι ι'
theorem OkV.ok {P:Program} {w:World} {ι:List Place} {s:Sem Value} {x:V} {h':List Blk} (h:OkV X P w ι s x h'):Ok X P w ι (do pure (.value (← s))) x h':=by
 obtain ⟨cv,w',ι',h1,h2⟩:=h
 exact ⟨.value cv,cv,w',ι',by simp [h1],.inl rfl,h2⟩
theorem OkV.same {P:Program} {w:World} {ι:List Place} {s:Sem Value} {x:V} {h:List Blk} (H:HRel X w ι h) {cv:Value} (hr:s.run P w=.ok cv w) (hx:Rel w (OX X ι) ι cv x):OkV X P w ι s x h :=
 ⟨cv,w,ι,hr,H,hx,Frm.refl _ _,Refs.refl _⟩
theorem HRel.at {w:World} {ι:List Place} {h:List Blk} (H:HRel X w ι h) {b:Nat} {k:Blk} (hb:h[b]?=some k):∃ p,ι[b]?=some p∧BRel w (OX X ι) ι p k:=by
 have hl:b < ι.length:=by rw [H.len]; exact (List.getElem?_eq_some_iff.1 hb).1
 exact ⟨ι[b],List.getElem?_eq_getElem hl,H.blk b _ k (List.getElem?_eq_getElem hl) hb⟩
theorem mk_block {w:World} {ι:List Place} {h:List Blk} (H:HRel X w ι h) {c:Nat} (hnew:∃ k,h[c]?=some k∧k.ver=0) (T:TypeId) (cs:Array Value) (rows:List (List V)) (esz cap:Nat)
  (h3:0 < esz) (hn:rows.length≤cap) (hrows:∀ row ∈ rows,row.length=esz) (hsz:cap * esz≤cs.size)
  (hcells:∀ i j x,cellOf rows i j=some x→∃ v,cs[i * esz+j]?=some v∧scal v=true∧Rel w (OX X ι) ι v x) :
  ∃ ι':List Place,HRel X (w.alloc (.cells cs T)) ι' (h.set c ⟨1,esz,rows⟩)∧Frm w (Own ι) (w.alloc (.cells cs T)) (Own ι')∧Refs ι ι'∧ι'[c]?=some ⟨w.heap.size,0,esz,rows.length,cap,1,true⟩:=by
 obtain ⟨k,hk,hv⟩:=hnew
 obtain ⟨p,hp,B⟩:=H.at hk
 have hlt:=(List.getElem?_eq_some_iff.1 hp).1
 have:=H.set (w':=w.alloc (.cells cs T)) hp ⟨w.heap.size,0,esz,rows.length,cap,1,true⟩ ⟨1,esz,rows⟩
  (by simp) (fun r hr _=>by simp only [World.alloc,Array.getElem?_push]; rw [if_neg (by omega)]) rfl rfl rfl
  (fun _=>.inr (Nat.le_refl _)) (.inr (by show p.ver < 1; rw [← B.ver,hv]; decide)) rfl rfl h3 rfl hn hrows
  (fun _=>⟨cs,T,(0,0),by show (w.heap.push _)[w.heap.size]?=_; simp,by simpa using hsz,fun j _ _=>by simp,fun i j x hx=>by
   obtain ⟨v,h1,h2⟩:=hcells i j x hx
   exact ⟨v,by simpa using h1,h2⟩⟩) (by simp)
 exact ⟨_,this.1,this.2.1,this.2.2,by rw [List.getElem?_set,if_pos rfl,if_pos hlt]⟩
theorem vcells_rel {w:World} {ι:List Place} {h:List Blk} (H:HRel X w ι h) {bl:Nat→Option Blk} {v:Value} {x:V} {l:List V} (hx:Rel w (OX X ι) ι v x) (hl:vcells bl x=some l)
  (hbl:∀ b ∈ vlook x,bl b=h[b]?) :
  v.cells.size=l.length∧(∀ (i:Nat) (c:Value),v.cells[i]?=some c→scal c=true)∧(∀ (i:Nat) (c:Value) (y:V),v.cells[i]?=some c→l[i]?=some y→Rel w (OX X ι) ι c y):=by
 have single:∀ {v:Value} {y:V},scal v=true→Rel w (OX X ι) ι v y→some [y]=some l →
   v.cells.size=l.length∧(∀ (i:Nat) (c:Value),v.cells[i]?=some c→scal c=true)∧(∀ (i:Nat) (c:Value) (z:V),v.cells[i]?=some c→l[i]?=some z→Rel w (OX X ι) ι c z):=by
  intro v y hs hy he
  cases he
  have e:v.cells=#[v]:=by cases v <;> first|rfl|(simp [scal] at hs)
  rw [e]
  refine ⟨rfl,fun i c hc=>?_,fun i c z hc hz=>?_⟩
  ·cases i with
   | zero=>simp at hc; rw [← hc]; exact hs
   | succ i=>simp at hc
  ·cases i with
   | zero=>simp at hc hz; rw [← hc,← hz]; exact hy
   | succ i=>simp at hc
 cases x with
 | any=>simp [vcells] at hl
 | tup vs=>simp [vcells] at hl
 | agg cs =>
  simp only [vcells,Option.some.injEq] at hl; subst hl
  cases hx with
  | agg h1 h2 h3=>exact ⟨h1,h2,h3⟩
 | c u =>
  simp only [vcells] at hl
  by_cases hs:scal u=true
  ·rw [if_pos hs] at hl
   cases hx
   exact single hs .c hl
  ·rw [if_neg hs] at hl; cases hl
 | sl e r =>
  simp only [vcells] at hl
  refine single ?_ hx hl
  cases hx <;> rfl
 | dp r k =>
  simp only [vcells] at hl
  refine single ?_ hx hl
  cases hx <;> rfl
 | fn f cs =>
  simp only [vcells] at hl
  refine single ?_ hx hl
  cases hx <;> rfl
 | ifc t v =>
  simp only [vcells] at hl
  refine single ?_ hx hl
  cases hx <;> rfl
 | bit =>
  simp only [vcells] at hl
  refine single ?_ hx hl
  cases hx <;> rfl
 | psl b ver off len =>
  simp only [vcells] at hl
  have hb:=hbl b (by simp [vlook])
  rw [hb] at hl
  cases hk:h[b]? with
  | none=>rw [hk] at hl; cases hl
  | some k =>
   rw [hk] at hl
   dsimp only at hl
   by_cases hv:k.ver=ver
   ·rw [if_pos hv] at hl
    refine single ?_ hx hl
    cases hx with
    | psl p hp hle hP =>
     obtain ⟨a,cap,rfl,_⟩:=hP (by rw [← hv]; exact (H.blk b p k hp hk).ver)
     rfl
   ·rw [if_neg hv] at hl; cases hl
 | ptr b ver r q =>
  simp only [vcells] at hl
  have hb:=hbl b (by simp [vlook])
  rw [hb] at hl
  cases hk:h[b]? with
  | none=>rw [hk] at hl; cases hl
  | some k =>
   rw [hk] at hl
   dsimp only at hl
   by_cases hv:k.ver=ver
   ·rw [if_pos hv] at hl
    refine single ?_ hx hl
    cases hx with
    | ptr p hp hle hP =>
     obtain ⟨_,rfl⟩:=hP (by rw [← hv]; exact (H.blk b p k hp hk).ver)
     rfl
   ·rw [if_neg hv] at hl; cases hl
theorem ptr_at {w:World} {ι:List Place} {h:List Blk} (H:HRel X w ι h) {b ver r k:Nat} {v:Value} {B:Blk} (hx:Rel w (OX X ι) ι v (.ptr b ver r k)) (hb:h[b]?=some B) (hv:B.ver=ver) :
  ∃ p,ι[b]?=some p∧p.ver=ver∧p.real=true∧v=.pointer (some ⟨p.row,p.off+r * p.esz+k,none⟩)∧BRel w (OX X ι) ι p B:=by
 cases hx with
 | ptr p hp hle hP =>
  have B':=H.blk b p B hp hb
  have e:ver=p.ver:=by rw [← hv]; exact B'.ver
  obtain ⟨h1,h2⟩:=hP e
  exact ⟨p,hp,e.symm,h1,h2,B'⟩
theorem psl_at {w:World} {ι:List Place} {h:List Blk} (H:HRel X w ι h) {b ver off len:Nat} {v:Value} {B:Blk} (hx:Rel w (OX X ι) ι v (.psl b ver off len)) (hb:h[b]?=some B) (hv:B.ver=ver) :
  ∃ p,ι[b]?=some p∧p.ver=ver∧PslRel p off len v∧BRel w (OX X ι) ι p B:=by
 cases hx with
 | psl p hp hle hP =>
  have B':=H.blk b p B hp hb
  have e:ver=p.ver:=by rw [← hv]; exact B'.ver
  exact ⟨p,hp,e.symm,hP e,B'⟩
theorem run_sizeOf {P:Program} {t:TypeId} {s:Nat} (h:szOf P t=some s) (w:World):(sizeOf t).run P w=.ok s w:=by
 unfold szOf at h
 obtain ⟨i,h1,h2⟩:=Option.map_eq_some_iff.1 h
 simp [sizeOf,typeInfo,h1,h2]
theorem run_isAgg {P:Program} {t:TypeId} {n:Option Nat} (h:aggOf P t=some n) (w:World) :
  (isAgg t).run P w=.ok n.isSome w∧(∀ m,n=some m→(sizeOf t).run P w=.ok m w):=by
 unfold aggOf at h
 split at h
 ·rename_i hu hi; cases h
  exact ⟨by simp [isAgg,run_underlying hu],fun m hm=>by cases hm; simp [sizeOf,typeInfo,hi]⟩
 ·rename_i hu hi; cases h
  exact ⟨by simp [isAgg,run_underlying hu],fun m hm=>by cases hm; simp [sizeOf,typeInfo,hi]⟩
 ·rename_i d i h1 h2 hu hi
  cases h
  refine ⟨?_,fun m hm=>by cases hm⟩
  simp only [isAgg,Sem.run_bind,run_underlying hu,Result.andThen_ok]
  cases d <;> first|rfl|(exfalso; first|exact h1 _ rfl|exact h2 _ _ rfl|exact h1 _ _ rfl|(apply h1; rfl)|(apply h2; rfl))
 ·cases h
theorem run_zeroValue {P:Program} {t:TypeId} {z:List Value} (h:zeroOf P t=some z) (w:World) :
  ∃ v,(zeroValue t).run P w=.ok v w∧v.cells=z.toArray∧z.all scal=true∧szOf P t=some z.length:=by
 unfold zeroOf at h
 cases hi:P.info? t with
 | none=>rw [hi] at h; cases h
 | some i =>
  rw [hi] at h
  dsimp only at h
  cases hz:i.zero with
  | none=>rw [hz] at h; cases h
  | some v =>
   rw [hz] at h
   dsimp only at h
   split at h
   ·rename_i hc
    rw [Bool.and_eq_true] at hc
    cases h
    refine ⟨v,by simp [zeroValue,typeInfo,hi,hz],by simp,by simpa using hc.2,?_⟩
    have:=of_decide_eq_true hc.1
    simp [szOf,hi,this]
   ·cases h
end Go.Proofs.Ytdbbnlafkndcnaa.Calc
namespace Go.Proofs.Ytdbbnlafkndcnaa.Calc
open Go
variable {X:Nat→Prop}
theorem range_some {n i k:Nat} (h:(List.range n)[i]?=some k):i < n∧i=k:=by
 have h1:=(List.getElem?_eq_some_iff.1 h).1
 simp at h1
 rw [List.getElem?_range h1] at h
 cases h; exact ⟨h1,rfl⟩
section
variable {P:Program} {w:World} {ι:List Place} {h:List Blk} {ev:AO→V} {bl:Nat→Option Blk} {c:Nat} {x:V} {ups:List (Nat×Blk)} {news:List Blk} {R:List Nat}
theorem cellOf_one (cs:List V) (i j:Nat) (x:V) (h:cellOf [cs] i j=some x):i=0∧cs[j]?=some x:=by
 unfold cellOf at h
 cases i with
 | zero=>simpa using h
 | succ i=>simp at h
theorem run_box (e:TypeId) (v:Value):(Instr.box e v).run P w=.ok (.pointer (some ⟨w.heap.size,0,none⟩)) (w.alloc (.cells v.cells e)):=by
 simp [Instr.box,newVar,newRow]
theorem box_ok (H:HRel X w ι h) (e:TypeId) {v:Value} {cs:List V} {esz:Nat} (hsz:v.cells.size=cs.length) (hsc:∀ (i:Nat) (c:Value),v.cells[i]?=some c→scal c=true)
  (hr:∀ (i:Nat) (c:Value) (y:V),v.cells[i]?=some c→cs[i]?=some y→Rel w (OX X ι) ι c y) (hl:cs.length=esz) (h0:0 < esz) (hnew:∃ k,h[c]?=some k∧k.ver=0) :
  OkV X P w ι (Instr.box e v) (.ptr c 1 0 0) (h.set c ⟨1,esz,[cs]⟩):=by
 obtain ⟨ι',h1,h2,h3,h4⟩:=mk_block H hnew e v.cells [cs] esz 1 h0 (by simp) (by simp [hl]) (by omega) (fun i j x hx=>by
  obtain ⟨rfl,hj⟩:=cellOf_one _ _ _ _ hx
  have hjl:j < v.cells.size:=by rw [hsz]; exact (List.getElem?_eq_some_iff.1 hj).1
  refine ⟨v.cells[j],by simp [hjl],hsc j _ (by simp [hjl]),hr j _ x (by simp [hjl]) hj⟩)
 exact ⟨_,_,ι',run_box e v,h1,.ptr _ h4 (Nat.le_refl _) (fun _=>⟨rfl,by simp⟩),h2,h3⟩
theorem st_new (H:HRel X w ι h) (e:TypeId) {v:Value} {esz:Nat} {xo:AO} (hx:Rel w (OX X ι) ι v (ev xo))
  (hst:stepA (.new esz xo) ev bl c=some (x,ups,news,R)) (hbl:∀ b ∈ R,bl b=h[b]?) (hnew:∀ i,i < news.length→∃ k,h[c+i]?=some k∧k.ver=0) :
  OkV X P w ι (Instr.box e v) x (appN (appU h ups) c news):=by
 simp only [stepA] at hst
 split at hst
 ·rename_i cs hcs
  split at hst
  ·rename_i hl
   cases hst
   obtain ⟨h1,h2,h3⟩:=vcells_rel H hx hcs hbl
   exact box_ok H e h1 h2 h3 hl.1 hl.2 (by simpa using hnew 0 (by simp))
  ·cases hst
 ·cases hst
theorem st_zero (H:HRel X w ι h) (e:TypeId) {cells:List Value} (hz:zeroOf P e=some cells)
  (hst:stepA (.zero cells) ev bl c=some (x,ups,news,R)) (hnew:∀ i,i < news.length→∃ k,h[c+i]?=some k∧k.ver=0) :
  OkV X P w ι (Instr.alloc e true (.tuple #[])) x (appN (appU h ups) c news):=by
 simp only [stepA] at hst
 split at hst
 ·rename_i hl
  cases hst
  obtain ⟨v,h1,h2,h3,_⟩:=run_zeroValue hz w
  have hb:=box_ok (P:=P) H e (v:=v) (cs:=cells.map .c) (esz:=cells.length) (c:=c) (by rw [h2]; simp)
   (fun i u hu=>by
    rw [h2] at hu
    simp only [List.getElem?_toArray] at hu
    exact (List.all_eq_true.1 h3) u (List.mem_of_getElem? hu))
   (fun i u y hu hy=>by
    rw [h2] at hu
    simp only [List.getElem?_toArray] at hu
    rw [List.getElem?_map,hu] at hy
    cases hy; exact .c) (by simp) hl (by simpa using hnew 0 (by simp))
  obtain ⟨cv,w',ι',g1,g2⟩:=hb
  refine ⟨cv,w',ι',?_,g2⟩
  rw [← g1]
  simp [Instr.alloc,Instr.box,h1]
 ·cases hst
theorem load_at {r k:Nat} {p:Place} {B:Blk} (hB:BRel w (OX X ι) ι p B) (hreal:p.real=true) {row:List V} (hr:B.rows[r]?=some row) :
  ∃ l:List Value,l.length=row.length - k∧(∀ j v,l[j]?=some v→w.cell? ⟨p.row,p.off+r * p.esz+k+j,none⟩=some v) ∧
   (∀ (j:Nat) (v:Value) (y:V),l[j]?=some v→row[k+j]?=some y→scal v=true∧Rel w (OX X ι) ι v y):=by
 obtain ⟨cs,T,fz,g1,g2,g3,g4⟩:=hB.cells hreal
 have hrow:∀ j y,row[j]?=some y→∃ v,cs[p.off+r * p.esz+j]?=some v∧scal v=true∧Rel w (OX X ι) ι v y:=fun j y hy=>g4 r j y (by simp [cellOf,hr,hy])
 have hlen:row.length=p.esz:=hB.rows row (List.mem_of_getElem? hr)
 have hrl:r < p.n:=by rw [← hB.num]; exact (List.getElem?_eq_some_iff.1 hr).1
 have hin:p.off+r * p.esz+p.esz≤cs.size:=by
  have h1:(r+1) * p.esz≤p.cap * p.esz:=Nat.mul_le_mul_right _ (by have:=hB.fit; omega)
  rw [Nat.add_mul,Nat.one_mul] at h1
  omega
 refine ⟨(List.range (row.length - k)).map fun j=>(cs[p.off+r * p.esz+k+j]?).getD undef,by simp,?_,?_⟩
 ·intro j v hj
  simp only [List.getElem?_map,Option.map_eq_some_iff] at hj
  obtain ⟨j',hj',rfl⟩:=hj
  obtain ⟨hj1,rfl⟩:=range_some hj'
  have hlt:p.off+r * p.esz+k+j < cs.size:=by omega
  simp [World.cell?,g1,hlt]
 ·intro j v y hj hy
  simp only [List.getElem?_map,Option.map_eq_some_iff] at hj
  obtain ⟨j',hj',rfl⟩:=hj
  obtain ⟨hj1,rfl⟩:=range_some hj'
  obtain ⟨v,e1,e2,e3⟩:=hrow _ _ hy
  rw [← Nat.add_assoc] at e1
  rw [e1]
  exact ⟨e2,e3⟩
theorem agg_of (l:List Value) (ys:List V) (hl:l.length=ys.length) (h:∀ (j:Nat) (v:Value) (y:V),l[j]?=some v→ys[j]?=some y→scal v=true∧Rel w (OX X ι) ι v y) :
  Rel w (OX X ι) ι (.agg l.toArray) (.agg ys):=by
 have hy:∀ (i:Nat) (v:Value),l[i]?=some v→∃ y,ys[i]?=some y:=fun i v hv=>by
  have:=(List.getElem?_eq_some_iff.1 hv).1
  exact ⟨ys[i],List.getElem?_eq_getElem (by omega)⟩
 refine .agg (by simpa using hl) (fun i v hv=>?_) (fun i v y hv hy=>?_)
 ·simp only [List.getElem?_toArray] at hv
  obtain ⟨y,hy⟩:=hy i v hv
  exact (h i v y hv hy).1
 ·simp only [List.getElem?_toArray] at hv
  exact (h i v y hv hy).2
theorem run_loadAt {t:TypeId} {n:Option Nat} (ht:aggOf P t=some n) {r o:Nat} (l:List Value) (hl:l.length=n.getD 1)
  (h:∀ j v,l[j]?=some v→w.cell? ⟨r,o+j,none⟩=some v) :
  (Instr.loadAt t (.pointer (some ⟨r,o,none⟩))).run P w=.ok (match n with|some _=>.agg l.toArray|none=>(l[0]?).getD undef) w:=by
 obtain ⟨h1,h2⟩:=run_isAgg ht w
 cases n with
 | some n =>
  simp only [Option.getD_some] at hl
  simp only [Instr.loadAt,Instr.sureAddr,loadVar,Sem.run_bind,Sem.run_pure,Result.andThen_ok,h1,Option.isSome_some,if_true,h2 n rfl]
  rw [← hl,run_loadCells l h]; rfl
 | none =>
  simp only [Option.getD_none] at hl
  obtain ⟨v,rfl⟩:∃ v,l=[v]:=List.length_eq_one_iff.1 hl
  have h0:=h 0 v (by simp)
  rw [Nat.add_zero] at h0
  simp [Instr.loadAt,Instr.sureAddr,loadVar,h1,h0]
theorem st_ld_same (H:HRel X w ι h) {t:TypeId} {n:Option Nat} (ht:aggOf P t=some n) {v:Value} {xo:AO} (hx:Rel w (OX X ι) ι v (ev xo))
  (hst:stepA (.ld n xo) ev bl c=some (x,ups,news,R)) (hbl:∀ b ∈ R,bl b=h[b]?) :
  (∃ cv,(Instr.loadAt t v).run P w=.ok cv w∧Rel w (OX X ι) ι cv x)∧ups=[]∧news=[]:=by
 simp only [stepA] at hst
 split at hst
 ·rename_i b ver r k e
  rw [e] at hx
  split at hst
  ·rename_i B hB
   split at hst
   ·rename_i hver
    split at hst
    ·rename_i row hrow
     have fin:∀ (_:bl b=h[b]?),∃ p:Place,v=.pointer (some ⟨p.row,p.off+r * p.esz+k,none⟩)∧∃ l:List Value,l.length=row.length - k∧(∀ j v,l[j]?=some v→w.cell? ⟨p.row,p.off+r * p.esz+k+j,none⟩=some v) ∧
       (∀ (j:Nat) (v:Value) (y:V),l[j]?=some v→row[k+j]?=some y→scal v=true∧Rel w (OX X ι) ι v y):=by
      intro hb
      rw [hB] at hb
      obtain ⟨p,hp,_,hreal,rfl,hBR⟩:=ptr_at H hx hb.symm hver
      exact ⟨p,rfl,load_at hBR hreal hrow⟩
     cases n with
     | none =>
      obtain ⟨y,hy,hst⟩:=Option.map_eq_some_iff.1 hst
      cases hst
      obtain ⟨p,rfl,l,hl,hc,hr⟩:=fin (hbl b (by simp))
      have hk:=(List.getElem?_eq_some_iff.1 hy).1
      obtain ⟨u,l',rfl⟩:∃ u l',l=u :: l':=by
       cases l with
       | nil=>simp at hl; omega
       | cons u l'=>exact ⟨u,l',rfl⟩
      refine ⟨⟨_,run_loadAt ht [u] rfl (fun j v hj=>hc j v ?_),(hr 0 u _ (by simp) (by simpa using hy)).2⟩,rfl,rfl⟩
      cases j with
      | zero=>simpa using hj
      | succ j=>simp at hj
     | some n =>
      dsimp only at hst
      split at hst
      ·rename_i hk
       cases hst
       obtain ⟨p,rfl,l,hl,hc,hr⟩:=fin (hbl b (by simp))
       have hlt:(l.take n).length=n:=by rw [List.length_take]; omega
       refine ⟨⟨_,run_loadAt ht (l.take n) (by simpa using hlt) (fun j v hj=>hc j v ?_),agg_of _ _ ?_ (fun j v y hv hy=>?_)⟩,rfl,rfl⟩
       ·rw [List.getElem?_take] at hj; split at hj
        ·exact hj
        ·cases hj
       ·rw [hlt,List.length_take,List.length_drop]; omega
       ·rw [List.getElem?_take] at hv hy
        split at hv
        ·rename_i hjn
         rw [if_pos hjn,List.getElem?_drop] at hy
         exact hr j v y hv hy
        ·cases hv
      ·cases hst
    ·cases hst
   ·cases hst
  ·cases hst
 ·rename_i row k e
  rw [e] at hx
  cases hx with
  | @dp _ _ _ blk base cv hc hr =>
   have fin:∀ j y,row[k+j]?=some y→w.cell? ⟨blk,base+k+j,none⟩=some (cv (k+j))∧scal (cv (k+j))=true∧Rel w (OX X ι) ι (cv (k+j)) y:=by
    intro j y hy
    obtain ⟨_,h2,h3⟩:=hc _ _ hy
    exact ⟨by rw [← h2,Nat.add_assoc],h3,(hr _ _ hy).shrink (fun _ h=>h) (Refs.nil _)⟩
   cases n with
   | none =>
    obtain ⟨y,hy,hst⟩:=Option.map_eq_some_iff.1 hst
    cases hst
    obtain ⟨g1,g2,g3⟩:=fin 0 _ (by simpa using hy)
    refine ⟨⟨_,run_loadAt ht [cv (k+0)] rfl (fun j v hj=>?_),g3⟩,rfl,rfl⟩
    cases j with
    | zero=>simp at hj; rw [← hj]; exact g1
    | succ j=>simp at hj
   | some n =>
    dsimp only at hst
    split at hst
    ·rename_i hk
     cases hst
     refine ⟨⟨_,run_loadAt ht ((List.range n).map fun j=>cv (k+j)) (by simp) (fun j v hj=>?_),agg_of _ _ ?_ (fun j v y hv hy=>?_)⟩,rfl,rfl⟩
     ·simp only [List.getElem?_map,Option.map_eq_some_iff] at hj
      obtain ⟨j',hj',rfl⟩:=hj
      obtain ⟨h1,rfl⟩:=range_some hj'
      exact (fin j _ (List.getElem?_eq_getElem (by omega))).1
     ·simp; omega
     ·simp only [List.getElem?_map,Option.map_eq_some_iff] at hv
      obtain ⟨j',hj',rfl⟩:=hv
      obtain ⟨h1,rfl⟩:=range_some hj'
      rw [List.getElem?_take,if_pos h1,List.getElem?_drop] at hy
      exact (fin j _ hy).2
    ·cases hst
 ·cases hst
theorem st_ld (H:HRel X w ι h) {t:TypeId} {n:Option Nat} (ht:aggOf P t=some n) {v:Value} {xo:AO} (hx:Rel w (OX X ι) ι v (ev xo))
  (hst:stepA (.ld n xo) ev bl c=some (x,ups,news,R)) (hbl:∀ b ∈ R,bl b=h[b]?) :
  OkV X P w ι (Instr.loadAt t v) x (appN (appU h ups) c news):=by
 obtain ⟨⟨cv,h1,h2⟩,rfl,rfl⟩:=st_ld_same H ht hx hst hbl
 exact OkV.same H h1 h2
end
end Go.Proofs.Ytdbbnlafkndcnaa.Calc
namespace Go.Proofs.Ytdbbnlafkndcnaa.Calc
open Go
variable {X:Nat→Prop}
theorem spl_length (vs:List V):∀ (l:List V) (o:Nat),(spl l o vs).length=l.length:=by
 induction vs with
 | nil=>intro l o; rfl
 | cons v vs ih=>intro l o; simp only [spl]; rw [ih]; simp
theorem spl_get (vs:List V):∀ (l:List V) (o i:Nat),o+vs.length≤l.length →
  (spl l o vs)[i]?=if o≤i∧i < o+vs.length then vs[i - o]? else l[i]?:=by
 induction vs with
 | nil=>intro l o i _; simp only [spl,List.length_nil]; rw [if_neg (by omega)]
 | cons v vs ih =>
  intro l o i h
  simp only [spl,List.length_cons] at h ⊢
  rw [ih _ _ _ (by simp; omega)]
  by_cases h1:o+1≤i∧i < o+1+vs.length
  ·rw [if_pos h1,if_pos (by omega)]
   have:i - o=(i - (o+1))+1:=by omega
   rw [this]; rfl
  ·rw [if_neg h1,List.getElem?_set]
   by_cases h2:o=i
   ·subst h2
    rw [if_pos rfl,if_pos (by omega),if_pos (by omega)]; simp
   ·rw [if_neg h2,if_neg (by omega)]
theorem cellOf_set (rows:List (List V)) (r:Nat) (row:List V) (i j:Nat) (x:V) (h:cellOf (rows.set r row) i j=some x) :
  (i=r∧row[j]?=some x)∨(i≠r∧cellOf rows i j=some x):=by
 unfold cellOf at *
 rw [List.getElem?_set] at h
 by_cases hr:r=i
 ·subst hr
  rw [if_pos rfl] at h
  split at h
  ·exact .inl ⟨rfl,by simpa using h⟩
  ·simp at h
 ·rw [if_neg hr] at h
  exact .inr ⟨fun e=>hr e.symm,h⟩
theorem row_apart {i r e j k n:Nat} (hj:j < e) (hk:k+n≤e) (h:i≠r):¬ (r * e+k≤i * e+j∧i * e+j < r * e+k+n):=by
 rintro ⟨h1,h2⟩
 rcases Nat.lt_or_ge i r with h3|h3
 ·have:(i+1) * e≤r * e:=Nat.mul_le_mul_right _ h3
  rw [Nat.add_mul,Nat.one_mul] at this; omega
 ·have:(r+1) * e≤i * e:=Nat.mul_le_mul_right _ (by omega)
  rw [Nat.add_mul,Nat.one_mul] at this; omega
section
variable {P:Program} {w:World} {ι:List Place} {h:List Blk} {ev:AO→V} {bl:Nat→Option Blk} {c:Nat} {x:V} {ups:List (Nat×Blk)} {news:List Blk} {R:List Nat}
theorem write_row (H:HRel X w ι h) {b r k:Nat} {p:Place} {B:Blk} (hp:ι[b]?=some p) (hB:BRel w (OX X ι) ι p B) (hreal:p.real=true) {row:List V} (hr:B.rows[r]?=some row)
  (vs:List Value) (cs:List V) (hl:vs.length=cs.length) (hs:∀ v ∈ vs,scal v=true) (hrel:∀ (i:Nat) (v:Value) (y:V),vs[i]?=some v→cs[i]?=some y→Rel w (OX X ι) ι v y)
  (hk:k+cs.length≤row.length) :
  ∃ w' ι',(storeCells ⟨p.row,p.off+r * p.esz+k,none⟩ vs).run P w=.ok () w'∧HRel X w' ι' (h.set b { B with rows:=B.rows.set r (spl row k cs) })∧Frm w (Own ι) w' (Own ι')∧Refs ι ι':=by
 obtain ⟨c,T,fz,g1,g2,g3,g4⟩:=hB.cells hreal
 have hlen:row.length=p.esz:=hB.rows row (List.mem_of_getElem? hr)
 have hrl:r < p.n:=by rw [← hB.num]; exact (List.getElem?_eq_some_iff.1 hr).1
 have hin:r * p.esz+p.esz≤p.cap * p.esz:=by
  have h1:(r+1) * p.esz≤p.cap * p.esz:=Nat.mul_le_mul_right _ (by have:=hB.fit; omega)
  rw [Nat.add_mul,Nat.one_mul] at h1
  omega
 have hrun:=run_storeCells (P:=P) (r:=p.row) (o:=p.off+r * p.esz+k) (T:=T) (fz:=fz) vs 0 w c g1 (by omega) (fun j h1 h2=>g3 j (by omega) (by omega)) hs
 rw [Nat.add_zero] at hrun
 have hlt:=(Array.getElem?_eq_some_iff.1 g1).1
 have:=H.set (w':=World.row w p.row (.cells (splice c (p.off+r * p.esz+k) vs) T fz)) hp p { B with rows:=B.rows.set r (spl row k cs) }
  (by simp) (fun i hi hne=>World.row_other _ _ _ _ (hne hreal)) rfl rfl rfl (fun _=>.inl ⟨hreal,rfl⟩) (.inl rfl) hB.ver hB.esz hB.pos (by simpa using hB.num) hB.fit
  (fun row' hrow'=>by
   rcases List.mem_or_eq_of_mem_set hrow' with h1|rfl
   ·exact hB.rows row' h1
   ·rw [spl_length,hlen])
  (fun _=>⟨_,T,fz,World.row_get _ _ _ hlt,by rw [splice_size]; exact g2,g3,fun i j y hy=>by
   rw [splice_get _ _ _ _ (by omega)]
   rcases cellOf_set _ _ _ _ _ _ hy with ⟨rfl,hy'⟩|⟨hne,hy'⟩
   ·rw [spl_get _ _ _ _ hk] at hy'
    by_cases hj:k≤j∧j < k+cs.length
    ·rw [if_pos hj] at hy'
     rw [if_pos (by omega)]
     have e:p.off+i * p.esz+j - (p.off+i * p.esz+k)=j - k:=by omega
     rw [e]
     have hjl:j - k < vs.length:=by omega
     exact ⟨vs[j - k],List.getElem?_eq_getElem hjl,hs _ (List.getElem_mem hjl),hrel _ _ _ (List.getElem?_eq_getElem hjl) hy'⟩
    ·rw [if_neg hj] at hy'
     rw [if_neg (by omega)]
     exact g4 i j y (by simp [cellOf,hr,hy'])
   ·have hjl:j < p.esz:=by
     unfold cellOf at hy'
     cases hi:B.rows[i]? with
     | none=>rw [hi] at hy'; simp at hy'
     | some row' =>
      rw [hi] at hy'
      have h1:=hB.rows row' (List.mem_of_getElem? hi)
      have h2:=(List.getElem?_eq_some_iff.1 (show row'[j]?=some y from hy')).1
      omega
    have:=row_apart (k:=k) (n:=cs.length) hjl (by omega) hne
    rw [if_neg (by omega)]
    exact g4 i j y hy'⟩)
  (fun hf=>by rw [hreal] at hf; cases hf)
 exact ⟨_,_,hrun,this.1,this.2.1,this.2.2⟩
theorem st_st (H:HRel X w ι h) {t:TypeId} {n:Nat} (ht:szOf P t=some n) {v u:Value} {xo yo:AO} (hx:Rel w (OX X ι) ι v (ev xo)) (hy:Rel w (OX X ι) ι u (ev yo))
  (hst:stepA (.st n xo yo) ev bl c=some (x,ups,news,R)) (hbl:∀ b ∈ R,bl b=h[b]?) :
  Ok X P w ι (do Instr.storeAt t v u; pure .skip) x (appN (appU h ups) c news):=by
 simp only [stepA] at hst
 split at hst
 ·rename_i b ver r k e
  rw [e] at hx
  split at hst
  ·rename_i B cs hB hcs
   split at hst
   ·rename_i hver
    split at hst
    ·rename_i row hrow
     split at hst
     ·rename_i hk
      cases hst
      have hb:=hbl b (by simp)
      rw [hB] at hb
      obtain ⟨p,hp,_,hreal,rfl,hBR⟩:=ptr_at H hx hb.symm hver.1
      obtain ⟨h1,h2,h3⟩:=vcells_rel H hy hcs (fun b hb=>hbl b (by simp [hb]))
      obtain ⟨w',ι',g1,g2,g3,g4⟩:=write_row (P:=P) H hp hBR hreal hrow u.cells.toList cs (by simpa using h1)
       (fun v hv=>by
        obtain ⟨i,hi⟩:=List.mem_iff_getElem?.1 hv
        exact h2 i v (by simpa using hi))
       (fun i v y hv hy=>h3 i v y (by simpa using hv) hy) (by rw [hver.2]; exact hk)
      refine ⟨.skip,undef,w',ι',?_,.inr ⟨rfl,rfl⟩,g2,.any,g3,g4⟩
      simp only [Instr.storeAt,Instr.sureAddr,storeVar,Sem.run_bind,Sem.run_pure,Result.andThen_ok,run_sizeOf ht,Sem.run_ite]
      rw [if_neg (by rw [h1,hver.2]; simp)]
      simp [g1]
     ·cases hst
    ·cases hst
   ·cases hst
  ·cases hst
 ·cases hst
theorem zeros_get (z:List Value) (n i:Nat) (hz:0 < z.length) (hi:i < n * z.length) :
  ((Array.range (n * z.length)).map (z.toArray[· % z.toArray.size]!))[i]?=some (z[i % z.length]'(Nat.mod_lt _ hz)):=by
 have hm:i % z.length < z.length:=Nat.mod_lt _ hz
 simp [hi,hm]
theorem cellOf_replicate (n:Nat) (row:List V) (i j:Nat) (x:V) (h:cellOf (List.replicate n row) i j=some x):i < n∧row[j]?=some x:=by
 unfold cellOf at h
 rw [List.getElem?_replicate] at h
 split at h
 ·rename_i hi; exact ⟨hi,by simpa using h⟩
 ·simp at h
theorem mul_mod_row {i e j:Nat} (hj:j < e):(i * e+j) % e=j:=by
 rw [Nat.add_comm,Nat.mul_comm,Nat.add_mul_mod_self_left,Nat.mod_eq_of_lt hj]
theorem st_mksl (H:HRel X w ι h) {t e:TypeId} {z:List Value} {ti:TypeInfo} (ht:P.underlying t=some (.slice e)) (hz:zeroOf P e=some z) (hti:P.info? e=some ti)
  {v u:Value} {xo yo:AO} (hx:Rel w (OX X ι) ι v (ev xo)) (hy:Rel w (OX X ι) ι u (ev yo))
  (hst:stepA (.mksl z ti.bytes xo yo) ev bl c=some (x,ups,news,R)) (hnew:∀ i,i < news.length→∃ k,h[c+i]?=some k∧k.ver=0) :
  OkV X P w ι (Instr.makeSlice t v u) x (appN (appU h ups) c news):=by
 simp only [stepA] at hst
 split at hst
 ·rename_i n m hn hm
  have hv:∃ k,v=.int k n:=by
   unfold ofInt at hn; split at hn
   ·rename_i k' n' e; rw [e] at hx; cases hn; exact ⟨_,hx.c_eq⟩
   ·cases hn
  have hu:∃ k,u=.int k m:=by
   unfold ofInt at hm; split at hm
   ·rename_i k' n' e; rw [e] at hy; cases hm; exact ⟨_,hy.c_eq⟩
   ·cases hm
  obtain ⟨k1,rfl⟩:=hv
  obtain ⟨k2,rfl⟩:=hu
  split at hst
  ·rename_i hc
   obtain ⟨c1,c2,c3,c4,c5⟩:=hc
   cases hst
   obtain ⟨zv,z1,z2,z3,z4⟩:=run_zeroValue hz w
   have hsz:szOf P e=some z.length:=z4
   have hm48:m≤2 ^ 48:=by
    have h1:(1:Int) * m≤ti.bytes * m:=Int.mul_le_mul_of_nonneg_right (by omega) (by omega)
    rw [Int.one_mul] at h1
    exact Int.le_trans h1 c5
   have hnn:n≤2 ^ 48:=Int.le_trans c4 hm48
   have wn:IntKind.i64.wrap n=n:=by rw [IntKind.wrap_i64]; omega
   have wm:IntKind.i64.wrap m=m:=by rw [IntKind.wrap_i64]; omega
   obtain ⟨ι',g1,g2,g3,g4⟩:=mk_block H (c:=c) (by simpa using hnew 0 (by simp)) e ((Array.range (m.toNat * z.length)).map (z.toArray[· % z.toArray.size]!)) (List.replicate n.toNat (z.map .c)) z.length m.toNat c1
    (by simp; omega) (by simp) (by simp) (fun i j y hy=>by
     obtain ⟨hi,hj⟩:=cellOf_replicate _ _ _ _ _ hy
     rw [List.getElem?_map] at hj
     obtain ⟨q,hq,rfl⟩:=Option.map_eq_some_iff.1 hj
     have hjl:=(List.getElem?_eq_some_iff.1 hq).1
     have hin:i * z.length+j < m.toNat * z.length:=by
      have:(i+1) * z.length≤m.toNat * z.length:=Nat.mul_le_mul_right _ (by omega)
      rw [Nat.add_mul,Nat.one_mul] at this; omega
     refine ⟨q,?_,List.all_eq_true.1 z3 q (List.mem_of_getElem? hq),.c⟩
     rw [zeros_get z _ _ c1 hin]
     simp only [mul_mod_row hjl]
     rw [List.getElem?_eq_getElem hjl] at hq; exact hq)
   refine ⟨.slice (some ⟨w.heap.size,0,none⟩) n.toNat m.toNat,_,ι',?_,g1,.psl _ g4 (Nat.le_refl _) (fun _=>⟨_,m.toNat,rfl,by omega,by simp,by simp,.inr ⟨rfl,by simp⟩⟩),g2,g3⟩
   have hmul:m.toNat * z.length=0→m.toNat=0:=by
    intro h0; rcases Nat.mul_eq_zero.1 h0 with h|h
    ·exact h
    ·omega
   have htl:¬ ((ti.bytes:Int) * m > 2 ^ 48):=by omega
   simp only [Instr.makeSlice,Sem.run_bind,run_underlying ht,Result.andThen_ok,asInt,asIntOf,Sem.run_pure,typeInfo,run_program,hti,wn,wm]
   rw [if_neg (by
    simp only [Bool.or_eq_true,decide_eq_true_eq]
    omega)]
   simp only [Sem.run_bind,run_askRoom,Result.andThen_ok,run_sizeOf hsz,Sem.run_ite,Sem.run_pure,z1,newRow,run_newObj,z2]
   split
   ·rename_i h0
    have:=hmul h0
    have hz':Array.range 0=#[]:=by simp [Array.range]
    simp [this,hz']
   ·rfl
  ·cases hst
 ·cases hst
theorem st_fad (H:HRel X w ι h) {t:TypeId} {fields:Array Field} {f:Field} {i s:Nat} (ht:P.underlying t=some (.struct fields)) (hf:fields[i]?=some f) (hs:szOf P f.type=some s) (h0:s≠0)
  {v:Value} {xo:AO} (hx:Rel w (OX X ι) ι v (ev xo)) (hst:stepA (.fad f.offset xo) ev bl c=some (x,ups,news,R)) (hbl:∀ b ∈ R,bl b=h[b]?) :
  OkV X P w ι (Instr.fieldAt t v i) x (appN (appU h ups) c news):=by
 have hrun:∀ r o:Nat,(Instr.fieldAt t (.pointer (some ⟨r,o,none⟩)) i).run P w=.ok (.pointer (some ⟨r,o+f.offset,none⟩)) w:=by
  intro r o
  simp only [Instr.fieldAt,Sem.run_bind,run_underlying ht,Result.andThen_ok,hf,Instr.sureAddr,Sem.run_pure,fieldPlace,run_sizeOf hs,Sem.run_ite,if_neg h0,add_plain]
 simp only [stepA] at hst
 split at hst
 ·rename_i b ver r k e
  rw [e] at hx
  split at hst
  ·rename_i B hB
   split at hst
   ·rename_i hver
    cases hst
    have hb:=hbl b (by simp)
    rw [hB] at hb
    obtain ⟨p,hp,hpv,hreal,rfl,hBR⟩:=ptr_at H hx hb.symm hver
    exact OkV.same H (hrun _ _) (.ptr p hp (by omega) (fun _=>⟨hreal,by simp [Nat.add_assoc]⟩))
   ·cases hst
  ·cases hst
 ·rename_i r k e
  rw [e] at hx
  cases hst
  cases hx with
  | dp cv hc hr =>
   have:=hrun
   refine OkV.same H (hrun _ _) ?_
   rw [Nat.add_assoc]
   exact .dp cv hc hr
 ·cases hst
theorem ofInt_rel {v:Value} {y:V} {n:Int} (hx:Rel w (OX X ι) ι v y) (h:ofInt y=some n):∃ k,v=.int k n:=by
 unfold ofInt at h
 split at h
 ·cases h; exact ⟨_,hx.c_eq⟩
 ·cases h
theorem st_idx_sl (H:HRel X w ι h) {t e:TypeId} {s:Nat} (ht:P.underlying t=some (.slice e)) (hs:szOf P e=some s)
  {v u:Value} {xo yo:AO} (hx:Rel w (OX X ι) ι v (ev xo)) (hy:Rel w (OX X ι) ι u (ev yo))
  (hst:stepA (.idx s none xo yo) ev bl c=some (x,ups,news,R)) (hbl:∀ b ∈ R,bl b=h[b]?) :
  OkV X P w ι (Instr.indexAt t v u) x (appN (appU h ups) c news):=by
 have hrun:∀ (r o len cap:Nat) (k:IntKind) (n:Int),0≤n→n < len→(Instr.indexAt t (.slice (some ⟨r,o,none⟩) len cap) (.int k n)).run P w=.ok (.pointer (some ⟨r,o+n.toNat * s,none⟩)) w:=by
  intro r o len cap k n h0 h1
  simp only [Instr.indexAt,asIntOf,Sem.run_bind,Sem.run_pure,run_underlying ht,Result.andThen_ok,Sem.run_ite,if_pos (And.intro h0 h1),run_sizeOf hs,add_plain]
 simp only [stepA] at hst
 split at hst
 ·rename_i n b ver off len hn _ e
  rw [e] at hx
  obtain ⟨kk,rfl⟩:=ofInt_rel hy hn
  split at hst
  ·rename_i B hB
   split at hst
   ·rename_i hc
    obtain ⟨hver,hesz,c1,c2⟩:=hc
    cases hst
    have hb:=hbl b (by simp)
    rw [hB] at hb
    obtain ⟨p,hp,hpv,hP,hBR⟩:=psl_at H hx hb.symm hver
    obtain ⟨a,cap,rfl,q1,q2,q3,q4⟩:=hP
    rcases q4 with rfl|⟨hreal,rfl⟩
    ·omega
    ·refine OkV.same H (hrun _ _ _ _ _ _ c1 c2) (.ptr p hp (by omega) (fun _=>⟨hreal,?_⟩))
     have:p.esz=s:=by rw [← hBR.esz,hesz]
     simp [this,Nat.add_mul,Nat.add_assoc]
   ·cases hst
  ·cases hst
 ·rename_i n e' rows hn _ e
  rw [e] at hx
  obtain ⟨kk,rfl⟩:=ofInt_rel hy hn
  split at hst
  ·rename_i hc
   obtain ⟨rfl,c1⟩:=hc
   split at hst
   ·rename_i row hrow
    cases hst
    have hlt:=(List.getElem?_eq_some_iff.1 hrow).1
    cases hx with
    | slnil=>simp at hrow
    | @sl _ _ _ a len cap cv hlen hcap hspot hesz hc hr =>
     obtain ⟨ab,ao,asp⟩:=a
     obtain rfl:=hspot (by omega)
     refine OkV.same H (hrun _ _ _ _ _ _ c1 (by omega)) ?_
     have:=Rel.dp (w:=w) (own:=OX X ι) (κ:=ι) (row:=row) (col:=0) (blk:=ab) (base:=ao+n.toNat * e') (fun j=>cv n.toNat j)
      (fun j y hj=>hc n.toNat j y (by simp [cellOf,hrow,hj])) (fun j y hj=>hr n.toNat j y (by simp [cellOf,hrow,hj]))
     simpa using this
   ·cases hst
  ·cases hst
 ·simp at *
 ·simp at *
 ·cases hst
theorem st_idx_arr (H:HRel X w ι h) {t e:TypeId} {n0 s:Nat} (ht:P.underlying t=some (.array n0 e)) (hs:szOf P e=some s)
  {v u:Value} {xo yo:AO} (hx:Rel w (OX X ι) ι v (ev xo)) (hy:Rel w (OX X ι) ι u (ev yo))
  (hst:stepA (.idx s (some n0) xo yo) ev bl c=some (x,ups,news,R)) (hbl:∀ b ∈ R,bl b=h[b]?) :
  OkV X P w ι (Instr.indexAt t v u) x (appN (appU h ups) c news):=by
 have hrun:∀ (r o:Nat) (k:IntKind) (n:Int),0≤n→n < n0→(Instr.indexAt t (.pointer (some ⟨r,o,none⟩)) (.int k n)).run P w=.ok (.pointer (some ⟨r,o+n.toNat * s,none⟩)) w:=by
  intro r o k n h0 h1
  simp only [Instr.indexAt,asIntOf,Instr.sureAddr,Sem.run_bind,Sem.run_pure,run_underlying ht,Result.andThen_ok,Sem.run_ite,if_pos (And.intro h0 h1),run_sizeOf hs,add_plain]
 simp only [stepA] at hst
 split at hst
 ·simp at *
 ·simp at *
 ·rename_i n len b ver r k hn hl e
  cases hl
  rw [e] at hx
  obtain ⟨kk,rfl⟩:=ofInt_rel hy hn
  split at hst
  ·rename_i B hB
   split at hst
   ·rename_i hc
    obtain ⟨hver,c1,c2⟩:=hc
    cases hst
    have hb:=hbl b (by simp)
    rw [hB] at hb
    obtain ⟨p,hp,hpv,hreal,rfl,hBR⟩:=ptr_at H hx hb.symm hver
    exact OkV.same H (hrun _ _ _ _ c1 c2) (.ptr p hp (by omega) (fun _=>⟨hreal,by simp [Nat.add_assoc]⟩))
   ·cases hst
  ·cases hst
 ·rename_i n len r k hn hl e
  cases hl
  rw [e] at hx
  obtain ⟨kk,rfl⟩:=ofInt_rel hy hn
  split at hst
  ·rename_i hc
   cases hst
   cases hx with
   | dp cv hc' hr =>
    refine OkV.same H (hrun _ _ _ _ hc.1 hc.2) ?_
    rw [Nat.add_assoc]
    exact .dp cv hc' hr
  ·cases hst
 ·cases hst
end
end Go.Proofs.Ytdbbnlafkndcnaa.Calc
namespace Go.Proofs.Ytdbbnlafkndcnaa.Calc
open Go
variable {X:Nat→Prop}
theorem run_mapM_list {P:Program} {α β:Type} {f:α→Sem β} {g:α→β} {w:World}:∀ (l:List α),(∀ x ∈ l,(f x).run P w=.ok (g x) w)→(l.mapM f).run P w=.ok (l.map g) w:=by
 intro l
 induction l with
 | nil=>intro _; simp
 | cons x l ih =>
  intro h
  simp only [List.mapM_cons,Sem.run_bind,h x (by simp),Result.andThen_ok,ih (fun y hy=>h y (by simp [hy])),Sem.run_pure,List.map_cons]
theorem run_mapM {P:Program} {α β:Type} {f:α→Sem β} {g:α→β} {w:World} (l:Array α) (h:∀ x ∈ l.toList,(f x).run P w=.ok (g x) w):(l.mapM f).run P w=.ok (l.map g) w:=by
 rw [Array.mapM_eq_mapM_toList]
 simp only [Sem.run_map,run_mapM_list l.toList h,Result.andThen_ok]
 congr 1
 apply Array.ext'
 simp
theorem zip_splice (l:List Value):∀ (cs:Array Value) (off k:Nat),(l.zipIdx k).foldl (fun cs (p:Value×Nat)=>cs.setIfInBounds (off+p.2) p.1) cs=splice cs (off+k) l:=by
 induction l with
 | nil=>intro cs off k; rfl
 | cons v l ih=>intro cs off k; simp only [List.zipIdx_cons,List.foldl_cons,splice]; rw [ih,Nat.add_assoc]
theorem zip_splice' (l:Array Value) (cs:Array Value) (off:Nat):l.zipIdx.foldl (fun cs (p:Value×Nat)=>cs.setIfInBounds (off+p.2) p.1) cs=splice cs off l.toList:=by
 have:=zip_splice l.toList cs off 0
 rw [Nat.add_zero] at this
 rw [← this,← Array.foldl_toList,Array.toList_zipIdx]
section
variable {P:Program} {w:World} {ι:List Place} {h:List Blk} {ev:AO→V} {bl:Nat→Option Blk} {c:Nat} {x:V} {ups:List (Nat×Blk)} {news:List Blk} {R:List Nat}
def LRel (X:Nat→Prop) (w:World) (ι:List Place) (cs:Array Value) (ys:List V):Prop :=
 cs.size=ys.length∧∀ (i:Nat) (v:Value),cs[i]?=some v→scal v=true∧∀ y:V,ys[i]?=some y→Rel w (OX X ι) ι v y
theorem LRel.splice {cs:Array Value} {ys:List V} (hl:LRel X w ι cs ys) (vs:Array Value) (zs:List V) (off:Nat) (hsz:vs.size=zs.length) (hoff:off+zs.length≤ys.length)
  (hs:∀ (i:Nat) (c:Value),vs[i]?=some c→scal c=true) (hr:∀ (i:Nat) (c:Value) (y:V),vs[i]?=some c→zs[i]?=some y→Rel w (OX X ι) ι c y) :
  LRel X w ι (Calc.splice cs off vs.toList) (spl ys off zs):=by
 obtain ⟨h1,h2⟩:=hl
 refine ⟨by rw [splice_size,spl_length,h1],fun i v hv=>?_⟩
 rw [splice_get _ _ _ _ (by simp; omega)] at hv
 have hlen:vs.toList.length=zs.length:=by simpa using hsz
 rw [hlen] at hv
 by_cases hi:off≤i∧i < off+zs.length
 ·rw [if_pos hi] at hv
  have hv':vs[i - off]?=some v:=by simpa using hv
  refine ⟨hs _ _ hv',fun y hy=>?_⟩
  rw [spl_get _ _ _ _ hoff,if_pos hi] at hy
  exact hr _ _ _ hv' hy
 ·rw [if_neg hi] at hv
  obtain ⟨g1,g2⟩:=h2 i v hv
  refine ⟨g1,fun y hy=>?_⟩
  rw [spl_get _ _ _ _ hoff,if_neg hi] at hy
  exact g2 y hy
theorem LRel.consts (z:List Value) (hz:z.all scal=true):LRel X w ι z.toArray (z.map .c):=by
 refine ⟨by simp,fun i v hv=>⟨List.all_eq_true.1 hz v (List.mem_of_getElem? (by simpa using hv)),fun y hy=>?_⟩⟩
 rw [List.getElem?_map] at hy
 have:z[i]?=some v:=by simpa using hv
 rw [this] at hy; cases hy; exact .c
theorem LRel.agg {cs:Array Value} {ys:List V} (hl:LRel X w ι cs ys):Rel w (OX X ι) ι (.agg cs) (.agg ys) :=
 .agg hl.1 (fun i c hc=>(hl.2 i c hc).1) (fun i c y hc hy=>(hl.2 i c hc).2 y hy)
theorem fill_ok (H:HRel X w ι h) {sl:Nat→V} {a:Act} (hs:SlRel X w ι sl a) {place:Nat→Option (Nat×Nat)} :
  ∀ (parts:List (Nat×Operand)) (ps:List (Nat×Nat×AO)),(parts.mapM fun (p:Nat×Operand)=>(place p.1).bind fun (q:Nat×Nat)=>(compO p.2).map fun y=>(q.1,q.2,y))=some ps →
  ∀ (cs:Array Value) (ys ys':List V) (R':List Nat),LRel X w ι cs ys→fillP bl (AO.ev sl) ys ps=some (ys',R')→(∀ b ∈ R',bl b=h[b]?) →
  ∃ cs',Instr.fill place cs (parts.map fun p=>(p.1,a.eval p.2))=some cs'∧LRel X w ι cs' ys':=by
 intro parts
 induction parts with
 | nil =>
  intro ps hps cs ys ys' R' hl hf _
  simp at hps; subst hps
  simp only [fillP,Option.some.injEq,Prod.mk.injEq] at hf
  obtain ⟨rfl,rfl⟩:=hf
  exact ⟨cs,rfl,hl⟩
 | cons p parts ih =>
  intro ps hps cs ys ys' R' hl hf hbl
  obtain ⟨i,o⟩:=p
  simp only [List.mapM_cons] at hps
  cases hp:place i with
  | none=>rw [hp] at hps; simp at hps
  | some q =>
   obtain ⟨off,size⟩:=q
   rw [hp] at hps
   cases ho:compO o with
   | none=>rw [ho] at hps; simp at hps
   | some y =>
    rw [ho] at hps
    simp only [Option.bind_some,Option.map_some,Option.bind_eq_bind] at hps
    obtain ⟨ps',h1,h2⟩:=Option.bind_eq_some_iff.1 hps
    simp at h2
    subst h2
    simp only [fillP] at hf
    split at hf
    ·cases hf
    ·rename_i l hlv
     split at hf
     ·rename_i hc
      obtain ⟨⟨r1,r2⟩,h3,h4⟩:=Option.map_eq_some_iff.1 hf
      simp only [Prod.mk.injEq] at h4
      obtain ⟨rfl,rfl⟩:=h4
      obtain ⟨g1,g2,g3⟩:=vcells_rel H (AO.ev_rel hs ho) hlv (fun b hb=>hbl b (by simp [hb]))
      obtain ⟨cs',e1,e2⟩:=ih ps' h1 (splice cs off (a.eval o).cells.toList) (spl ys off l) _ _ (hl.splice _ _ _ g1 (by rw [hc.1]; exact hc.2) g2 g3) h3 (fun b hb=>hbl b (by simp [hb]))
      refine ⟨cs',?_,e2⟩
      simp only [List.map_cons,Instr.fill,hp]
      have:=hl.1
      rw [if_neg (by simp only [Bool.or_eq_true,decide_eq_true_eq]; rw [g1,hc.1]; omega),zip_splice']
      exact e1
     ·cases hf
theorem sz_some {t:TypeId} (h:(szOf P t).isSome=true):szOf P t=some (P.cellsOf t):=by
 unfold szOf at *
 unfold Program.cellsOf
 cases hi:P.info? t with
 | none=>rw [hi] at h; cases h
 | some i=>rfl
theorem st_build (H:HRel X w ι h) {sl:Nat→V} {a:Act} (hs:SlRel X w ι sl a) {t:TypeId} {z:List Value} {parts:Array (Nat×Operand)} {ps:List (Nat×Nat×AO)} (hz:zeroOf P t=some z) (hp:compP P t parts.toList=some ps)
  (hst:stepA (.build z ps) (AO.ev sl) bl c=some (x,ups,news,R)) (hbl:∀ b ∈ R,bl b=h[b]?) :
  OkV X P w ι (Instr.build t (parts.map fun (i,x)=>(i,a.eval x))) x (appN (appU h ups) c news):=by
 simp only [stepA] at hst
 split at hst
 ·rename_i ys' R' hf
  cases hst
  obtain ⟨zv,z1,z2,z3,z4⟩:=run_zeroValue hz w
  have hparts:(parts.map fun (i,x)=>(i,a.eval x)).toList=parts.toList.map fun p=>(p.1,a.eval p.2):=by simp
  unfold compP at hp
  split at hp
  ·rename_i fields ht
   split at hp
   ·rename_i hall
    have hplaces:(fields.mapM fun (f:Field)=>do pure (f.offset,← sizeOf f.type)).run P w=.ok (fields.map fun f=>(f.offset,P.cellsOf f.type)) w:=by
     refine run_mapM fields fun f hf=>?_
     have:=sz_some (Array.all_eq_true_iff_forall_mem.1 hall f (by simpa using hf))
     simp [run_sizeOf this]
    have hps:(parts.toList.mapM fun (p:Nat×Operand)=>((fields.map fun f=>(f.offset,P.cellsOf f.type))[p.1]?).bind fun (q:Nat×Nat)=>(compO p.2).map fun y=>(q.1,q.2,y))=some ps:=by
     rw [← hp]
     congr 1
     funext p
     obtain ⟨i,o⟩:=p
     simp only [Array.getElem?_map]
     cases hfi:fields[i]? with
     | none=>simp
     | some f =>
      have:=sz_some (Array.all_eq_true_iff_forall_mem.1 hall f (Array.mem_of_getElem? hfi))
      simp only [Option.map_some,Option.bind_some,this,Option.bind_eq_bind]
      cases compO o <;> simp
    obtain ⟨cs',e1,e2⟩:=fill_ok H hs _ _ hps zv.cells _ _ _ (by rw [z2]; exact LRel.consts z z3) hf hbl
    refine OkV.same H ?_ e2.agg
    simp only [Instr.build,Sem.run_bind,z1,Result.andThen_ok,run_underlying ht,hplaces,hparts,e1,Sem.run_pure]
   ·cases hp
  ·rename_i n e ht
   cases hsz:szOf P e with
   | none=>rw [hsz] at hp; cases hp
   | some s =>
    rw [hsz] at hp
    dsimp only at hp
    have hps:(parts.toList.mapM fun (p:Nat×Operand)=>(some (p.1 * s,s)).bind fun (q:Nat×Nat)=>(compO p.2).map fun y=>(q.1,q.2,y))=some ps:=by
     rw [← hp]
     congr 1
     funext p
     obtain ⟨i,o⟩:=p
     simp only [Option.bind_some,Option.bind_eq_bind]
     cases compO o <;> simp
    obtain ⟨cs',e1,e2⟩:=fill_ok H hs (place:=fun i=>some (i * s,s)) _ _ hps zv.cells _ _ _ (by rw [z2]; exact LRel.consts z z3) hf hbl
    refine OkV.same H ?_ e2.agg
    simp only [Instr.build,Sem.run_bind,z1,Result.andThen_ok,run_underlying ht,run_sizeOf hsz,hparts,e1,Sem.run_pure]
  ·cases hp
 ·cases hst
end
end Go.Proofs.Ytdbbnlafkndcnaa.Calc
namespace Go.Proofs.Ytdbbnlafkndcnaa.Calc
open Go
variable {X:Nat→Prop}
section
variable {P:Program} {w:World} {ι:List Place} {h:List Blk} {ev:AO→V} {bl:Nat→Option Blk} {c:Nat} {x:V} {ups:List (Nat×Blk)} {news:List Blk} {R:List Nat}
def RowsRel (X:Nat→Prop) (w:World) (ι:List Place) (cs:Array Value) (rows:List (List V)) (esz:Nat):Prop :=
 (∀ row ∈ rows,row.length=esz)∧cs.size=rows.length * esz∧∀ i j y,cellOf rows i j=some y→∃ v,cs[i * esz+j]?=some v∧scal v=true∧Rel w (OX X ι) ι v y
theorem cellOf_lt {rows:List (List V)} {esz:Nat} (hr:∀ row ∈ rows,row.length=esz) {i j:Nat} {y:V} (hy:cellOf rows i j=some y):i < rows.length∧j < esz:=by
 unfold cellOf at hy
 cases hi:rows[i]? with
 | none=>rw [hi] at hy; simp at hy
 | some row =>
  rw [hi] at hy
  have h1:=hr row (List.mem_of_getElem? hi)
  have h2:=(List.getElem?_eq_some_iff.1 (show row[j]?=some y from hy)).1
  exact ⟨(List.getElem?_eq_some_iff.1 hi).1,by omega⟩
theorem RowsRel.set {cs:Array Value} {rows:List (List V)} {esz:Nat} (hl:RowsRel X w ι cs rows esz) (vs:Array Value) (zs:List V) (i:Nat) (hsz:vs.size=zs.length) (hz:zs.length=esz) (hi:i < rows.length)
  (hs:∀ (i:Nat) (c:Value),vs[i]?=some c→scal c=true) (hr:∀ (i:Nat) (c:Value) (y:V),vs[i]?=some c→zs[i]?=some y→Rel w (OX X ι) ι c y) :
  i * esz+esz≤cs.size∧RowsRel X w ι (splice cs (i * esz) vs.toList) (rows.set i zs) esz:=by
 obtain ⟨h1,h2,h3⟩:=hl
 have hin:i * esz+esz≤cs.size:=by
  have:(i+1) * esz≤rows.length * esz:=Nat.mul_le_mul_right _ hi
  rw [Nat.add_mul,Nat.one_mul] at this
  omega
 have hvl:vs.toList.length=esz:=by simp; omega
 refine ⟨hin,⟨fun row hrow=>?_,by rw [splice_size,List.length_set,h2],fun i' j y hy=>?_⟩⟩
 ·rcases List.mem_or_eq_of_mem_set hrow with h4|rfl
  ·exact h1 row h4
  ·exact hz
 ·rw [splice_get _ _ _ _ (by omega),hvl]
  rcases cellOf_set _ _ _ _ _ _ hy with ⟨rfl,hy'⟩|⟨hne,hy'⟩
  ·have hj:=(List.getElem?_eq_some_iff.1 hy').1
   rw [if_pos (by omega)]
   have e:i' * esz+j - i' * esz=j:=by omega
   rw [e]
   have hjv:j < vs.size:=by omega
   exact ⟨vs[j],by simp [hjv],hs j _ (by simp [hjv]),hr j _ y (by simp [hjv]) hy'⟩
  ·have hj:=(cellOf_lt h1 hy').2
   have:=row_apart (k:=0) (n:=esz) hj (by omega) hne
   rw [if_neg (by omega)]
   exact h3 i' j y hy'
theorem fillR_ok (H:HRel X w ι h) {sl:Nat→V} {a:Act} (hs:SlRel X w ι sl a) {esz:Nat} :
  ∀ (parts:List (Nat×Operand)) (ps:List (Nat×AO)),(parts.mapM fun (p:Nat×Operand)=>(compO p.2).map fun y=>(p.1,y))=some ps →
  ∀ (cs:Array Value) (rows rows':List (List V)) (R':List Nat),RowsRel X w ι cs rows esz→fillR bl (AO.ev sl) esz rows ps=some (rows',R')→(∀ b ∈ R',bl b=h[b]?) →
  ∃ cs',Instr.fill (fun i=>some (i * esz,esz)) cs (parts.map fun p=>(p.1,a.eval p.2))=some cs'∧RowsRel X w ι cs' rows' esz∧rows'.length=rows.length:=by
 intro parts
 induction parts with
 | nil =>
  intro ps hps cs rows rows' R' hl hf _
  simp at hps; subst hps
  simp only [fillR,Option.some.injEq,Prod.mk.injEq] at hf
  obtain ⟨rfl,rfl⟩:=hf
  exact ⟨cs,rfl,hl,rfl⟩
 | cons p parts ih =>
  intro ps hps cs rows rows' R' hl hf hbl
  obtain ⟨i,o⟩:=p
  simp only [List.mapM_cons] at hps
  cases ho:compO o with
  | none=>rw [ho] at hps; simp at hps
  | some y =>
   rw [ho] at hps
   simp only [Option.bind_some,Option.map_some,Option.bind_eq_bind] at hps
   obtain ⟨ps',h1,h2⟩:=Option.bind_eq_some_iff.1 hps
   simp at h2
   subst h2
   simp only [fillR] at hf
   split at hf
   ·cases hf
   ·rename_i l hlv
    split at hf
    ·rename_i hc
     obtain ⟨⟨r1,r2⟩,h3,h4⟩:=Option.map_eq_some_iff.1 hf
     simp only [Prod.mk.injEq] at h4
     obtain ⟨rfl,rfl⟩:=h4
     obtain ⟨g1,g2,g3⟩:=vcells_rel H (AO.ev_rel hs ho) hlv (fun b hb=>hbl b (by simp [hb]))
     obtain ⟨hin,hset⟩:=hl.set (a.eval o).cells l i g1 hc.1 hc.2 g2 g3
     obtain ⟨cs',e1,e2,e3⟩:=ih ps' h1 (splice cs (i * esz) (a.eval o).cells.toList) (rows.set i l) _ _ hset h3 (fun b hb=>hbl b (by simp [hb]))
     refine ⟨cs',?_,e2,by rw [e3,List.length_set]⟩
     simp only [List.map_cons,Instr.fill]
     rw [if_neg (by simp only [Bool.or_eq_true,decide_eq_true_eq]; rw [g1,hc.1]; omega),zip_splice']
     exact e1
    ·cases hf
theorem zeros_rows (z:List Value) (n m:Nat) (h0:0 < z.length) (hs:z.all scal=true) (hnm:n≤m) :
  ∀ i j y,cellOf (List.replicate n (z.map V.c)) i j=some y→∃ v,((Array.range (m * z.length)).map (z.toArray[· % z.toArray.size]!))[i * z.length+j]?=some v∧scal v=true∧Rel w (OX X ι) ι v y:=by
 intro i j y hy
 obtain ⟨hi,hj⟩:=cellOf_replicate _ _ _ _ _ hy
 rw [List.getElem?_map] at hj
 obtain ⟨q,hq,rfl⟩:=Option.map_eq_some_iff.1 hj
 have hjl:=(List.getElem?_eq_some_iff.1 hq).1
 have hin:i * z.length+j < m * z.length:=by
  have:(i+1) * z.length≤m * z.length:=Nat.mul_le_mul_right _ (by omega)
  rw [Nat.add_mul,Nat.one_mul] at this; omega
 refine ⟨q,?_,List.all_eq_true.1 hs q (List.mem_of_getElem? hq),.c⟩
 rw [zeros_get z _ _ h0 hin]
 simp only [mul_mod_row hjl]
 rw [List.getElem?_eq_getElem hjl] at hq; exact hq
theorem st_bsl (H:HRel X w ι h) {sl:Nat→V} {a:Act} (hs:SlRel X w ι sl a) {t e:TypeId} {z:List Value} {len:Nat} {parts:Array (Nat×Operand)} {ps:List (Nat×AO)} (ht:P.underlying t=some (.slice e)) (hz:zeroOf P e=some z)
  (hp:(parts.toList.mapM fun (p:Nat×Operand)=>(compO p.2).map fun y=>(p.1,y))=some ps)
  (hst:stepA (.bsl z len ps) (AO.ev sl) bl c=some (x,ups,news,R)) (hbl:∀ b ∈ R,bl b=h[b]?) (hnew:∀ i,i < news.length→∃ k,h[c+i]?=some k∧k.ver=0) :
  OkV X P w ι (Instr.buildSlice t len (parts.map fun (i,x)=>(i,a.eval x))) x (appN (appU h ups) c news):=by
 simp only [stepA] at hst
 split at hst
 ·rename_i hc
  split at hst
  ·rename_i rows R' hf
   cases hst
   obtain ⟨zv,z1,z2,z3,z4⟩:=run_zeroValue hz w
   have hparts:(parts.map fun (i,x)=>(i,a.eval x)).toList=parts.toList.map fun p=>(p.1,a.eval p.2):=by simp
   have hinit:RowsRel X w ι ((Array.range (len * z.length)).map (z.toArray[· % z.toArray.size]!)) (List.replicate len (z.map V.c)) z.length :=
    ⟨by simp,by simp,zeros_rows z len len hc.1 z3 (Nat.le_refl _)⟩
   obtain ⟨cs',e1,e2,e3⟩:=fillR_ok H hs _ _ hp _ _ _ _ hinit hf hbl
   obtain ⟨r1,r2,r3⟩:=e2
   rw [List.length_replicate] at e3
   obtain ⟨ι',g1,g2,g3,g4⟩:=mk_block H (c:=c) (by simpa using hnew 0 (by simp)) e cs' rows z.length len hc.1 (by omega) r1 (by rw [r2,e3]; exact Nat.le_refl _) r3
   refine ⟨.slice (some ⟨w.heap.size,0,none⟩) len len,_,ι',?_,g1,.psl _ g4 (Nat.le_refl _) (fun _=>⟨_,len,rfl,Nat.le_refl _,by simp [e3],by simp,.inr ⟨rfl,by simp⟩⟩),g2,g3⟩
   simp only [Instr.buildSlice,Sem.run_bind,run_underlying ht,Result.andThen_ok,run_sizeOf z4]
   have hne:¬ (len * z.length > 2 ^ 24):=by omega
   simp only [Sem.run_ite,if_neg hne,Sem.run_bind,Sem.run_pure,z1,Result.andThen_ok,z2,hparts]
   by_cases h0:len * z.length=0
   ·rw [if_pos h0]
    rw [h0] at e1 ⊢
    have hz':Array.range 0=#[]:=by simp [Array.range]
    rw [hz'] at e1 ⊢
    simp only [List.map_toArray,List.map_nil] at e1 ⊢
    rw [e1]
    simp [newRow]
   ·rw [if_neg h0]
    rw [e1]
    simp [newRow]
  ·cases hst
 ·cases hst
theorem run_sliceBound {v:Value} {k:IntKind} {n:Int} (hv:v=.int k n) (y:Nat) (code:BoundsCode) (h0:0≤n) (h1:n≤y):(Instr.sliceBound v y code).run P w=.ok n.toNat w:=by
 subst hv
 simp only [Instr.sliceBound,asIntOf,Sem.run_bind,Sem.run_pure,Result.andThen_ok,Sem.run_ite,if_pos (And.intro h0 h1)]
theorem run_bounds {len cap:Nat} {lo hi:Option Value} {l hh:Int} (hlo:∀ v,lo=some v→∃ k,v=.int k l) (hlo':lo=none→l=0) (hhi:∀ v,hi=some v→∃ k,v=.int k hh) (hhi':hi=none→hh=len)
  (h0:0≤l) (h1:l≤hh) (h2:hh≤cap):(Instr.sliceBounds true len cap lo hi none).run P w=.ok (l.toNat,hh.toNat,cap) w:=by
 cases hi with
 | none =>
  have e:=hhi' rfl
  have e2:hh.toNat=len:=by omega
  cases lo with
  | none =>
   have:=hlo' rfl
   subst this
   simp only [Instr.sliceBounds,Sem.run_bind,Sem.run_pure,Result.andThen_ok,e2]; rfl
  | some v =>
   obtain ⟨k,hv⟩:=hlo v rfl
   simp only [Instr.sliceBounds,Sem.run_bind,Sem.run_pure,Result.andThen_ok,run_sliceBound hv len _ h0 (by omega),e2]
 | some u =>
  obtain ⟨k',hu⟩:=hhi u rfl
  have hb:=fun code=>run_sliceBound (P:=P) (w:=w) hu cap code (by omega) h2
  cases lo with
  | none =>
   have:=hlo' rfl
   subst this
   simp only [Instr.sliceBounds,Sem.run_bind,Sem.run_pure,Result.andThen_ok,hb]; rfl
  | some v =>
   obtain ⟨k,hv⟩:=hlo v rfl
   simp only [Instr.sliceBounds,Sem.run_bind,Sem.run_pure,Result.andThen_ok,hb,run_sliceBound hv hh.toNat _ h0 (by omega)]
end
end Go.Proofs.Ytdbbnlafkndcnaa.Calc
namespace Go.Proofs.Ytdbbnlafkndcnaa.Calc
open Go
variable {X:Nat→Prop}
section
variable {P:Program} {w:World} {ι:List Place} {h:List Blk} {ev:AO→V} {bl:Nat→Option Blk} {c:Nat} {x:V} {ups:List (Nat×Blk)} {news:List Blk} {R:List Nat}
theorem cellOf_drop_take (rows:List (List V)) (l n i j:Nat):cellOf ((rows.drop l).take n) i j=if i < n then cellOf rows (l+i) j else none:=by
 unfold cellOf
 rw [List.getElem?_take]
 split
 ·rw [List.getElem?_drop]
 ·rfl
theorem run_slice {t e:TypeId} {s:Nat} (ht:P.underlying t=some (.slice e)) (hs:szOf P e=some s) {a:Option Addr} {len cap:Nat} {lo hi:Option Value} {l hh:Int}
  (hlo:∀ v,lo=some v→∃ k,v=.int k l) (hlo':lo=none→l=0) (hhi:∀ v,hi=some v→∃ k,v=.int k hh) (hhi':hi=none→hh=len) (h0:0≤l) (h1:l≤hh) (h2:hh≤cap) :
  (Instr.sliceAt t (.slice a len cap) lo hi none).run P w=.ok (.slice (if cap=l.toNat then a else a.map (·.add (l.toNat * s))) (hh.toNat - l.toNat) (cap - l.toNat)) w:=by
 simp only [Instr.sliceAt,Instr.slice,Sem.run_bind,run_underlying ht,Result.andThen_ok,run_bounds hlo hlo' hhi hhi' h0 h1 h2,run_sizeOf hs,Sem.run_pure]
theorem opt_lo {sl:Nat→V} {a:Act} (hs:SlRel X w ι sl a) {lo:Option Operand} {lo':Option AO} (hc:compOpt lo=some lo') {d l:Int} (he:(lo'.map fun l=>ofInt (AO.ev sl l)).getD (some d)=some l) :
  (∀ v,lo.map a.eval=some v→∃ k,v=.int k l)∧(lo.map a.eval=none→l=d):=by
 cases lo with
 | none =>
  simp only [compOpt,Option.some.injEq] at hc; subst hc
  simp at he
  exact ⟨by simp,fun _=>he.symm⟩
 | some o =>
  simp only [compOpt] at hc
  obtain ⟨y,h1,rfl⟩:=Option.map_eq_some_iff.1 hc
  simp at he
  refine ⟨fun v hv=>?_,by simp⟩
  simp at hv; subst hv
  exact ofInt_rel (AO.ev_rel hs h1) he
theorem st_slc (H:HRel X w ι h) {sl:Nat→V} {a:Act} (hs:SlRel X w ι sl a) {t e:TypeId} {s:Nat} (ht:P.underlying t=some (.slice e)) (hsz:szOf P e=some s)
  {v:Value} {xo:AO} {lo hi:Option Operand} {lo' hi':Option AO} (hx:Rel w (OX X ι) ι v (AO.ev sl xo)) (hlo:compOpt lo=some lo') (hhi:compOpt hi=some hi')
  (hst:stepA (.slc s xo lo' hi') (AO.ev sl) bl c=some (x,ups,news,R)) (hbl:∀ b ∈ R,bl b=h[b]?) :
  OkV X P w ι (Instr.sliceAt t v (lo.map a.eval) (hi.map a.eval) none) x (appN (appU h ups) c news):=by
 simp only [stepA] at hst
 split at hst
 ·rename_i b ver off len e1
  rw [e1] at hx
  split at hst
  ·rename_i B l hh hB hl hh'
   split at hst
   ·rename_i hc
    obtain ⟨hver,hesz,c1,c2,c3⟩:=hc
    cases hst
    have hb:=hbl b (by simp)
    rw [hB] at hb
    obtain ⟨p,hp,hpv,hP,hBR⟩:=psl_at H hx hb.symm hver
    obtain ⟨ad,cap,rfl,q1,q2,q3,q4⟩:=hP
    obtain ⟨r1,r2⟩:=opt_lo hs hlo hl
    obtain ⟨r3,r4⟩:=opt_lo hs hhi hh'
    refine OkV.same H (run_slice ht hsz r1 r2 r3 r4 c1 c2 (by omega)) (.psl p hp (by omega) (fun _=>⟨_,_,rfl,by omega,by omega,by omega,?_⟩))
    have hes:p.esz=s:=by rw [← hBR.esz,hesz]
    by_cases hcap:cap=l.toNat
    ·left; omega
    ·right
     rcases q4 with rfl|⟨hreal,rfl⟩
     ·omega
     ·refine ⟨hreal,?_⟩
      rw [if_neg hcap]
      simp [add_plain,hes,Nat.add_mul,Nat.add_assoc]
   ·cases hst
  ·cases hst
 ·rename_i e0 rows e1
  rw [e1] at hx
  split at hst
  ·rename_i l hh hl hh'
   split at hst
   ·rename_i hc
    obtain ⟨rfl,c1,c2,c3⟩:=hc
    cases hst
    obtain ⟨r1,r2⟩:=opt_lo hs hlo hl
    obtain ⟨r3,r4⟩:=opt_lo hs hhi hh'
    cases hx with
    | slnil =>
     simp at c3
     have hl0:l.toNat=0:=by omega
     have hh0:hh.toNat=0:=by omega
     refine OkV.same H (run_slice ht hsz r1 r2 r3 (by simpa using r4) c1 c2 (by omega)) ?_
     rw [hl0,hh0]
     simp
     exact .slnil
    | @sl _ _ _ ad len cap cv hlen hcap hspot hesz hc hr =>
     refine OkV.same H (run_slice ht hsz r1 r2 r3 (by rw [← hlen]; exact r4) c1 c2 (by omega)) ?_
     have hlen':((rows.drop l.toNat).take (hh.toNat - l.toNat)).length=hh.toNat - l.toNat:=by
      rw [List.length_take,List.length_drop]; omega
     have hrow:∀ row ∈ (rows.drop l.toNat).take (hh.toNat - l.toNat),row.length=e0:=fun row hm=>hesz row (List.mem_of_mem_drop (List.mem_of_mem_take hm))
     by_cases hz:len=0
     ·have hl0:l.toNat=0:=by omega
      have hh0:hh.toNat=0:=by omega
      have e2:(if cap=l.toNat then some ad else (some ad).map (·.add (l.toNat * e0)))=some ad:=by
       rw [hl0]; split
       ·rfl
       ·simp [Addr.add]
      rw [e2]
      have hrz:rows=[]:=List.eq_nil_of_length_eq_zero (by omega)
      subst hrz
      exact .sl cv hlen' (by omega) (fun hpos=>by omega) hrow (by simp [cellOf]) (by simp [cellOf])
     ·obtain ⟨ab,ao,asp⟩:=ad
      obtain rfl:=hspot (by omega)
      by_cases hcl:cap=l.toNat
      ·rw [if_pos hcl]
       have hz2:hh.toNat - l.toNat=0:=by omega
       refine .sl cv hlen' (by omega) (fun _=>rfl) hrow ?_ ?_ <;>
        (intro i j y hy; rw [cellOf_drop_take,if_neg (by omega)] at hy; cases hy)
      ·rw [if_neg hcl]
       simp only [Option.map_some,add_plain]
       refine .sl (fun i j=>cv (l.toNat+i) j) hlen' (by omega) (fun _=>rfl) hrow (fun i j y hy=>?_) (fun i j y hy=>?_)
       ·rw [cellOf_drop_take] at hy
        split at hy
        ·have:=hc _ _ _ hy
         dsimp only at this ⊢
         rw [Nat.add_mul] at this
         have e3:ao+l.toNat * e0+i * e0+j=ao+(l.toNat * e0+i * e0)+j:=by omega
         rw [e3]; exact this
        ·cases hy
       ·rw [cellOf_drop_take] at hy
        split at hy
        ·exact hr _ _ _ hy
        ·cases hy
   ·cases hst
  ·cases hst
 ·rename_i e1
  rw [e1] at hx
  split at hst
  ·rename_i l hh hl hh'
   split at hst
   ·rename_i hc
    obtain ⟨rfl,rfl⟩:=hc
    cases hst
    obtain rfl:=hx.c_eq
    obtain ⟨r1,r2⟩:=opt_lo hs hlo hl
    obtain ⟨r3,r4⟩:=opt_lo hs hhi hh'
    refine OkV.same H (run_slice ht hsz r1 r2 r3 (by simp) (Int.le_refl _) (Int.le_refl _) (Int.le_refl _)) ?_
    simp
    exact .c
   ·cases hst
  ·cases hst
 ·cases hst
theorem st_len (H:HRel X w ι h) {t e:TypeId} (ht:P.underlying t=some (.slice e)) {ty:TypeId}
  {v:Value} {xo:AO} (hx:Rel w (OX X ι) ι v (ev xo)) (hst:stepA (.len xo) ev bl c=some (x,ups,news,R)) (hbl:∀ b ∈ R,bl b=h[b]?) :
  OkV X P w ι (Builtin.len_ #[t] ty #[v]) x (appN (appU h ups) c news):=by
 have hsl:∀ a n cp,v=.slice a n cp→(Builtin.len_ #[t] ty #[v]).run P w=.ok (goInt n) w:=by
  rintro a n cp rfl
  simp [Builtin.len_,run_underlying ht]
 simp only [stepA] at hst
 split at hst
 ·rename_i b ver off len e1
  rw [e1] at hx
  split at hst
  ·rename_i B hB
   split at hst
   ·rename_i hver
    cases hst
    have hb:=hbl b (by simp)
    rw [hB] at hb
    obtain ⟨p,hp,hpv,hP,hBR⟩:=psl_at H hx hb.symm hver
    obtain ⟨ad,cap,rfl,q1,q2,q3,q4⟩:=hP
    exact OkV.same H (hsl _ _ _ rfl) .c
   ·cases hst
  ·cases hst
 ·rename_i e0 rows e1
  rw [e1] at hx
  cases hst
  cases hx with
  | slnil=>exact OkV.same H (hsl _ _ _ rfl) .c
  | sl cv hlen=>subst hlen; exact OkV.same H (hsl _ _ _ rfl) .c
 ·rename_i e1
  rw [e1] at hx
  cases hst
  obtain rfl:=hx.c_eq
  exact OkV.same H (hsl _ _ _ rfl) .c
 ·cases hst
theorem pureS_eq {y:Option V} (hst:pureS y=some (x,ups,news,R)):y=some x∧ups=[]∧news=[]:=by
 unfold pureS at hst
 obtain ⟨z,h1,h2⟩:=Option.map_eq_some_iff.1 hst
 cases h2
 exact ⟨h1,rfl,rfl⟩
theorem st_lens (H:HRel X w ι h) {t:TypeId} (ht:P.underlying t=some .string) {ty:TypeId}
  {v:Value} {xo:AO} (hx:Rel w (OX X ι) ι v (ev xo)) (hst:stepA (.lens xo) ev bl c=some (x,ups,news,R)) :
  OkV X P w ι (Builtin.len_ #[t] ty #[v]) x (appN (appU h ups) c news):=by
 simp only [stepA] at hst
 obtain ⟨h1,rfl,rfl⟩:=pureS_eq hst
 split at h1
 ·rename_i s e1
  rw [e1] at hx
  cases h1
  obtain rfl:=hx.c_eq
  refine OkV.same H (cv:=goInt s.size) ?_ .c
  simp [Builtin.len_,run_underlying ht]
 ·cases h1
theorem st_capx (H:HRel X w ι h) {t e:TypeId} (ht:P.underlying t=some (.slice e)) {ty:TypeId}
  {v:Value} {xo:AO} (hx:Rel w (OX X ι) ι v (ev xo)) (hst:stepA (.capx xo) ev bl c=some (x,ups,news,R)) (hbl:∀ b ∈ R,bl b=h[b]?) :
  OkV X P w ι (Builtin.cap_ #[t] ty #[v]) x (appN (appU h ups) c news):=by
 have hsl:∀ a n cp,v=.slice a n cp→(Builtin.cap_ #[t] ty #[v]).run P w=.ok (goInt cp) w:=by
  rintro a n cp rfl
  simp [Builtin.cap_,run_underlying ht]
 simp only [stepA] at hst
 split at hst
 ·rename_i b ver off len e1
  rw [e1] at hx
  split at hst
  ·rename_i B hB
   split at hst
   ·rename_i hver
    cases hst
    have hb:=hbl b (by simp)
    rw [hB] at hb
    obtain ⟨p,hp,hpv,hP,hBR⟩:=psl_at H hx hb.symm hver
    obtain ⟨ad,cap,rfl,q1,q2,q3,q4⟩:=hP
    exact OkV.same H (hsl _ _ _ rfl) .any
   ·cases hst
  ·cases hst
 ·rename_i e0 rows e1
  rw [e1] at hx
  cases hst
  cases hx with
  | slnil=>exact OkV.same H (hsl _ _ _ rfl) .any
  | sl cv hlen=>exact OkV.same H (hsl _ _ _ rfl) .any
 ·rename_i e1
  rw [e1] at hx
  cases hst
  obtain rfl:=hx.c_eq
  exact OkV.same H (hsl _ _ _ rfl) .c
 ·cases hst
theorem rows_at (H:HRel X w ι h) {v:Value} {y:V} {e:Nat} {rows:List (List V)} (hx:Rel w (OX X ι) ι v y) (hr:rowsOf bl y=some (e,rows)) (hbl:∀ b ∈ vlook y,bl b=h[b]?) :
  (∀ row ∈ rows,row.length=e)∧∃ a cap,v=.slice a rows.length cap∧rows.length≤cap∧(a=none→cap=0)∧(0 < rows.length→∃ r o,a=some ⟨r,o,none⟩ ∧
   ∀ i j z,cellOf rows i j=some z→∃ u,w.cell? ⟨r,o+i * e+j,none⟩=some u∧scal u=true∧Rel w (OX X ι) ι u z):=by
 unfold rowsOf at hr
 split at hr
 ·rename_i e0 rows0
  cases hr
  cases hx with
  | slnil=>exact ⟨by simp,none,0,rfl,Nat.le_refl _,fun _=>rfl,fun h=>by simp at h⟩
  | @sl _ _ _ ad len cap cv hlen hcap hspot hesz hc hr =>
   refine ⟨hesz,some ad,cap,by rw [hlen],by omega,(fun h=>by cases h),fun hpos=>?_⟩
   obtain ⟨ab,ao,asp⟩:=ad
   obtain rfl:=hspot (by omega)
   exact ⟨ab,ao,rfl,fun i j z hz=>⟨cv i j,(hc i j z hz).2.1,(hc i j z hz).2.2,(hr i j z hz).shrink (fun _ h=>h) (Refs.nil _)⟩⟩
 ·rename_i b ver off len
  have hb:=hbl b (by simp [vlook])
  split at hr
  ·rename_i k hk
   split at hr
   ·rename_i hver
    cases hr
    rw [hk] at hb
    obtain ⟨p,hp,hpv,hP,hBR⟩:=psl_at H hx hb.symm hver
    obtain ⟨ad,cap,rfl,q1,q2,q3,q4⟩:=hP
    have hlen:((k.rows.drop off).take len).length=len:=by rw [List.length_take,List.length_drop,hBR.num]; omega
    refine ⟨fun row hm=>by rw [hBR.esz]; exact hBR.rows row (List.mem_of_mem_drop (List.mem_of_mem_take hm)),ad,cap,by rw [hlen],by omega,?_,fun hpos=>?_⟩
    ·rintro rfl
     rcases q4 with h|⟨_,h⟩
     ·exact h
     ·cases h
    ·rcases q4 with rfl|⟨hreal,rfl⟩
     ·omega
     ·refine ⟨_,_,rfl,fun i j z hz=>?_⟩
      rw [cellOf_drop_take] at hz
      split at hz
      ·obtain ⟨cs,T,fz,g1,g2,g3,g4⟩:=hBR.cells hreal
       obtain ⟨u,e1,e2,e3⟩:=g4 _ _ _ hz
       refine ⟨u,?_,e2,e3⟩
       have e4:p.off+off * p.esz+i * k.esz+j=p.off+(off+i) * p.esz+j:=by rw [hBR.esz,Nat.add_mul]; omega
       rw [e4]
       simpa [World.cell?,g1] using e1
      ·cases hz
   ·cases hr
  ·cases hr
 ·cases hr
theorem flat_cells {e:Nat} (hpos:0 < e) {r o:Nat} (rows:List (List V)) (hrows:∀ row ∈ rows,row.length=e)
  (hc:∀ i j z,cellOf rows i j=some z→∃ u,w.cell? ⟨r,o+i * e+j,none⟩=some u∧scal u=true∧Rel w (OX X ι) ι u z) (n:Nat) (hn:n≤rows.length) :
  ∃ l:List Value,l.length=n * e∧(∀ k v,l[k]?=some v→w.cell? ⟨r,o+k,none⟩=some v∧scal v=true) ∧
   ∀ i j z,i < n→cellOf rows i j=some z→∃ v,l[i * e+j]?=some v∧Rel w (OX X ι) ι v z:=by
 have hex:∀ i j,i < rows.length→j < e→∃ z,cellOf rows i j=some z:=by
  intro i j hi hj
  have h1:=hrows rows[i] (List.getElem_mem hi)
  exact ⟨rows[i][j]'(by omega),by simp [cellOf,hi,h1,hj]⟩
 refine ⟨(List.range (n * e)).map fun k=>(w.cell? ⟨r,o+k,none⟩).getD undef,by simp,fun k v hk=>?_,fun i j z hi hz=>?_⟩
 ·simp only [List.getElem?_map,Option.map_eq_some_iff] at hk
  obtain ⟨k',hk',rfl⟩:=hk
  obtain ⟨h1,rfl⟩:=range_some hk'
  have hd:k / e < n:=(Nat.div_lt_iff_lt_mul hpos).2 h1
  obtain ⟨z,hz⟩:=hex (k / e) (k % e) (by omega) (Nat.mod_lt _ hpos)
  obtain ⟨u,e1,e2,_⟩:=hc _ _ _ hz
  have e3:o+k / e * e+k % e=o+k:=by
   have:=Nat.div_add_mod k e
   rw [Nat.mul_comm] at this; omega
  rw [e3] at e1
  rw [e1]
  exact ⟨rfl,e2⟩
 ·have hj:j < e:=(cellOf_lt hrows hz).2
  obtain ⟨u,e1,e2,e3⟩:=hc _ _ _ hz
  have hlt:i * e+j < n * e:=by
   have:(i+1) * e≤n * e:=Nat.mul_le_mul_right _ hi
   rw [Nat.add_mul,Nat.one_mul] at this; omega
  refine ⟨u,?_,e3⟩
  rw [List.getElem?_map,List.getElem?_range hlt,Option.map_some,← Nat.add_assoc,e1]; rfl
end
end Go.Proofs.Ytdbbnlafkndcnaa.Calc
namespace Go.Proofs.Ytdbbnlafkndcnaa.Calc
open Go
variable {X:Nat→Prop}
theorem cellOf_append (a b:List (List V)) (i j:Nat):cellOf (a ++ b) i j=if i < a.length then cellOf a i j else cellOf b (i - a.length) j:=by
 unfold cellOf
 rw [List.getElem?_append]
 split <;> rfl
section
variable {P:Program} {w:World} {ι:List Place} {h:List Blk} {ev:AO→V} {bl:Nat→Option Blk} {c:Nat} {x:V} {ups:List (Nat×Blk)} {news:List Blk} {R:List Nat}
theorem run_firstCells {r o:Nat} {size n len cap:Nat} (l:List Value) (hl:l.length=n * size) (hc:∀ k v,l[k]?=some v→w.cell? ⟨r,o+k,none⟩=some v) :
  (Builtin.firstCells size n (.slice (some ⟨r,o,none⟩) len cap)).run P w=.ok l.toArray w:=by
 unfold Builtin.firstCells
 rw [← hl]
 exact run_loadCells l hc
theorem read_rows (H:HRel X w ι h) {v:Value} {y:V} {e:Nat} {rows:List (List V)} (hx:Rel w (OX X ι) ι v y) (hr:rowsOf bl y=some (e,rows)) (hbl:∀ b ∈ vlook y,bl b=h[b]?) (he:0 < e) (n:Nat) (hn:n≤rows.length) :
  (∀ row ∈ rows,row.length=e)∧(∃ a cap,v=.slice a rows.length cap)∧∃ l:List Value,l.length=n * e∧(∀ w':World,(∀ r,r < w.heap.size→w'.heap[r]?=w.heap[r]?)→(Builtin.firstCells e n v).run P w'=.ok l.toArray w')∧(∀ u ∈ l,scal u=true) ∧
   ∀ i j z,i < n→cellOf rows i j=some z→∃ u,l[i * e+j]?=some u∧Rel w (OX X ι) ι u z:=by
 obtain ⟨h1,a,cap,rfl,h2,h3,h4⟩:=rows_at H hx hr hbl
 refine ⟨h1,⟨a,cap,rfl⟩,?_⟩
 by_cases hz:n=0
 ·subst hz
  refine ⟨[],by simp,fun w' _=>?_,by simp,fun i j z hi=>by omega⟩
  cases a with
  | none=>simp [Builtin.firstCells]
  | some a=>simp [Builtin.firstCells,loadCells,loadCellsFrom]
 ·obtain ⟨r,o,rfl,h5⟩:=h4 (by omega)
  obtain ⟨l,g1,g2,g3⟩:=flat_cells he rows h1 h5 n hn
  exact ⟨l,g1,fun w' hw=>run_firstCells l g1 (fun k v hk=>by
   have:=(g2 k v hk).1
   exact cell_same (a:=⟨r,o+k,none⟩) (hw r (World.block_lt_of_cell? w ⟨r,_,none⟩ this)) this),fun u hu=>by
   obtain ⟨k,hk⟩:=List.mem_iff_getElem?.1 hu
   exact (g2 k u hk).2,g3⟩
theorem run_lenOf (a:Option Addr) (n cap:Nat):(Builtin.lenOf (.slice a n cap)).run P w=.ok n w:=rfl
theorem spliced {p:Place} {c:Array Value} {fz:Nat×Nat} {rows new:List (List V)} {vs:List Value} {off:Nat} (hC:CellsRel w (OX X ι) ι p rows c fz) (hlen:∀ row ∈ rows,row.length=p.esz)
  (hnew:∀ row ∈ new,row.length=p.esz) (hvs:vs.length=new.length * p.esz) (hs:∀ u ∈ vs,scal u=true)
  (hr:∀ i j z,i < new.length→cellOf new i j=some z→∃ u,vs[i * p.esz+j]?=some u∧Rel w (OX X ι) ι u z) (hroom:off+new.length≤p.cap) :
  (splice c (p.off+off * p.esz) vs).size=c.size∧(∀ i j z,i < off→cellOf rows i j=some z→∃ u,(splice c (p.off+off * p.esz) vs)[p.off+i * p.esz+j]?=some u∧scal u=true∧Rel w (OX X ι) ι u z) ∧
  (∀ i j z,cellOf new i j=some z→∃ u,(splice c (p.off+off * p.esz) vs)[p.off+(off+i) * p.esz+j]?=some u∧scal u=true∧Rel w (OX X ι) ι u z) ∧
  (∀ i j z,off+new.length≤i→cellOf rows i j=some z→∃ u,(splice c (p.off+off * p.esz) vs)[p.off+i * p.esz+j]?=some u∧scal u=true∧Rel w (OX X ι) ι u z):=by
 obtain ⟨g2,g3,g4⟩:=hC
 have hfit:p.off+off * p.esz+vs.length≤c.size:=by
  have:(off+new.length) * p.esz≤p.cap * p.esz:=Nat.mul_le_mul_right _ hroom
  rw [Nat.add_mul] at this
  omega
 refine ⟨splice_size _ _ _,fun i j z hi hz=>?_,fun i j z hz=>?_,fun i j z hi hz=>?_⟩
 ·have hj:=(cellOf_lt hlen hz).2
  have:(i+1) * p.esz≤off * p.esz:=Nat.mul_le_mul_right _ hi
  rw [Nat.add_mul,Nat.one_mul] at this
  rw [splice_get _ _ _ _ hfit,if_neg (by omega)]
  exact g4 i j z hz
 ·obtain ⟨hi,hj⟩:=cellOf_lt hnew hz
  obtain ⟨u,h1,h2⟩:=hr i j z hi hz
  have h3:(i+1) * p.esz≤new.length * p.esz:=Nat.mul_le_mul_right _ hi
  rw [Nat.add_mul,Nat.one_mul] at h3
  have h4:(off+i) * p.esz=off * p.esz+i * p.esz:=Nat.add_mul _ _ _
  rw [splice_get _ _ _ _ hfit,if_pos (by omega)]
  have e:p.off+(off+i) * p.esz+j - (p.off+off * p.esz)=i * p.esz+j:=by omega
  rw [e]
  exact ⟨u,h1,hs u (List.mem_of_getElem? h1),h2⟩
 ·have:(off+new.length) * p.esz≤i * p.esz:=Nat.mul_le_mul_right _ hi
  rw [Nat.add_mul] at this
  rw [splice_get _ _ _ _ hfit,if_neg (by omega)]
  exact g4 i j z hz
theorem run_copy {t t2 ty e:TypeId} {esz:Nat} (ht:P.underlying t=some (.slice e)) (hsz:szOf P e=some esz) {base ua:Option Addr} {len cap un ucap:Nat} {l:List Value}
  (hl:(Builtin.firstCells esz (min un len) (.slice ua un ucap)).run P w=.ok l.toArray w) :
  (Builtin.copy_ #[t,t2] ty #[.slice base len cap,.slice ua un ucap]).run P w=match base with
   | some a=>((storeCells a l).run P w).andThen fun _ w'=>.ok (goInt (min un len:Nat)) w'
   | none=>.ok (goInt (min un len:Nat)) w:=by
 have hmin:Nat.min un len=min un len:=rfl
 unfold Builtin.copy_
 simp only [List.getElem?_toArray,List.getElem?_cons_zero,List.getElem?_cons_succ]
 simp only [Sem.run_bind,run_underlying ht,Result.andThen_ok,run_lenOf,run_sizeOf hsz,hmin,hl]
 cases base <;> simp
theorem st_copy (H:HRel X w ι h) {t e:TypeId} {t2 ty:TypeId} {esz:Nat} (ht:P.underlying t=some (.slice e)) (hsz:szOf P e=some esz)
  {v u:Value} {xo yo:AO} (hx:Rel w (OX X ι) ι v (ev xo)) (hy:Rel w (OX X ι) ι u (ev yo))
  (hst:stepA (.copy esz xo yo) ev bl c=some (x,ups,news,R)) (hbl:∀ b ∈ R,bl b=h[b]?) :
  OkV X P w ι (Builtin.copy_ #[t,t2] ty #[v,u]) x (appN (appU h ups) c news):=by
 simp only [stepA] at hst
 split at hst
 ·rename_i b ver off len e1
  rw [e1] at hx
  split at hst
  ·rename_i B e0 rows hB hrows
   split at hst
   ·rename_i hc
    obtain ⟨hver,hesz,rfl⟩:=hc
    cases hst
    have hb:=hbl b (by simp)
    rw [hB] at hb
    obtain ⟨p,hp,hpv,hP,hBR⟩:=psl_at H hx hb.symm hver
    obtain ⟨ad,cap,rfl,q1,q2,q3,q4⟩:=hP
    have hpe:p.esz=e0:=by rw [← hBR.esz,hesz]
    have he0:0 < e0:=by rw [← hpe]; exact hBR.pos
    obtain ⟨r1,⟨ua,ucap,rfl⟩,l,r2,r3,r4,r5⟩:=read_rows (P:=P) H hy hrows (fun b hb=>hbl b (by simp [hb])) he0 (min rows.length len) (Nat.min_le_left _ _)
    by_cases hz:min rows.length len=0
    ·have hl0:l=[]:=List.eq_nil_of_length_eq_zero (by rw [r2,hz,Nat.zero_mul])
     subst hl0
     have hsame:({ B with rows:=B.rows.take off ++ rows.take len ++ B.rows.drop (off+min rows.length len) }:Blk)=B:=by
      have h1:rows.take len=[]:=List.eq_nil_of_length_eq_zero (by rw [List.length_take,Nat.min_comm]; exact hz)
      rw [h1,hz]; simp
     have hset:h.set b B=h:=by
      apply List.ext_getElem?
      intro i
      rw [List.getElem?_set]
      by_cases hbi:b=i
      ·subst hbi; rw [if_pos rfl,← hb]; split
       ·rfl
       ·rename_i hnl; rw [hb] ; exact (List.getElem?_eq_none (by omega)).symm
      ·rw [if_neg hbi]
     simp only [appU,appN,hsame,hset]
     refine OkV.same H (cv:=goInt (min rows.length len:Nat)) ?_ .c
     rw [run_copy ht hsz (r3 w (fun _ _=>rfl))]
     cases ad <;> simp [storeCells]
    ·rcases q4 with rfl|⟨hreal,rfl⟩
     ·exfalso; omega
     obtain ⟨cs,T,fz,g1,gC⟩:=hBR.cells hreal
     have hpn:=hBR.fit
     have htl:(rows.take len).length=min rows.length len:=by rw [List.length_take,Nat.min_comm]
     have hnewr:∀ row ∈ rows.take len,row.length=p.esz:=fun row hm=>by rw [hpe]; exact r1 row (List.mem_of_mem_take hm)
     have hmul:(off+min rows.length len) * p.esz≤p.cap * p.esz:=Nat.mul_le_mul_right _ (by omega)
     rw [Nat.add_mul] at hmul
     have hoff:off≤B.rows.length:=by rw [hBR.num]; omega
     obtain ⟨s0,s1,s2,s3⟩:=spliced (off:=off) gC hBR.rows hnewr (by rw [htl,hpe]; exact r2) r4 (fun i j z hi hz=>by
      rw [htl] at hi
      rw [hpe]
      refine r5 i j z hi ?_
      have:=cellOf_drop_take rows 0 len i j
      simp only [List.drop_zero] at this
      rw [this] at hz
      split at hz
      ·simpa using hz
      ·cases hz) (by rw [htl]; omega)
     have hrun:=run_storeCells (P:=P) (r:=p.row) (o:=p.off+off * p.esz) (T:=T) (fz:=fz) l 0 w cs g1 (by have:=gC.1; rw [r2,← hpe]; omega)
      (fun j h1 h2=>gC.2.1 j (by omega) (by rw [r2,← hpe] at h2; omega)) r4
     rw [Nat.add_zero] at hrun
     have hlt:=(Array.getElem?_eq_some_iff.1 g1).1
     have key:=H.set (w':=World.row w p.row (.cells (splice cs (p.off+off * p.esz) l) T fz)) hp p { B with rows:=B.rows.take off ++ rows.take len ++ B.rows.drop (off+min rows.length len) }
      (by simp) (fun i hi hne=>World.row_other _ _ _ _ (hne hreal)) rfl rfl rfl (fun _=>.inl ⟨hreal,rfl⟩) (.inl rfl) hBR.ver hBR.esz hBR.pos
      (by have:=hBR.num; simp only [List.length_append,List.length_take,List.length_drop]; omega) hBR.fit
      (fun row hm=>by
       simp only [List.mem_append] at hm
       rcases hm with (hm|hm)|hm
       ·exact hBR.rows row (List.mem_of_mem_take hm)
       ·exact hnewr row hm
       ·exact hBR.rows row (List.mem_of_mem_drop hm))
      (fun _=>⟨_,T,fz,World.row_get _ _ _ hlt,by rw [s0]; exact gC.1,gC.2.1,fun i j z hz=>by
       have hz:cellOf (B.rows.take off ++ rows.take len ++ B.rows.drop (off+min rows.length len)) i j=some z:=hz
       rw [List.append_assoc,cellOf_append] at hz
       have hto:(B.rows.take off).length=off:=by rw [List.length_take]; omega
       rw [hto] at hz
       split at hz
       ·rename_i hi
        have:=cellOf_drop_take B.rows 0 off i j
        simp only [List.drop_zero,if_pos hi,Nat.zero_add] at this
        rw [this] at hz
        exact s1 i j z hi hz
       ·rename_i hi
        rw [cellOf_append,htl] at hz
        split at hz
        ·rename_i hi2
         have:=s2 (i - off) j z hz
         have e5:off+(i - off)=i:=by omega
         rw [e5] at this; exact this
        ·rename_i hi2
         have e6:cellOf (B.rows.drop (off+min rows.length len)) (i - off - min rows.length len) j=cellOf B.rows i j:=by
          unfold cellOf
          rw [List.getElem?_drop]
          congr 2; omega
         rw [e6] at hz
         exact s3 i j z (by rw [htl]; omega) hz⟩)
      (fun hf=>by rw [hreal] at hf; cases hf)
     refine ⟨goInt (min rows.length len:Nat),_,_,?_,key.1,.c,key.2.1,key.2.2⟩
     rw [run_copy ht hsz (r3 w (fun _ _=>rfl))]
     simp only [hrun,Result.andThen_ok]
   ·cases hst
  ·rename_i B hB hnone
   split at hst
   ·rename_i e2
    rw [e2] at hy
    obtain rfl:=hy.c_eq
    split at hst
    ·rename_i hver
     cases hst
     have hb:=hbl b (by simp)
     rw [hB] at hb
     obtain ⟨p,hp,hpv,hP,hBR⟩:=psl_at H hx hb.symm hver
     obtain ⟨ad,cap,rfl,q1,q2,q3,q4⟩:=hP
     refine OkV.same H (cv:=goInt 0) ?_ .c
     rw [run_copy ht hsz (l:=[]) (by simp [Builtin.firstCells])]
     cases ad <;> simp [storeCells]
    ·cases hst
   ·cases hst
  ·cases hst
 ·cases hst
end
end Go.Proofs.Ytdbbnlafkndcnaa.Calc
namespace Go.Proofs.Ytdbbnlafkndcnaa.Calc
open Go
variable {X:Nat→Prop}
theorem growBy_le (n:Nat):∀ (rounds c:Nat),Builtin.growBy n rounds c≤max c (n+n / 4+1024):=by
 intro rounds
 induction rounds with
 | zero=>intro c; simp only [Builtin.growBy]; omega
 | succ r ih =>
  intro c
  simp only [Builtin.growBy]
  split
  ·omega
  ·have:=ih (c+(c+768) / 4); omega
theorem nextcap_le (n c:Nat) (h:c < n):Builtin.nextslicecap n c≤n+n / 4+1024:=by
 unfold Builtin.nextslicecap
 split
 ·omega
 ·split
  ·omega
  ·have:=growBy_le n 4 c; omega
section
variable {P:Program} {w:World} {ι:List Place} {h:List Blk} {ev:AO→V} {bl:Nat→Option Blk} {c:Nat} {x:V} {ups:List (Nat×Blk)} {news:List Blk} {R:List Nat}
theorem zeroCells_size (z:Array Value) (n:Nat):(Builtin.zeroCells z n).size=n * z.size:=by simp [Builtin.zeroCells]
theorem run_append {t t2 ty e e2:TypeId} {ti:TypeInfo} {z:List Value} (ht:P.underlying t=some (.slice e)) (ht2:P.underlying t2=some (.slice e2)) (hi:P.info? e=some ti) (hz:zeroOf P e=some z)
  {base ua:Option Addr} {len cap un ucap:Nat} {l:List Value} (hl:(Builtin.firstCells ti.size un (.slice ua un ucap)).run P w=.ok l.toArray w) :
  (len+un≤cap→(Builtin.append_ #[t,t2] ty #[.slice base len cap,.slice ua un ucap]).run P w=match base with
   | some a=>((storeCells (a.add (len * ti.size)) l).run P w).andThen fun _ w'=>.ok (.slice (some a) (len+un) cap) w'
   | none=>.ok (.slice none (len+un) cap) w) ∧
  (cap < len+un→0 < ti.bytes→ti.bytes * (len+un+(len+un) / 4+1024)≤2 ^ 48→∀ old:List Value,(∀ w',(∀ r,r < w.heap.size→w'.heap[r]?=w.heap[r]?)→(Builtin.firstCells ti.size len (.slice base len cap)).run P w'=.ok old.toArray w'∧(Builtin.firstCells ti.size un (.slice ua un ucap)).run P w'=.ok l.toArray w') →
   ∃ newCap:Nat,len+un≤newCap∧(Builtin.append_ #[t,t2] ty #[.slice base len cap,.slice ua un ucap]).run P w =
    .ok (.slice (some ⟨w.heap.size,0,none⟩) (len+un) newCap) (w.drew.alloc (.cells (old.toArray ++ l.toArray ++ Builtin.zeroCells z.toArray (newCap - (len+un))) e))):=by
 obtain ⟨zv,z1,z2,z3,z4⟩:=run_zeroValue hz w
 have hsz:szOf P e=some ti.size:=by simp [szOf,hi]
 have hti:∀ w',(typeInfo e).run P w'=.ok ti w':=fun w'=>by simp [typeInfo,hi]
 have hzv:∀ w',(zeroValue e).run P w'=.ok zv w':=fun w'=>by
  have h1:=z1
  simp only [zeroValue,Sem.run_bind,hti,Result.andThen_ok] at h1 ⊢
  cases hh:ti.zero with
  | none=>rw [hh] at h1; simp [unsupported] at h1
  | some q=>rw [hh] at h1; simp at h1; simp [h1]
 constructor
 ·intro hle
  unfold Builtin.append_
  simp only [List.getElem?_toArray,List.getElem?_cons_zero,List.getElem?_cons_succ]
  simp only [Sem.run_bind,run_underlying ht,run_underlying ht2,Result.andThen_ok,run_sizeOf hsz,Sem.run_pure,run_lenOf,Bool.false_eq_true,if_false,Bool.not_false,if_true,Sem.run_ite,if_pos hle,hl]
  cases base <;> simp
 ·intro hlt hb0 hb old hw
  have hcap:Builtin.nextslicecap (len+un) cap * ti.bytes≤2 ^ 48:=by
   have h1:=nextcap_le (len+un) cap hlt
   have h2:Builtin.nextslicecap (len+un) cap * ti.bytes≤(len+un+(len+un) / 4+1024) * ti.bytes:=Nat.mul_le_mul_right _ h1
   rw [Nat.mul_comm] at hb
   exact Nat.le_trans h2 hb
  refine ⟨len+un+(w.tape w.drawn (.appendCap (len+un) cap e)) % (2 ^ 63 - (len+un)),by omega,?_⟩
  obtain ⟨hw1,hw2⟩:=hw w.drew (fun r _=>rfl)
  unfold Builtin.append_
  simp only [List.getElem?_toArray,List.getElem?_cons_zero,List.getElem?_cons_succ]
  simp only [Sem.run_bind,run_underlying ht,run_underlying ht2,Result.andThen_ok,run_sizeOf hsz,Sem.run_pure,run_lenOf,Bool.false_eq_true,if_false,Bool.not_false,if_true,Sem.run_ite,if_neg (Nat.not_le.2 hlt)]
  have c1:¬ ((((len+un:Nat):Int) > IntKind.i64.max)∧(False∨ti.bytes=0)):=by
   rintro ⟨_,h|h⟩
   ·exact h
   ·omega
  have c2:¬ (Builtin.nextslicecap (len+un) cap * ti.bytes > 2 ^ 48):=by omega
  have hch:(choose (.appendCap (len+un) cap e)).run P w=.ok (len+un+(w.tape w.drawn (.appendCap (len+un) cap e)) % (2 ^ 63 - (len+un))) w.drew:=rfl
  rw [hti]
  simp only [Result.andThen_ok]
  rw [if_neg c1]
  rw [hti]
  simp only [Result.andThen_ok]
  rw [if_neg c2,hch]
  simp only [Result.andThen_ok,hti,run_askRoom,hw1,hw2,hzv,z2,newRow,Sem.run_bind,run_newObj,Sem.run_pure]
  rfl
theorem src_rows (H:HRel X w ι h) {v:Value} {y:V} {esz e:Nat} {new:List (List V)} (hx:Rel w (OX X ι) ι v y)
  (hr:srcOf bl esz y=some (e,new)) (hbl:∀ b ∈ vlook y,bl b=h[b]?) (he:e=esz) (h0:0 < esz) :
  (∀ row ∈ new,row.length=esz)∧(∃ a cap,v=.slice a new.length cap)∧∃ l:List Value,l.length=new.length * esz∧(∀ w':World,(∀ r,r < w.heap.size→w'.heap[r]?=w.heap[r]?)→(Builtin.firstCells esz new.length v).run P w'=.ok l.toArray w')∧(∀ u ∈ l,scal u=true) ∧
   ∀ i j z,i < new.length→cellOf new i j=some z→∃ u,l[i * esz+j]?=some u∧Rel w (OX X ι) ι u z:=by
 subst he
 unfold srcOf at hr
 split at hr
 ·cases hr
  obtain rfl:=hx.c_eq
  exact ⟨by simp,⟨none,0,rfl⟩,[],by simp,fun w' _=>by simp [Builtin.firstCells],by simp,fun i j z hi=>by simp at hi⟩
 ·exact read_rows H hx hr hbl h0 new.length (Nat.le_refl _)
theorem st_app (H:HRel X w ι h) {t t2 ty e e2:TypeId} {ti:TypeInfo} {z:List Value} (ht:P.underlying t=some (.slice e)) (ht2:P.underlying t2=some (.slice e2)) (hi:P.info? e=some ti) (hz:zeroOf P e=some z)
  {v u:Value} {xo yo:AO} (hx:Rel w (OX X ι) ι v (ev xo)) (hy:Rel w (OX X ι) ι u (ev yo))
  (hst:stepA (.app ti.size ti.bytes xo yo) ev bl c=some (x,ups,news,R)) (hbl:∀ b ∈ R,bl b=h[b]?) (hnew:∀ i,i < news.length→∃ k,h[c+i]?=some k∧k.ver=0) :
  OkV X P w ι (Builtin.append_ #[t,t2] ty #[v,u]) x (appN (appU h ups) c news):=by
 simp only [stepA] at hst
 split at hst
 ·rename_i q e0 new hsrc
  split at hst
  ·rename_i hc
   obtain ⟨rfl,he0,hb0⟩:=hc
   split at hst
   ·-- nil
    rename_i e1
    rw [e1] at hx
    obtain rfl:=hx.c_eq
    split at hst
    ·rename_i hn
     cases hst
     obtain ⟨r1,⟨ua,ucap,rfl⟩,l,r2,r3,r4,r5⟩:=src_rows (P:=P) H hy hsrc hbl rfl he0
     have:=(run_append (ty:=ty) (base:=none) (len:=0) (cap:=0) ht ht2 hi hz (r3 w (fun _ _=>rfl))).1 (by omega)
     refine OkV.same H this ?_
     rw [hn]; exact .c
    ·rename_i hn
     split at hst
     ·rename_i hbytes
      cases hst
      obtain ⟨r1,⟨ua,ucap,rfl⟩,l,r2,r3,r4,r5⟩:=src_rows (P:=P) H hy hsrc hbl rfl he0
      obtain ⟨newCap,n1,n2⟩:=(run_append (ty:=ty) (base:=none) (len:=0) (cap:=0) ht ht2 hi hz (r3 w (fun _ _=>rfl))).2 (by omega) hb0 (by rw [Nat.zero_add]; exact hbytes) [] (fun w' hw=>⟨by simp [Builtin.firstCells],r3 w' hw⟩)
      rw [Nat.zero_add] at n1 n2
      have hzl:z.length=ti.size:=by
       obtain ⟨_,_,_,_,z4⟩:=run_zeroValue hz w
       simp [szOf,hi] at z4; exact z4.symm
      obtain ⟨ι',g1,g2,g3,g4⟩:=mk_block (w:=w.drew) (H.grown (w':=w.drew) ⟨Nat.le_refl _,fun _ _ _=>rfl,fun _ h=>.inl h,rfl,rfl,rfl⟩ (fun _ _=>rfl)) (c:=c) (by simpa using hnew 0 (by simp)) e
       (([]:List Value).toArray ++ l.toArray ++ Builtin.zeroCells z.toArray (newCap - new.length)) new ti.size newCap he0 n1 r1
       (by rw [Array.size_append,Array.size_append,zeroCells_size]; simp only [List.size_toArray,List.length_nil,hzl]; rw [r2,Nat.zero_add,← Nat.add_mul]; exact Nat.le_of_eq (by congr 1; omega))
       (fun i j y hy=>by
        obtain ⟨h1,h2⟩:=cellOf_lt r1 hy
        obtain ⟨uu,h3,h4⟩:=r5 i j y h1 hy
        refine ⟨uu,?_,r4 uu (List.mem_of_getElem? h3),h4.mono (show Frm w (OX X ι) w.drew (OX X ι) from ⟨Nat.le_refl _,fun _ _ _=>rfl,fun _ h=>.inl h,rfl,rfl,rfl⟩) (Refs.refl _)⟩
        have h5:=(List.getElem?_eq_some_iff.1 h3).1
        rw [Array.getElem?_append_left (by simp; omega),Array.getElem?_append_right (by simp)]
        simpa using h3)
      have hF:Frm w (Own ι) w.drew (Own ι):=⟨Nat.le_refl _,fun _ _ _=>rfl,fun _ h=>.inl h,rfl,rfl,rfl⟩
      exact ⟨_,_,ι',n2,g1,.psl _ g4 (Nat.le_refl _) (fun _=>⟨_,newCap,rfl,n1,by simp,by simp,.inr ⟨rfl,by simp⟩⟩),hF.trans g2,g3⟩
     ·cases hst
   ·-- a block of one's own
    rename_i b ver off len e1
    rw [e1] at hx
    split at hst
    ·rename_i B hB
     split at hst
     ·rename_i hc
      obtain ⟨hver,hesz,hall,hbytes⟩:=hc
      cases hst
      have hb:=hbl b (by simp)
      rw [hB] at hb
      obtain ⟨r1,⟨ua,ucap,rfl⟩,l,r2,r3,r4,r5⟩:=src_rows (P:=P) H hy hsrc (fun b hb=>hbl b (by simp [hb])) rfl he0
      have hrl:rowsOf bl (.psl b ver off len)=some (ti.size,(B.rows.drop off).take len):=by simp [rowsOf,hB,hver,hesz]
      obtain ⟨o1,⟨oa,ocap,o2⟩,ol,o3,o4,o5,o6⟩:=read_rows (P:=P) H hx hrl (fun b' hb'=>by
       simp [vlook] at hb'; subst hb'; rw [hB]; exact hb) he0 len (by rw [List.length_take,List.length_drop]; omega)
      obtain ⟨p,hp,hpv,hP,hBR⟩:=psl_at H hx hb.symm hver
      obtain ⟨ad,cap,rfl,q1,q2,q3,q4⟩:=hP
      have hpe:p.esz=ti.size:=by rw [← hBR.esz,hesz]
      have hdl:((B.rows.drop off).take len).length=len:=by rw [List.length_take,List.length_drop]; omega
      have hrows':∀ row ∈ (B.rows.drop off).take len ++ new,row.length=ti.size:=fun row hm=>by
       rw [List.mem_append] at hm
       rcases hm with hm|hm
       ·exact o1 row hm
       ·exact r1 row hm
      have hR:=run_append (ty:=ty) (base:=ad) (len:=len) (cap:=cap) ht ht2 hi hz (r3 w (fun _ _=>rfl))
      by_cases hroom:len+new.length≤cap
      ·-- there is room
       by_cases hcap:cap=0
       ·-- nothing at all
        have hl0:len=0:=by omega
        have hn0:new.length=0:=by omega
        have hnil:(B.rows.drop off).take len ++ new=[]:=List.eq_nil_of_length_eq_zero (by rw [List.length_append,hdl]; omega)
        have hle:l=[]:=List.eq_nil_of_length_eq_zero (by rw [r2,hn0,Nat.zero_mul])
        have key:=H.set (w':=w) hp ⟨0,0,ti.size,0,0,ver+1,false⟩ ⟨ver+1,ti.size,(B.rows.drop off).take len ++ new⟩ (Nat.le_refl _) (fun _ _ _=>rfl) rfl rfl rfl (by simp) (.inr (by show p.ver < ver+1; omega)) rfl rfl he0
         (by rw [hnil]; rfl) (Nat.le_refl _) hrows' (by simp) (fun _=>rfl)
        refine ⟨.slice ad (len+new.length) cap,w,_,?_,key.1,?_,key.2.1,key.2.2⟩
        ·rw [hR.1 hroom,hle]
         cases ad <;> simp [storeCells]
        ·refine .psl ⟨0,0,ti.size,0,0,ver+1,false⟩ (by rw [List.getElem?_set,if_pos rfl,if_pos (List.getElem?_eq_some_iff.1 hp).1]) (Nat.le_refl _) (fun _=>⟨ad,cap,rfl,hroom,?_,?_,.inl hcap⟩)
         ·show 0+(len+new.length)≤0; omega
         ·show 0+cap≤0; omega
       ·rcases q4 with rfl|⟨hreal,rfl⟩
        ·omega
        obtain ⟨cs,T,fz,g1,gC⟩:=hBR.cells hreal
        have hnewr:∀ row ∈ new,row.length=p.esz:=fun row hm=>by rw [hpe]; exact r1 row hm
        obtain ⟨s0,s1,s2,s3⟩:=spliced (off:=off+len) gC hBR.rows hnewr (by rw [hpe]; exact r2) r4 (fun i j z hi hz=>by rw [hpe]; exact r5 i j z hi hz) (by omega)
        have hmul:(off+len+new.length) * p.esz≤p.cap * p.esz:=Nat.mul_le_mul_right _ (by omega)
        rw [Nat.add_mul] at hmul
        have hfit:=gC.1
        have hrun:=run_storeCells (P:=P) (r:=p.row) (o:=p.off+(off+len) * p.esz) (T:=T) (fz:=fz) l 0 w cs g1 (by rw [r2,← hpe]; omega)
         (fun j h1 h2=>gC.2.1 j (by omega) (by rw [r2,← hpe] at h2; omega)) r4
        rw [Nat.add_zero] at hrun
        have hlt:=(Array.getElem?_eq_some_iff.1 g1).1
        have hmul2:(off+cap) * p.esz≤p.cap * p.esz:=Nat.mul_le_mul_right _ q3
        rw [Nat.add_mul] at hmul2
        have key:=H.set (w':=World.row w p.row (.cells (splice cs (p.off+(off+len) * p.esz) l) T fz)) hp ⟨p.row,p.off+off * p.esz,ti.size,len+new.length,cap,ver+1,true⟩ ⟨ver+1,ti.size,(B.rows.drop off).take len ++ new⟩
         (by simp) (fun i hi hne=>World.row_other _ _ _ _ (hne hreal)) rfl rfl rfl (fun _=>.inl ⟨hreal,rfl⟩) (.inr (by show p.ver < ver+1; omega)) rfl rfl he0
         (by rw [List.length_append,hdl]) hroom hrows'
         (fun _=>⟨_,T,fz,World.row_get _ _ _ hlt,by rw [s0]; show p.off+off * p.esz+cap * ti.size≤_; rw [← hpe]; omega,fun j h1 h2=>gC.2.1 j (by have h1:p.off+off * p.esz≤j:=h1; omega) (by have h2:j < p.off+off * p.esz+cap * ti.size:=h2; rw [← hpe] at h2; omega),fun i j z hz=>by
          have hz:cellOf ((B.rows.drop off).take len ++ new) i j=some z:=hz
          show ∃ v,(splice cs (p.off+(off+len) * p.esz) l)[p.off+off * p.esz+i * ti.size+j]?=some v∧_
          rw [← hpe]
          rw [cellOf_append,hdl] at hz
          split at hz
          ·rename_i hil
           have hz':cellOf B.rows (off+i) j=some z:=by
            rw [cellOf_drop_take,if_pos hil] at hz; exact hz
           have:=s1 (off+i) j z (by omega) hz'
           have e10:(off+i) * p.esz=off * p.esz+i * p.esz:=Nat.add_mul _ _ _
           rw [e10] at this
           have e5:p.off+(off * p.esz+i * p.esz)+j=p.off+off * p.esz+i * p.esz+j:=by omega
           rw [e5] at this; exact this
          ·rename_i hil
           have:=s2 (i - len) j z hz
           have e6:off+len+(i - len)=off+i:=by omega
           have e10:(off+i) * p.esz=off * p.esz+i * p.esz:=Nat.add_mul _ _ _
           rw [e6,e10] at this
           have e5:p.off+(off * p.esz+i * p.esz)+j=p.off+off * p.esz+i * p.esz+j:=by omega
           rw [e5] at this; exact this⟩)
         (by simp)
        refine ⟨.slice (some ⟨p.row,p.off+off * p.esz,none⟩) (len+new.length) cap,_,_,?_,key.1,?_,key.2.1,key.2.2⟩
        ·rw [hR.1 hroom]
         simp only [add_plain]
         have e7:p.off+off * p.esz+len * ti.size=p.off+(off+len) * p.esz:=by rw [hpe,Nat.add_mul]; omega
         rw [e7,hrun]; rfl
        ·refine .psl _ (by rw [List.getElem?_set,if_pos rfl,if_pos (List.getElem?_eq_some_iff.1 hp).1]) (Nat.le_refl _) (fun _=>⟨_,cap,rfl,hroom,?_,?_,.inr ⟨rfl,?_⟩⟩)
         ·show 0+(len+new.length)≤len+new.length; omega
         ·show 0+cap≤cap; omega
         ·simp
      ·-- it moves
       obtain ⟨newCap,n1,n2⟩:=hR.2 (by omega) hb0 hbytes ol (fun w' hw=>⟨o4 w' hw,r3 w' hw⟩)
       have hzl:z.length=ti.size:=by
        obtain ⟨_,_,_,_,z4⟩:=run_zeroValue hz w
        simp [szOf,hi] at z4; exact z4.symm
       have hF0:Frm w (Own ι) w.drew (Own ι):=⟨Nat.le_refl _,fun _ _ _=>rfl,fun _ h=>.inl h,rfl,rfl,rfl⟩
       have H0:HRel X w.drew ι h:=H.grown (w':=w.drew) hF0 (fun _ _=>rfl)
       have key:=H0.set (w':=w.drew.alloc (.cells (ol.toArray ++ l.toArray ++ Builtin.zeroCells z.toArray (newCap - (len+new.length))) e)) hp ⟨w.heap.size,0,ti.size,len+new.length,newCap,ver+1,true⟩ ⟨ver+1,ti.size,(B.rows.drop off).take len ++ new⟩
        (by simp) (fun i hi _=>by
         show (w.drew.heap.push _)[i]?=_
         rw [Array.getElem?_push,if_neg (by have:i < w.drew.heap.size:=hi; omega)]) rfl rfl rfl (fun _=>.inr (Nat.le_refl _)) (.inr (by show p.ver < ver+1; omega)) rfl rfl he0
        (by rw [List.length_append,hdl]) n1 hrows'
        (fun _=>⟨_,e,(0,0),by show (w.drew.heap.push _)[w.heap.size]?=_; exact Array.getElem?_push_size,by
          show 0+newCap * ti.size≤_
          rw [Array.size_append,Array.size_append,zeroCells_size]; simp only [List.size_toArray,hzl]; rw [o3,r2,← Nat.add_mul,← Nat.add_mul]
          have e9:len+new.length+(newCap - (len+new.length))=newCap:=by omega
          rw [e9,Nat.zero_add]; exact Nat.le_refl _,
         fun j _ _=>by simp,fun i j zz hz=>by
          have hz:cellOf ((B.rows.drop off).take len ++ new) i j=some zz:=hz
          show ∃ v,(ol.toArray ++ l.toArray ++ Builtin.zeroCells z.toArray (newCap - (len+new.length)))[0+i * ti.size+j]?=some v∧_
          rw [Nat.zero_add]
          have hj:=(cellOf_lt hrows' hz).2
          rw [cellOf_append,hdl] at hz
          have hsz:(ol.toArray ++ l.toArray).size=(len+new.length) * ti.size:=by simp [o3,r2,Nat.add_mul]
          split at hz
          ·rename_i hil
           obtain ⟨uu,h3,h4⟩:=o6 i j zz hil hz
           have h5:=(List.getElem?_eq_some_iff.1 h3).1
           refine ⟨uu,?_,o5 uu (List.mem_of_getElem? h3),h4.mono (hF0.x X) (Refs.refl _)⟩
           rw [Array.getElem?_append_left (by rw [hsz,Nat.add_mul]; omega),Array.getElem?_append_left (by simpa using h5)]
           simpa using h3
          ·rename_i hil
           have hn:=(cellOf_lt r1 hz).1
           obtain ⟨uu,h3,h4⟩:=r5 (i - len) j zz hn hz
           have h5:=(List.getElem?_eq_some_iff.1 h3).1
           have e8:i * ti.size+j=len * ti.size+((i - len) * ti.size+j):=by
            have:i=len+(i - len):=by omega
            rw [show i * ti.size=(len+(i - len)) * ti.size by rw [← this],Nat.add_mul]; omega
           refine ⟨uu,?_,r4 uu (List.mem_of_getElem? h3),h4.mono (hF0.x X) (Refs.refl _)⟩
           rw [e8,Array.getElem?_append_left (by rw [hsz,Nat.add_mul]; omega),Array.getElem?_append_right (by simp [o3])]
           simp only [List.size_toArray,o3,Nat.add_sub_cancel_left,List.getElem?_toArray]
           exact h3⟩)
        (by simp)
       refine ⟨_,_,_,n2,key.1,?_,hF0.trans key.2.1,key.2.2⟩
       refine .psl _ (by rw [List.getElem?_set,if_pos rfl,if_pos (List.getElem?_eq_some_iff.1 hp).1]) (Nat.le_refl _) (fun _=>⟨_,newCap,rfl,n1,?_,?_,.inr ⟨rfl,?_⟩⟩)
       ·show 0+(len+new.length)≤len+new.length; omega
       ·show 0+newCap≤newCap; omega
       ·simp
     ·cases hst
    ·cases hst
   ·cases hst
  ·cases hst
 ·cases hst
theorem run_appendZ {t t2 ty e:TypeId} {k0 k:IntKind} {ti:TypeInfo} {z:List Value} (ht:P.underlying t=some (.slice e)) (ht2:P.underlying t2=some (.int k0)) (hi:P.info? e=some ti) (hz:zeroOf P e=some z) {m:Int} (h0:0 < m) (hz0:0 < z.length) (hb0:0 < ti.bytes) (hb:ti.bytes * (m.toNat+m.toNat / 4+1024)≤2 ^ 48) :
  ∃ newCap:Nat,m.toNat≤newCap∧(Builtin.append_ #[t,t2] ty #[.slice none 0 0,.int k m]).run P w =
   .ok (.slice (some ⟨w.heap.size,0,none⟩) m.toNat newCap) (w.drew.alloc (.cells (#[] ++ Builtin.zeroCells z.toArray m.toNat ++ Builtin.zeroCells z.toArray (newCap - m.toNat)) e)):=by
 obtain ⟨zv,z1,z2,z3,z4⟩:=run_zeroValue hz w
 have hsz:szOf P e=some ti.size:=by simp [szOf,hi]
 have hzl:z.length=ti.size:=by rw [hsz] at z4; simpa using z4.symm
 have hti:∀ w',(typeInfo e).run P w'=.ok ti w':=fun w'=>by simp [typeInfo,hi]
 have hzv:∀ w',(zeroValue e).run P w'=.ok zv w':=fun w'=>by
  have h1:=z1
  simp only [zeroValue,Sem.run_bind,hti,Result.andThen_ok] at h1 ⊢
  cases hh:ti.zero with
  | none=>rw [hh] at h1; simp [unsupported] at h1
  | some q=>rw [hh] at h1; simp at h1; simp [h1]
 have hm48:m≤281474976710656:=by
  have:m.toNat+m.toNat / 4+1024≤ti.bytes * (m.toNat+m.toNat / 4+1024):=Nat.le_mul_of_pos_left _ hb0
  omega
 have hwr:IntKind.i64.wrap m=m:=by simp only [IntKind.wrap,IntKind.signed,IntKind.bits]; simp; omega
 have hlb:¬ (m * (ti.bytes:Int) > 2 ^ 48):=by
  have h1:ti.bytes * m.toNat≤ti.bytes * (m.toNat+m.toNat / 4+1024):=Nat.mul_le_mul_left _ (by omega)
  have h2:((ti.bytes * m.toNat:Nat):Int)=(ti.bytes:Int) * m:=by rw [Int.natCast_mul,Int.toNat_of_nonneg (by omega)]
  rw [Int.mul_comm,← h2]
  omega
 have hcap:Builtin.nextslicecap (0+m.toNat) 0 * ti.bytes≤2 ^ 48:=by
  have h1:=nextcap_le (0+m.toNat) 0 (by omega)
  have h2:Builtin.nextslicecap (0+m.toNat) 0 * ti.bytes≤(0+m.toNat+(0+m.toNat) / 4+1024) * ti.bytes:=Nat.mul_le_mul_right _ h1
  rw [Nat.mul_comm] at hb
  rw [Nat.zero_add] at h2 ⊢
  exact Nat.le_trans h2 hb
 refine ⟨0+m.toNat+(w.tape w.drawn (.appendCap (0+m.toNat) 0 e)) % (2 ^ 63 - (0+m.toNat)),by omega,?_⟩
 unfold Builtin.append_
 simp only [List.getElem?_toArray,List.getElem?_cons_zero,List.getElem?_cons_succ]
 have c0:¬ (m < 0):=by omega
 have c3:¬ (0+m.toNat≤0):=by omega
 have c1:¬ (((0+m.toNat:Nat):Int) > IntKind.i64.max∧(True∨ti.bytes=0)):=by
  rintro ⟨h,_⟩
  have:IntKind.i64.max=9223372036854775807:=by decide
  omega
 have c2:¬ (Builtin.nextslicecap (0+m.toNat) 0 * ti.bytes > 2 ^ 48):=by omega
 have c4:¬ (m.toNat * ti.size=0):=by
  rw [← hzl]
  intro h
  rcases Nat.mul_eq_zero.1 h with h|h <;> omega
 have hch:(choose (.appendCap (0+m.toNat) 0 e)).run P w=.ok (0+m.toNat+(w.tape w.drawn (.appendCap (0+m.toNat) 0 e)) % (2 ^ 63 - (0+m.toNat))) w.drew:=rfl
 have ha:(asIntOf (.int k m)).run P w=.ok (k,m) w:=by simp [asIntOf]
 simp only [Sem.run_bind,run_underlying ht,run_underlying ht2,Result.andThen_ok,run_sizeOf hsz,Sem.run_pure,Sem.run_ite,asInt,ha,hwr,if_true]
 rw [if_neg c0]
 simp only [Result.andThen_ok,hti]
 rw [if_neg hlb]
 rw [if_neg c3,if_neg c1,if_neg c2,hch]
 have hfc:∀ w',(Builtin.firstCells ti.size 0 (.slice none 0 0)).run P w'=.ok #[] w':=fun w'=>by simp [Builtin.firstCells]
 simp only [Result.andThen_ok,run_askRoom,hfc,Bool.not_true,Bool.false_eq_true,if_false,if_neg c4,hzv,z2,newRow,Sem.run_bind,run_newObj,Sem.run_pure,Nat.zero_add]
 rfl
theorem st_appz (H:HRel X w ι h) {t t2 ty e:TypeId} {k0:IntKind} {ti:TypeInfo} {z:List Value} (ht:P.underlying t=some (.slice e)) (ht2:P.underlying t2=some (.int k0)) (hi:P.info? e=some ti) (hz:zeroOf P e=some z)
  {v u:Value} {xo yo:AO} (hx:Rel w (OX X ι) ι v (ev xo)) (hy:Rel w (OX X ι) ι u (ev yo))
  (hst:stepA (.appz z ti.bytes xo yo) ev bl c=some (x,ups,news,R)) (hnew:∀ i,i < news.length→∃ k,h[c+i]?=some k∧k.ver=0) :
  OkV X P w ι (Builtin.append_ #[t,t2] ty #[v,u]) x (appN (appU h ups) c news):=by
 simp only [stepA] at hst
 split at hst
 ·rename_i m e1 e2
  rw [e1] at hx
  obtain rfl:=hx.c_eq
  split at hst
  ·rename_i hc
   obtain ⟨hz0,hb0,h0,hb⟩:=hc
   cases hst
   obtain ⟨k,rfl⟩:∃ k,u=.int k m:=by
    unfold ofInt at e2
    split at e2
    ·rename_i k n e3
     cases e2
     rw [e3] at hy
     exact ⟨k,hy.c_eq⟩
    ·cases e2
   obtain ⟨newCap,n1,n2⟩:=run_appendZ (w:=w) (ty:=ty) (k:=k) ht ht2 hi hz h0 hz0 hb0 hb
   obtain ⟨zv,z1,z2,z3,z4⟩:=run_zeroValue hz w
   obtain ⟨ι',g1,g2,g3,g4⟩:=mk_block (w:=w.drew) (H.grown (w':=w.drew) ⟨Nat.le_refl _,fun _ _ _=>rfl,fun _ h=>.inl h,rfl,rfl,rfl⟩ (fun _ _=>rfl)) (c:=c) (by simpa using hnew 0 (by simp)) e
    (#[] ++ Builtin.zeroCells z.toArray m.toNat ++ Builtin.zeroCells z.toArray (newCap - m.toNat)) (List.replicate m.toNat (z.map .c)) z.length newCap hz0 (by simpa using n1) (fun row hr=>by rw [List.eq_of_mem_replicate hr]; simp)
    (by rw [Array.size_append,Array.size_append,zeroCells_size,zeroCells_size]; simp only [List.size_toArray]; show _≤0+_+_; rw [Nat.zero_add,← Nat.add_mul]; exact Nat.le_of_eq (by congr 1; omega))
    (fun i j y hy=>by
     obtain ⟨hi,hj⟩:=cellOf_replicate _ _ _ _ _ hy
     rw [List.getElem?_map] at hj
     obtain ⟨q,hq,rfl⟩:=Option.map_eq_some_iff.1 hj
     have hjl:=(List.getElem?_eq_some_iff.1 hq).1
     have hin:i * z.length+j < m.toNat * z.length:=by
      have:(i+1) * z.length≤m.toNat * z.length:=Nat.mul_le_mul_right _ (by omega)
      rw [Nat.add_mul,Nat.one_mul] at this; omega
     refine ⟨q,?_,List.all_eq_true.1 z3 q (List.mem_of_getElem? hq),.c⟩
     rw [Array.empty_append,Array.getElem?_append_left (by rw [zeroCells_size]; simpa using hin)]
     unfold Builtin.zeroCells
     simp only [List.size_toArray]
     have:=zeros_get z m.toNat (i * z.length+j) hz0 hin
     simp only [List.size_toArray] at this
     rw [this]
     simp only [mul_mod_row hjl]
     rw [List.getElem?_eq_getElem hjl] at hq; exact hq)
   have hF:Frm w (Own ι) w.drew (Own ι):=⟨Nat.le_refl _,fun _ _ _=>rfl,fun _ h=>.inl h,rfl,rfl,rfl⟩
   exact ⟨_,_,ι',n2,g1,.psl _ g4 (Nat.le_refl _) (fun _=>⟨_,newCap,rfl,n1,by simp,by simp,.inr ⟨rfl,by simp⟩⟩),hF.trans g2,g3⟩
  ·cases hst
 ·cases hst
end
end Go.Proofs.Ytdbbnlafkndcnaa.Calc
namespace Go.Proofs.Ytdbbnlafkndcnaa.Calc
open Go
variable {X:Nat→Prop}
section
variable {P:Program} {w:World} {ι:List Place} {h:List Blk} {ev:AO→V} {bl:Nat→Option Blk} {c:Nat} {x:V} {ups:List (Nat×Blk)} {news:List Blk} {R:List Nat}
theorem st_nilc (H:HRel X w ι h) {v:Value} {y:V} (hx:Rel w (OX X ι) ι v y) {xo:AO} (he:ev xo=y)
  (hst:stepA (.nilc xo) ev bl c=some (x,ups,news,R)) (hbl:∀ b ∈ R,bl b=h[b]?) :
  appN (appU h ups) c news=h∧x=y∧((∃ a,v=.pointer (some a))∨(∃ f cs,v=.func (.func f) #[] cs)∨∃ t u,v=.iface t u):=by
 simp only [stepA,he] at hst
 cases hx with
 | ptr p hp hle hP =>
  rename_i b ver r k
  dsimp only at hst
  split at hst
  ·rename_i B hB
   split at hst
   ·rename_i hver
    cases hst
    have hb:=hbl b (by simp)
    rw [hB] at hb
    obtain ⟨_,rfl⟩:=hP (by rw [← hver]; exact (H.blk b p B hp hb.symm).ver)
    exact ⟨rfl,rfl,.inl ⟨_,rfl⟩⟩
   ·cases hst
  ·cases hst
 | dp cv hc hr=>cases hst; exact ⟨rfl,rfl,.inl ⟨_,rfl⟩⟩
 | fn hl hh=>cases hst; exact ⟨rfl,rfl,.inr (.inl ⟨_,_,rfl⟩)⟩
 | ifc hh=>cases hst; exact ⟨rfl,rfl,.inr (.inr ⟨_,_,rfl⟩)⟩
 | any=>cases hst
 | bit=>cases hst
 | c=>cases hst
 | slnil=>cases hst
 | sl=>cases hst
 | psl=>cases hst
 | agg=>cases hst
 | tup=>cases hst
theorem run_equal_bool {t:TypeId} (ht:P.underlying t=some .bool) (a b:Bool):(Op.equal t (.bool a) (.bool b)).run P w=.ok (a == b) w:=by
 have h:∀ d,(Op.equalIn (d+1) t (.bool a) (.bool b)).run P w=.ok (a == b) w:=fun d=>by simp [Op.equalIn,run_underlying ht]
 exact h 9999
theorem run_equal_nil {t e:TypeId} (ht:P.underlying t=some (.slice e)) (a:Option Addr) (n c m k:Nat):(Op.equal t (.slice a n c) (.slice none m k)).run P w=.ok a.isNone w:=by
 have h:∀ d,(Op.equalIn (d+1) t (.slice a n c) (.slice none m k)).run P w=.ok a.isNone w:=fun d=>by cases a <;> simp [Op.equalIn,run_underlying ht]
 exact h 9999
theorem run_equal_nilp {t e:TypeId} (ht:P.underlying t=some (.pointer e)) (a:Option Addr):(Op.equal t (.pointer a) (.pointer none)).run P w=.ok a.isNone w:=by
 have h:∀ d,(Op.equalIn (d+1) t (.pointer a) (.pointer none)).run P w=.ok a.isNone w:=fun d=>by cases a <;> simp [Op.equalIn,run_underlying ht]
 exact h 9999
theorem run_part {t:TypeId} {n:Option Nat} (ht:aggOf P t=some n) {cs:Array Value} {ys:List V} (hl:LRel X w ι cs ys) {off:Nat} {x:V}
  (hx:partL n ys off=some x):∃ v,(part t cs off).run P w=.ok v w∧Rel w (OX X ι) ι v x:=by
 obtain ⟨h1,h2⟩:=run_isAgg ht w
 cases n with
 | none =>
  simp only [partL] at hx
  have hlt:=(List.getElem?_eq_some_iff.1 hx).1
  have hc:cs[off]?=some (cs[off]'(by rw [hl.1]; exact hlt)):=Array.getElem?_eq_getElem _
  refine ⟨_,?_,(hl.2 off _ hc).2 x hx⟩
  simp only [part,Sem.run_bind,h1,Option.isSome_none,Result.andThen_ok,Bool.false_eq_true,if_false,hc,Sem.run_pure]
 | some n =>
  simp only [partL] at hx
  cases hx
  refine ⟨.agg (cs.extract off (off+n)),?_,?_⟩
  ·simp only [part,Sem.run_bind,h1,Option.isSome_some,Result.andThen_ok,if_true,h2 n rfl,Sem.run_pure]
  ·have hget:∀ (i:Nat) (v:Value),(cs.extract off (off+n))[i]?=some v→cs[off+i]?=some v∧i < n:=by
    intro i v hv
    rw [Array.getElem?_extract] at hv
    split at hv
    ·rename_i hi
     exact ⟨hv,by omega⟩
    ·cases hv
   refine .agg ?_ (fun i v hv=>(hl.2 _ v (hget i v hv).1).1) (fun i v y hv hy=>?_)
   ·rw [Array.size_extract,List.length_take,List.length_drop,hl.1]; omega
   ·obtain ⟨g1,g2⟩:=hget i v hv
    rw [List.getElem?_take,if_pos g2,List.getElem?_drop] at hy
    exact (hl.2 _ v g1).2 y hy
theorem agg_LRel {v:Value} {ys:List V} (hx:Rel w (OX X ι) ι v (.agg ys)):∃ cs,v=.agg cs∧LRel X w ι cs ys:=by
 cases hx with
 | agg h1 h2 h3=>exact ⟨_,rfl,h1,fun i v hv=>⟨h2 i v hv,fun y hy=>h3 i v y hv hy⟩⟩
theorem run_mnx (mx:Bool):∀ (rest:List Value) (rs:List AO) (acc:Value) (ya:V) (z:V),rest.length=rs.length →
  (∀ (i:Nat) (u:Value) (y:AO),rest[i]?=some u→rs[i]?=some y→Rel w (OX X ι) ι u (ev y))→Rel w (OX X ι) ι acc ya →
  rs.foldl (mnxF mx ev) (some ya)=some z →
  ∃ v,(rest.foldlM (if mx then Builtin.max2 else Builtin.min2) acc).run P w=.ok v w∧Rel w (OX X ι) ι v z:=by
 have hnone:∀ rs:List AO,rs.foldl (mnxF mx ev) none=none:=by
  intro rs
  induction rs with
  | nil=>rfl
  | cons y rs ih=>simpa [mnxF] using ih
 intro rest
 induction rest with
 | nil =>
  intro rs acc ya z hl _ ha hz
  obtain rfl:rs=[]:=List.eq_nil_of_length_eq_zero (by simpa using hl.symm)
  simp at hz; subst hz
  exact ⟨acc,by simp,ha⟩
 | cons u rest ih =>
  intro rs acc ya z hl hr ha hz
  cases rs with
  | nil=>simp at hl
  | cons y rs =>
   simp only [List.foldl_cons,mnxF] at hz
   have hu:=hr 0 u y rfl rfl
   split at hz
   ·rename_i k a k' b e1 e2
    cases e1
    rw [e2] at hu
    obtain rfl:=hu.c_eq
    obtain rfl:=ha.c_eq
    split at hz
    ·rename_i hk
     subst hk
     obtain ⟨v,h1,h2⟩:=ih rs (.int k (if mx then (if b > a then b else a) else (if b < a then b else a))) _ z (by simpa using hl) (fun i u y h1 h2=>hr (i+1) u y (by simpa using h1) (by simpa using h2)) .c hz
     refine ⟨v,?_,h2⟩
     cases mx <;> simp only [List.foldlM_cons,Sem.run_bind,Builtin.max2,Builtin.min2,Bool.false_eq_true,if_false,if_true,Sem.run_pure,Result.andThen_ok] at h1 ⊢ <;> exact h1
    ·rw [hnone] at hz; cases hz
   ·rw [hnone] at hz; cases hz
theorem compL_rel {sl:Nat→V} {a:Act} (hs:SlRel X w ι sl a):∀ {l:List Operand} {l':List AO},compL l=some l'→l.length=l'.length ∧
  ∀ (i:Nat) (u:Value) (y:AO),(l.map a.eval)[i]?=some u→l'[i]?=some y→Rel w (OX X ι) ι u (y.ev sl):=by
 intro l
 induction l with
 | nil=>intro l' hl; simp [compL] at hl; subst hl; simp
 | cons o l ih =>
  intro l' hl
  simp only [compL,List.mapM_cons,Option.bind_eq_bind] at hl
  obtain ⟨y,h1,hl⟩:=Option.bind_eq_some_iff.1 hl
  obtain ⟨ys,h2,hl⟩:=Option.bind_eq_some_iff.1 hl
  simp at hl; subst hl
  obtain ⟨g1,g2⟩:=ih (l':=ys) h2
  refine ⟨by simp [g1],fun i u y' hu hy=>?_⟩
  cases i with
  | zero=>simp at hu hy; subst hu; subst hy; exact AO.ev_rel hs h1
  | succ i=>exact g2 i u y' (by simpa using hu) (by simpa using hy)
end
end Go.Proofs.Ytdbbnlafkndcnaa.Calc
namespace Go.Proofs.Ytdbbnlafkndcnaa.Calc
open Go
set_option linter.unusedSimpArgs false
variable {X:Nat→Prop}
theorem eqLv_length:∀ {ks:List CK} {xs ys:List Value} {r:Bool},eqLv ks xs ys=some r→xs.length=ks.length∧ys.length=ks.length:=by
 intro ks
 induction ks with
 | nil=>intro xs ys r h; cases xs <;> cases ys <;> simp [eqLv] at h ⊢
 | cons k ks ih =>
  intro xs ys r h
  cases xs with
  | nil=>simp [eqLv] at h
  | cons x xs =>
   cases ys with
   | nil=>simp [eqLv] at h
   | cons y ys =>
    simp only [eqLv] at h
    split at h
    ·rename_i h2
     have:=ih h2
     simp [this.1,this.2]
    ·cases h
theorem eqLv_append:∀ {ks ls:List CK} {xs ys:List Value} {r:Bool},eqLv (ks ++ ls) xs ys=some r →
  ∃ a b,eqLv ks (xs.take ks.length) (ys.take ks.length)=some a∧eqLv ls (xs.drop ks.length) (ys.drop ks.length)=some b∧r=(a && b):=by
 intro ks
 induction ks with
 | nil=>intro ls xs ys r h; exact ⟨true,r,by simp [eqLv],by simpa using h,by simp⟩
 | cons k ks ih =>
  intro ls xs ys r h
  cases xs with
  | nil=>simp [eqLv] at h
  | cons x xs =>
   cases ys with
   | nil=>simp [eqLv] at h
   | cons y ys =>
    simp only [List.cons_append,eqLv] at h
    split at h
    ·rename_i p q hp hq
     obtain ⟨a,b,h1,h2,rfl⟩:=ih hq
     cases h
     exact ⟨p && a,b,by simp [eqLv,hp,h1],by simpa using h2,by simp [Bool.and_assoc]⟩
    ·cases h
def asV (P:Program) (t:TypeId) (cs:List Value):Value:=match P.underlying t with
 | some (.struct _)=>.agg cs.toArray
 | some (.array _ _)=>.agg cs.toArray
 | _=>cs.headD undef
section
variable {P:Program}
theorem run_partV (w:World) {t:TypeId} {ks:List CK} {d:Nat} (hs:shp P d t=some ks) (hc:P.cellsOf t=ks.length) (xs:List Value) {off:Nat} (hl:off+ks.length≤xs.length) (hk:∀ u,P.underlying t=some u→(∀ fs,u≠.struct fs)→(∀ n e,u≠.array n e)→ks.length=1) :
  (part t xs.toArray off).run P w=.ok (asV P t ((xs.drop off).take ks.length)) w:=by
 cases d with
 | zero=>simp [shp] at hs
 | succ d =>
  cases hu:P.underlying t with
  | none=>simp [shp,hu] at hs
  | some u =>
   obtain ⟨i,hi⟩:=info_of_underlying hu
   have hsz:i.size=ks.length:=by rw [← hc]; simp [Program.cellsOf,hi]
   have agg:(∃ fs,u=.struct fs)∨(∃ n e,u=.array n e)→(part t xs.toArray off).run P w=.ok (asV P t ((xs.drop off).take ks.length)) w:=by
    intro h
    have e:xs.toArray.extract off (off+ks.length)=((xs.drop off).take ks.length).toArray:=by
     apply Array.ext'
     rw [Array.toList_extract]
     simp [List.extract]
    rcases h with ⟨fs,rfl⟩|⟨n,e',rfl⟩ <;> simp [part,isAgg,run_underlying hu,sizeOf,typeInfo,hi,hsz,asV,hu,e]
   have one:(∀ fs,u≠.struct fs)→(∀ n e,u≠.array n e)→(part t xs.toArray off).run P w=.ok (asV P t ((xs.drop off).take ks.length)) w:=by
    intro h1 h2
    have hl1:=hk u hu h1 h2
    have hlt:off < xs.length:=by omega
    have e:asV P t ((xs.drop off).take ks.length)=xs[off]:=by
     have e1:asV P t ((xs.drop off).take ks.length)=((xs.drop off).take ks.length).headD undef:=by
      unfold asV
      rw [hu]
      cases u <;> first|rfl|exact absurd rfl (h1 _)|exact absurd rfl (h2 _ _)
     rw [e1,hl1,List.drop_eq_getElem_cons hlt]; rfl
    rw [e]
    have ha:(isAgg t).run P w=.ok false w:=by
     simp only [isAgg,Sem.run_bind,run_underlying hu,Result.andThen_ok]
     cases u <;> first|rfl|exact absurd rfl (h1 _)|exact absurd rfl (h2 _ _)
    simp [part,ha,hlt]
   cases u with
   | struct fs=>exact agg (.inl ⟨fs,rfl⟩)
   | array n e=>exact agg (.inr ⟨n,e,rfl⟩)
   | _=>exact one nofun nofun
theorem shp_one {d:Nat} {t:TypeId} {ks:List CK} (hs:shp P d t=some ks):∀ u,P.underlying t=some u→(∀ fs,u≠.struct fs)→(∀ n e,u≠.array n e)→ks.length=1:=by
 intro u hu h1 h2
 cases d with
 | zero=>simp [shp] at hs
 | succ d =>
  simp only [shp,hu] at hs
  cases u <;> first|(exact absurd rfl (h1 _))|(exact absurd rfl (h2 _ _))|(simp at hs; done)|(simp at hs; subst hs; rfl)
theorem run_eq_shp:∀ (d:Nat) (t:TypeId) (ks:List CK),shp P d t=some ks→∀ (w:World) (D:Nat) (cx cy:List Value) (r:Bool),eqLv ks cx cy=some r →
  (Op.equalIn (D+d) t (asV P t cx) (asV P t cy)).run P w=.ok r w:=by
 intro d
 induction d with
 | zero=>intro t ks h; simp [shp] at h
 | succ d ih =>
  intro t ks hs w D cx cy r hr
  cases hu:P.underlying t with
  | none=>simp [shp,hu] at hs
  | some u =>
   simp only [shp,hu] at hs
   have single:∀ k:CK,ks=[k]→∃ x y,cx=[x]∧cy=[y]∧eqC k x y=some r:=by
    rintro k rfl
    obtain ⟨h1,h2⟩:=eqLv_length hr
    obtain ⟨x,rfl⟩:=List.length_eq_one_iff.1 h1
    obtain ⟨y,rfl⟩:=List.length_eq_one_iff.1 h2
    refine ⟨x,y,rfl,rfl,?_⟩
    simp only [eqLv] at hr
    split at hr
    ·rename_i a b ha hb; cases hb; cases hr; simpa using ha
    ·cases hr
   cases u <;> try (simp at hs; done)
   case bool =>
    simp at hs
    obtain ⟨x,y,rfl,rfl,h⟩:=single .b hs.symm
    cases x <;> cases y <;> simp [eqC] at h
    rename_i a b
    subst h
    simp [asV,hu,Op.equalIn,run_underlying hu]
   case int k =>
    simp at hs
    obtain ⟨x,y,rfl,rfl,h⟩:=single (.i k) hs.symm
    cases x <;> cases y <;> simp [eqC] at h
    rename_i k1 a k2 b
    obtain ⟨⟨h1,h2⟩,h3⟩:=h
    subst h1; subst h2; subst h3
    simp only [asV,hu,List.headD_cons]
    rw [show D+(d+1)=D+d+1 from rfl,run_equalIn_int (P:=P) w (D+d) t _ _ a b hu]
    rfl
   case string =>
    simp at hs
    obtain ⟨x,y,rfl,rfl,h⟩:=single .s hs.symm
    cases x <;> cases y <;> simp [eqC] at h
    rename_i a b
    subst h
    simp only [asV,hu,List.headD_cons]
    rw [show D+(d+1)=D+d+1 from rfl,run_equalIn_string w (D+d) t a b hu,bytes_eq]
   case array n e =>
    dsimp only at hs
    split at hs
    ·rename_i l hl
     split at hs
     ·rename_i hcc
      obtain ⟨hce,hpos⟩:=hcc
      simp only [Option.some.injEq] at hs
      subst hs
      simp only [asV,hu]
      have hie:∃ i,P.info? e=some i:=by
       cases d with
       | zero=>simp [shp] at hl
       | succ d =>
        cases hue:P.underlying e with
        | none=>simp [shp,hue] at hl
        | some _=>exact info_of_underlying hue
      obtain ⟨i,hi⟩:=hie
      rw [show D+(d+1)=D+d+1 from rfl,run_equalIn_array w (D+d) cx.toArray cy.toArray hu hi]
      have key:∀ (m j:Nat) (r:Bool),eqLv (List.replicate m l).flatten (cx.drop (j * l.length)) (cy.drop (j * l.length))=some r →
        (Op.eqItems (D+d) e (P.cellsOf e) cx.toArray cy.toArray (List.range' j m)).run P w=.ok r w:=by
       intro m
       induction m with
       | zero =>
        intro j r h
        simp only [List.replicate_zero,List.flatten_nil] at h
        have:r=true:=by
         cases hx:cx.drop (j * l.length) <;> cases hy:cy.drop (j * l.length) <;> rw [hx,hy] at h <;> simp [eqLv] at h
         exact h
        subst this
        simp [Op.eqItems]
       | succ m ihm =>
        intro j r h
        rw [List.replicate_succ,List.flatten_cons] at h
        obtain ⟨a,b,h1,h2,rfl⟩:=eqLv_append h
        obtain ⟨g1,g2⟩:=eqLv_length h1
        rw [List.length_take,List.length_drop] at g1 g2
        have hx:=run_partV w hl hce cx (off:=j * l.length) (by omega) (shp_one hl)
        have hy:=run_partV w hl hce cy (off:=j * l.length) (by omega) (shp_one hl)
        have he:=ih e l hl w D _ _ _ h1
        have h3:=ihm (j+1) b (by rw [Nat.add_mul,Nat.one_mul]; simpa [List.drop_drop] using h2)
        rw [List.range'_succ]
        simp only [Op.eqItems,Sem.run_bind,hce,hx,hy,he,Result.andThen_ok]
        cases a
        ·simp
        ·rw [hce] at h3; simpa using h3
      rw [List.range_eq_range']
      exact key n 0 r (by simpa using hr)
     ·cases hs
    ·cases hs
   case struct fs =>
    dsimp only at hs
    split at hs
    ·cases hs
    ·rename_i hp
     simp only [asV,hu]
     have hfs:P.fieldsOf t=fs:=by simp [Program.fieldsOf,hu]
     rw [show D+(d+1)=D+d+1 from rfl,run_equalIn_struct w (D+d) t cx.toArray cy.toArray (by rw [hfs]; exact hu) (by simpa using hp),hfs]
     have key:∀ (l:List Field) (o:Nat) (ks:List CK) (r:Bool),shpF P (shp P d) l o=some ks→eqLv ks (cx.drop o) (cy.drop o)=some r →
       (Op.eqFields (D+d) cx.toArray cy.toArray l).run P w=.ok r w:=by
      intro l
      induction l with
      | nil =>
       intro o ks r h1 h2
       simp [shpF] at h1; subst h1
       have:r=true:=by
        cases hx:cx.drop o <;> cases hy:cy.drop o <;> rw [hx,hy] at h2 <;> simp [eqLv] at h2
        exact h2
       subst this
       simp [Op.eqFields]
      | cons f l ihl =>
       intro o ks r h1 h2
       simp only [shpF] at h1
       split at h1
       ·rename_i kf hkf
        split at h1
        ·rename_i hcc
         obtain ⟨hn,ho,hce,hpos⟩:=hcc
         obtain ⟨kr,h3,rfl⟩:=Option.map_eq_some_iff.1 h1
         obtain ⟨a,b,e1,e2,rfl⟩:=eqLv_append h2
         obtain ⟨g1,g2⟩:=eqLv_length e1
         rw [List.length_take,List.length_drop] at g1 g2
         have hz:=shp_one hkf
         have hx:=run_partV w hkf hce cx (off:=o) (by omega) hz
         have hy:=run_partV w hkf hce cy (off:=o) (by omega) hz
         have he:=ih f.type kf hkf w D _ _ _ e1
         have h4:=ihl (o+kf.length) kr b h3 (by simpa [List.drop_drop] using e2)
         simp only [Op.eqFields,hn,ne_eq,not_false_eq_true,if_true,Sem.run_bind,ho,hx,hy,he,Result.andThen_ok]
         cases a
         ·simp
         ·simpa using h4
        ·cases h1
       ·cases h1
     exact key _ 0 _ _ hs (by simpa using hr)
theorem plainL_rel {w:World} {ι:List Place}:∀ {xs:List V} {us:List Value} {vs:List Value},plainL xs=some us→vs.length=xs.length→(∀ (i:Nat) (v:Value) (y:V),vs[i]?=some v→xs[i]?=some y→Rel w (OX X ι) ι v y)→vs=us:=by
 intro xs
 induction xs with
 | nil=>intro us vs h hl _; simp [plainL] at h; subst h; exact List.eq_nil_of_length_eq_zero (by simpa using hl)
 | cons x xs ih =>
  intro us vs h hl hr
  cases vs with
  | nil=>simp at hl
  | cons v vs =>
   cases x <;> simp only [plainL,reduceCtorEq] at h
   rename_i u
   obtain ⟨us',h1,rfl⟩:=Option.map_eq_some_iff.1 h
   have h0:=(hr 0 v _ rfl rfl).c_eq
   have h2:=ih (vs:=vs) h1 (by simpa using hl) (fun i v' y hv hy=>hr (i+1) v' y (by simpa using hv) (by simpa using hy))
   rw [h0,h2]
theorem plainA_rel {w:World} {ι:List Place} {v:Value} {y:V} {us:List Value} (hx:Rel w (OX X ι) ι v y) (h:plainA y=some us):v=.agg us.toArray:=by
 unfold plainA at h
 split at h
 ·rename_i cs
  cases hx with
  | agg hl hs hh =>
   rename_i vs
   have:=plainL_rel (w:=w) (ι:=ι) (vs:=vs.toList) h (by simpa using hl) (fun i v y hv hy=>hh i v y (by simpa using hv) hy)
   rw [← this]
 ·cases h
  rw [hx.c_eq]
 ·cases h
theorem run_eqs {op:BinOp} {ne:Bool} {t:TypeId} {ks:List CK} {xo yo:Operand} {us vs:List Value} {b:Bool} (w:World) (hs:shp P 20 t=some ks) (hg:P.eqGuardType P.depth t=false)
  (ht:(∃ fs,P.underlying t=some (.struct fs))∨∃ n e,P.underlying t=some (.array n e)) (hop:op=if ne then .neq else .eql) (he:eqLv ks us vs=some b) :
  (do eqGuard op t xo yo (.agg us.toArray) (.agg vs.toArray); binOp op t (.agg us.toArray) (.agg vs.toArray)).run P w=.ok (.bool (xor ne b)) w:=by
 have h:=run_eq_shp 20 t ks hs w 9980 us vs b he
 have e1:asV P t us=.agg us.toArray:=by rcases ht with ⟨fs,hu⟩|⟨n,e,hu⟩ <;> simp [asV,hu]
 have e2:asV P t vs=.agg vs.toArray:=by rcases ht with ⟨fs,hu⟩|⟨n,e,hu⟩ <;> simp [asV,hu]
 rw [e1,e2] at h
 subst hop
 cases ne
 ·simp only [Bool.false_eq_true,if_false,Sem.run_bind,run_eqGuard_agg w _ _ _ _ _ _ hg,Result.andThen_ok,run_eql_struct]
  rw [h]; simp
 ·simp only [if_true,Sem.run_bind,run_eqGuard_agg w _ _ _ _ _ _ hg,Result.andThen_ok,run_neq_struct]
  rw [h]; simp
theorem st_s2b {w:World} {ι:List Place} {h:List Blk} {ev:AO→V} {bl:Nat→Option Blk} {c:Nat} {x:V} {ups:List (Nat×Blk)} {news:List Blk} {R:List Nat} (H:HRel X w ι h) {src dst e:TypeId} (hs:P.underlying src=some .string) (hd:P.underlying dst=some (.slice e)) (he:P.underlying e=some (.int .u8))
  {v:Value} {xo:AO} (hx:Rel w (OX X ι) ι v (ev xo)) (hst:stepA (.s2b xo) ev bl c=some (x,ups,news,R)) (hnew:∀ i,i < news.length→∃ k,h[c+i]?=some k∧k.ver=0) :
  OkV X P w ι (convert src dst v) x (appN (appU h ups) c news):=by
 simp only [stepA] at hst
 split at hst
 ·rename_i s e1
  rw [e1] at hx
  obtain rfl:=hx.c_eq
  cases hst
  have hrun:=run_bytes_of_string w src dst e s hs hd he
  obtain ⟨cap,hcap⟩:∃ cap,grownCap w s.size 0 e=cap:=⟨_,rfl⟩
  have hge:s.size≤cap:=by rw [← hcap]; exact grownCap_ge w _ _ _
  rw [hcap] at hrun
  have hsz:(bytesRow s cap).size=cap:=by
   simp only [bytesRow,Array.size_append,Array.size_map,Array.size_replicate]
   have:s.data.size=s.size:=rfl
   omega
  rw [hsz] at hrun
  obtain ⟨k,hk,hv⟩:=hnew 0 (by simp)
  rw [Nat.add_zero] at hk
  obtain ⟨p,hp,B⟩:=H.at hk
  have hlt:=(List.getElem?_eq_some_iff.1 hp).1
  have key:=H.set (w':=w.drew.alloc (.cells (bytesRow s cap) e (cap,cap+1))) hp ⟨w.heap.size,0,1,s.size,cap,1,true⟩ ⟨1,1,s.data.toList.map fun b=>[.c (.int .u8 b.toNat)]⟩
   (by show w.heap.size≤(w.heap.push _).size; rw [Array.size_push]; omega) (fun r hr _=>by
    show (w.heap.push _)[r]?=_
    rw [Array.getElem?_push,if_neg (by omega)]) rfl rfl rfl
   (fun _=>.inr (Nat.le_refl _)) (.inr (by show p.ver < 1; rw [← B.ver,hv]; decide)) rfl rfl Nat.one_pos (by rw [List.length_map]; rfl) hge (fun row hr=>by obtain ⟨q,_,rfl⟩:=List.mem_map.1 hr; rfl)
   (fun _=>⟨bytesRow s cap,e,(cap,cap+1),by show (w.heap.push _)[w.heap.size]?=_; simp,by simp [hsz],fun j h1 h2=>by simp at h2 ⊢; omega,fun i j y hy=>by
    unfold cellOf at hy
    rw [List.getElem?_map] at hy
    cases hi:s.data.toList[i]? with
    | none=>rw [hi] at hy; simp at hy
    | some q =>
     rw [hi] at hy
     simp only [Option.map_some,Option.bind_some] at hy
     cases j with
     | zero =>
      simp at hy; subst hy
      refine ⟨.int .u8 q.toNat,?_,rfl,.c⟩
      have hil:=(List.getElem?_eq_some_iff.1 hi).1
      simp only [Nat.zero_add,Nat.mul_one,Nat.add_zero,bytesRow]
      rw [Array.getElem?_append_left (by simpa using hil)]
      simp at hi ⊢
      exact ⟨q,hi,rfl⟩
     | succ j=>simp at hy⟩) (by simp)
  refine ⟨_,_,_,hrun,key.1,.psl ⟨w.heap.size,0,1,s.size,cap,1,true⟩ (by rw [List.getElem?_set,if_pos rfl,if_pos hlt]) (Nat.le_refl _) (fun _=>⟨_,cap,rfl,hge,by simp,by simp,.inr ⟨rfl,by simp⟩⟩),key.2.1,key.2.2⟩
 ·cases hst
theorem run_clear {t ty e:TypeId} {z:List Value} (w:World) (ht:P.underlying t=some (.slice e)) (hz:zeroOf P e=some z) (a:Addr) (n cap:Nat) (hn:n≠0) :
  (Builtin.clear_ #[t] ty #[.slice (some a) n cap]).run P w=((storeCells a (Builtin.zeroCells z.toArray n).toList).run P w).andThen fun _ w'=>.ok (.tuple #[]) w':=by
 obtain ⟨zv,z1,z2,_,_⟩:=run_zeroValue hz w
 unfold Builtin.clear_
 obtain ⟨m,rfl⟩:∃ m,n=m+1:=⟨n - 1,by omega⟩
 simp [run_underlying ht,z1,z2]
theorem run_clear0 {t ty e:TypeId} (w:World) (ht:P.underlying t=some (.slice e)) (a:Option Addr) (n cap:Nat) (hn:a=none∨n=0) :
  (Builtin.clear_ #[t] ty #[.slice a n cap]).run P w=.ok (.tuple #[]) w:=by
 unfold Builtin.clear_
 rcases hn with rfl|rfl
 ·simp [run_underlying ht]
 ·cases a <;> simp [run_underlying ht]
theorem st_clr {w:World} {ι:List Place} {h:List Blk} {ev:AO→V} {bl:Nat→Option Blk} {c:Nat} {x:V} {ups:List (Nat×Blk)} {news:List Blk} {R:List Nat} (H:HRel X w ι h) {t ty e:TypeId} {z:List Value} (ht:P.underlying t=some (.slice e)) (hz:zeroOf P e=some z)
  {v:Value} {xo:AO} (hx:Rel w (OX X ι) ι v (ev xo)) (hst:stepA (.clr z xo) ev bl c=some (x,ups,news,R)) (hbl:∀ b ∈ R,bl b=h[b]?) :
  OkV X P w ι (Builtin.clear_ #[t] ty #[v]) x (appN (appU h ups) c news):=by
 simp only [stepA] at hst
 split at hst
 ·rename_i b ver off len e1
  rw [e1] at hx
  split at hst
  ·rename_i B hB
   split at hst
   ·rename_i hc
    obtain ⟨hver,hesz⟩:=hc
    cases hst
    have hb:=hbl b (by simp)
    rw [hB] at hb
    obtain ⟨p,hp,hpv,hP,hBR⟩:=psl_at H hx hb.symm hver
    obtain ⟨ad,cap,rfl,q1,q2,q3,q4⟩:=hP
    have hpe:p.esz=z.length:=by rw [← hBR.esz,hesz]
    have he0:0 < z.length:=by rw [← hpe]; exact hBR.pos
    have hoff:off+len≤B.rows.length:=by rw [hBR.num]; omega
    obtain ⟨_,_,_,hzs,_⟩:=run_zeroValue hz w
    by_cases hl0:len=0
    ·subst hl0
     have hsame:({ B with rows:=B.rows.take off ++ List.replicate 0 (z.map .c) ++ B.rows.drop (off+0) }:Blk)=B:=by simp
     have hset:h.set b B=h:=by
      apply List.ext_getElem?
      intro i
      rw [List.getElem?_set]
      by_cases hbi:b=i
      ·subst hbi; rw [if_pos rfl,← hb]; split
       ·rfl
       ·rename_i hnl; rw [hb]; exact (List.getElem?_eq_none (by omega)).symm
      ·rw [if_neg hbi]
     simp only [appU,appN,hsame,hset]
     exact OkV.same H (run_clear0 w ht _ _ _ (.inr rfl)) (.tup rfl (by simp))
    ·rcases q4 with rfl|⟨hreal,rfl⟩
     ·omega
     obtain ⟨cs,T,fz,g1,gC⟩:=hBR.cells hreal
     obtain ⟨l,hl⟩:∃ l,(Builtin.zeroCells z.toArray len).toList=l:=⟨_,rfl⟩
     have hll:l.length=len * z.length:=by rw [← hl,Array.length_toList,zeroCells_size]; simp
     have hget:∀ i j,i < len→j < z.length→l[i * z.length+j]?=z[j]?:=by
      intro i j hi hj
      have hlt:i * z.length+j < len * z.length:=by
       have:(i+1) * z.length≤len * z.length:=Nat.mul_le_mul_right _ hi
       rw [Nat.add_mul,Nat.one_mul] at this; omega
      have:=zeros_get z len (i * z.length+j) he0 hlt
      rw [← hl]
      simp only [Builtin.zeroCells] at this ⊢
      rw [Array.getElem?_toList]
      rw [show z.toArray.size=z.length by simp] at this ⊢
      rw [this]
      simp only [mul_mod_row hj]
      exact (List.getElem?_eq_getElem hj).symm
     have hsc:∀ u ∈ l,scal u=true:=by
      intro u hu
      obtain ⟨k,hk⟩:=List.mem_iff_getElem?.1 hu
      have hkl:=(List.getElem?_eq_some_iff.1 hk).1
      rw [hll] at hkl
      have hm:=Nat.mod_lt k he0
      have hd:k / z.length < len:=(Nat.div_lt_iff_lt_mul he0).2 hkl
      have e2:k / z.length * z.length+k % z.length=k:=by rw [Nat.mul_comm]; exact Nat.div_add_mod k z.length
      have:=hget _ _ hd hm
      rw [e2,hk] at this
      exact List.all_eq_true.1 hzs u (List.mem_of_getElem? this.symm)
     have hnewl:(List.replicate len (z.map V.c)).length=len:=by simp
     have hnewr:∀ row ∈ List.replicate len (z.map V.c),row.length=p.esz:=fun row hm=>by rw [List.eq_of_mem_replicate hm,hpe]; simp
     have hmul:(off+len) * p.esz≤p.cap * p.esz:=Nat.mul_le_mul_right _ (by have:=hBR.fit; omega)
     rw [Nat.add_mul] at hmul
     obtain ⟨s0,s1,s2,s3⟩:=spliced (off:=off) gC hBR.rows hnewr (vs:=l) (by rw [hnewl,hpe]; exact hll) hsc (fun i j y hi hy=>by
      rw [hnewl] at hi
      obtain ⟨_,hj⟩:=cellOf_replicate _ _ _ _ _ hy
      rw [List.getElem?_map] at hj
      obtain ⟨q,hq,rfl⟩:=Option.map_eq_some_iff.1 hj
      have hjl:=(List.getElem?_eq_some_iff.1 hq).1
      exact ⟨q,by rw [hpe,hget i j hi hjl]; exact hq,.c⟩) (by rw [hnewl]; have:=hBR.fit; omega)
     have hrun:=run_storeCells (P:=P) (r:=p.row) (o:=p.off+off * p.esz) (T:=T) (fz:=fz) l 0 w cs g1 (by have:=gC.1; rw [hll,← hpe]; omega)
      (fun j h1 h2=>gC.2.1 j (by omega) (by rw [hll,← hpe] at h2; omega)) hsc
     rw [Nat.add_zero] at hrun
     have hlt:=(Array.getElem?_eq_some_iff.1 g1).1
     have hto:(B.rows.take off).length=off:=by rw [List.length_take]; omega
     have key:=H.set (w':=World.row w p.row (.cells (splice cs (p.off+off * p.esz) l) T fz)) hp p { B with rows:=B.rows.take off ++ List.replicate len (z.map .c) ++ B.rows.drop (off+len) }
      (by simp) (fun i hi hne=>World.row_other _ _ _ _ (hne hreal)) rfl rfl rfl (fun _=>.inl ⟨hreal,rfl⟩) (.inl rfl) hBR.ver hBR.esz hBR.pos
      (by have:=hBR.num; simp only [List.length_append,List.length_take,List.length_drop,List.length_replicate]; omega) hBR.fit
      (fun row hm=>by
       simp only [List.mem_append] at hm
       rcases hm with (hm|hm)|hm
       ·exact hBR.rows row (List.mem_of_mem_take hm)
       ·exact hnewr row hm
       ·exact hBR.rows row (List.mem_of_mem_drop hm))
      (fun _=>⟨_,T,fz,World.row_get _ _ _ hlt,by rw [s0]; exact gC.1,gC.2.1,fun i j y hy=>by
       have hy:cellOf (B.rows.take off ++ List.replicate len (z.map .c) ++ B.rows.drop (off+len)) i j=some y:=hy
       rw [List.append_assoc,cellOf_append,hto] at hy
       split at hy
       ·rename_i hi
        have:=cellOf_drop_take B.rows 0 off i j
        simp only [List.drop_zero,if_pos hi,Nat.zero_add] at this
        rw [this] at hy
        exact s1 i j y hi hy
       ·rename_i hi
        rw [cellOf_append,hnewl] at hy
        split at hy
        ·have:=s2 (i - off) j y hy
         have e5:off+(i - off)=i:=by omega
         rw [e5] at this; exact this
        ·rename_i hi2
         have e6:cellOf (B.rows.drop (off+len)) (i - off - len) j=cellOf B.rows i j:=by
          unfold cellOf
          rw [List.getElem?_drop]
          congr 2; omega
         rw [e6] at hy
         exact s3 i j y (by rw [hnewl]; omega) hy⟩)
      (fun hf=>by rw [hreal] at hf; cases hf)
     refine ⟨.tuple #[],_,_,?_,key.1,.tup rfl (by simp),key.2.1,key.2.2⟩
     rw [run_clear w ht hz _ _ _ hl0,hl,hrun]; rfl
   ·cases hst
  ·cases hst
 ·rename_i e1
  rw [e1] at hx
  cases hst
  obtain rfl:=hx.c_eq
  exact OkV.same H (run_clear0 w ht _ _ _ (.inl rfl)) (.tup rfl (by simp))
 ·cases hst
theorem run_slice_str {t:TypeId} (ht:P.underlying t=some .string) {s:ByteArray} {lo hi:Option Value} {l hh:Int} (w:World)
  (hlo:∀ v,lo=some v→∃ k,v=.int k l) (hlo':lo=none→l=0) (hhi:∀ v,hi=some v→∃ k,v=.int k hh) (hhi':hi=none→hh=s.size) (h0:0≤l) (h1:l≤hh) (h2:hh≤s.size) :
  (Instr.sliceAt t (.string s) lo hi none).run P w=.ok (.string (s.extract l.toNat hh.toNat)) w:=by
 have hb:(Instr.sliceBounds false s.size s.size lo hi none).run P w=.ok (l.toNat,hh.toNat,s.size) w:=by
  have sb:∀ (v:Value) (n:Int) (y:Nat) (code:BoundsCode),(∃ k,v=.int k n)→0≤n→n≤y→(Instr.sliceBound v y code).run P w=.ok n.toNat w:=by
   rintro v n y code ⟨k,rfl⟩ h h'
   simp [Instr.sliceBound,asIntOf,h,h']
  cases lo with
  | none =>
   have:=hlo' rfl
   subst this
   cases hi with
   | none=>have:=hhi' rfl; subst this; simp [Instr.sliceBounds]
   | some u=>simp [Instr.sliceBounds,sb u hh s.size _ (hhi u rfl) (by omega) h2]
  | some v =>
   cases hi with
   | none =>
    have:=hhi' rfl; subst this
    simp [Instr.sliceBounds,sb v l s.size _ (hlo v rfl) h0 (by omega)]
   | some u=>simp [Instr.sliceBounds,sb u hh s.size _ (hhi u rfl) (by omega) h2,sb v l hh.toNat _ (hlo v rfl) h0 (by omega)]
 simp only [Instr.sliceAt,Instr.slice,Sem.run_bind,run_underlying ht,Result.andThen_ok,hb,Option.isSome_none,Bool.false_eq_true,if_false,Sem.run_pure]
end
end Go.Proofs.Ytdbbnlafkndcnaa.Calc
namespace Go.Proofs.Ytdbbnlafkndcnaa.Calc
open Go
set_option linter.unusedSimpArgs false
variable {X:Nat→Prop}
section
variable {P:Program} {w:World} {ι:List Place} {h:List Blk} {bl:Nat→Option Blk} {c:Nat} {x:V} {ups:List (Nat×Blk)} {news:List Blk} {R:List Nat}
theorem Ok.value {s:Sem Next} (H:HRel X w ι h) {cv:Value} (hr:s.run P w=.ok (.value cv) w) (hx:Rel w (OX X ι) ι cv x):Ok X P w ι s x h :=
 ⟨_,cv,w,ι,hr,.inl rfl,H,hx,Frm.refl _ _,Refs.refl _⟩
theorem bind_some {α β:Type} {x:Option α} {f:α→Option β} {b:β} (h:(x >>= f)=some b):∃ a,x=some a∧f a=some b:=by
 cases x with
 | none=>cases h
 | some a=>exact ⟨a,rfl,h⟩
theorem step_sound {o:Oper} {op:AOp} {sl:Nat→V} {a:Act} (hc:comp P o.op=some op) (H:HRel X w ι h) (hs:SlRel X w ι sl a)
  (hst:stepA op (AO.ev sl) bl c=some (x,ups,news,R)) (hbl:∀ b ∈ R,bl b=h[b]?) (hnew:∀ i,i < news.length→∃ k,h[c+i]?=some k∧k.ver=0) :
  Ok X P w ι (execOp a.eval o) x (appN (appU h ups) c news):=by
 unfold execOp
 cases ho:o.op with
 | move xo =>
  rw [ho] at hc; simp only [comp] at hc
  obtain ⟨y,h1,rfl⟩:=Option.map_eq_some_iff.1 hc
  simp only [stepA] at hst
  obtain ⟨h2,rfl,rfl⟩:=pureS_eq hst
  cases h2
  exact Ok.value H rfl (AO.ev_rel hs h1)
 | assign xo =>
  rw [ho] at hc; simp only [comp] at hc
  obtain ⟨y,h1,rfl⟩:=Option.map_eq_some_iff.1 hc
  simp only [stepA] at hst
  obtain ⟨h2,rfl,rfl⟩:=pureS_eq hst
  cases h2
  exact Ok.value H rfl (AO.ev_rel hs h1)
 | pick co ao bo =>
  rw [ho] at hc; simp only [comp] at hc
  obtain ⟨c',h1,hc⟩:=bind_some hc
  obtain ⟨a',h2,hc⟩:=bind_some hc
  obtain ⟨b',h3,hc⟩:=bind_some hc
  cases hc
  simp only [stepA] at hst
  obtain ⟨h4,rfl,rfl⟩:=pureS_eq hst
  split at h4
  ·rename_i t e1
   cases h4
   have hcv:=AO.ev_rel hs h1
   rw [e1] at hcv
   refine Ok.value (cv:=if t then a.eval ao else a.eval bo) H ?_ ?_
   ·simp only [hcv.c_eq,asBool,Sem.run_bind,Sem.run_pure,Result.andThen_ok]
   ·cases t
    ·exact AO.ev_rel hs h3
    ·exact AO.ev_rel hs h2
  ·cases h4
 | nilCheck xo =>
  rw [ho] at hc; simp only [comp] at hc
  obtain ⟨y,h1,rfl⟩:=Option.map_eq_some_iff.1 hc
  obtain ⟨g1,g2,g3⟩:=st_nilc H (AO.ev_rel hs h1) rfl hst hbl
  rw [g1,g2]
  refine Ok.value (cv:=a.eval xo) H ?_ (AO.ev_rel hs h1)
  dsimp only
  rcases g3 with ⟨ad,e⟩|⟨f,cs,e⟩|⟨t,u,e⟩ <;> rw [e] <;> rfl
 | binOp op' t xo yo yt =>
  show Ok X P w ι (do pure (.value (← (do eqGuard op' t xo yo (a.eval xo) (a.eval yo); binOp op' t (a.eval xo) (a.eval yo))))) x _
  rw [ho] at hc; simp only [comp] at hc
  obtain ⟨x',h1,hc⟩:=bind_some hc
  obtain ⟨y',h2,hc⟩:=bind_some hc
  have hxr:=AO.ev_rel hs h1
  have hyr:=AO.ev_rel hs h2
  have hbin:∀ {op},op=AOp.bin op' x' y'→stepA op (AO.ev sl) bl c=some (x,ups,news,R)→Ok X P w ι (do pure (.value (← (do eqGuard op' t xo yo (a.eval xo) (a.eval yo); binOp op' t (a.eval xo) (a.eval yo))))) x (appN (appU h ups) c news):=by
   rintro _ rfl hst
   simp only [stepA] at hst
   obtain ⟨h3,rfl,rfl⟩:=pureS_eq hst
   split at h3
   ·rename_i u v e1 e2
    rw [e1] at hxr; rw [e2] at hyr
    obtain ⟨z,h4,rfl⟩:=Option.map_eq_some_iff.1 h3
    rw [hxr.c_eq,hyr.c_eq]
    exact (OkV.same H (run_binV h4 w) .c).ok
   ·cases h3
  have heqb:∀ {op},∀ ne:Bool,op=AOp.eqb ne x' y'→P.underlying t=some .bool→op'=(if ne then .neq else .eql)→stepA op (AO.ev sl) bl c=some (x,ups,news,R)→Ok X P w ι (do pure (.value (← (do eqGuard op' t xo yo (a.eval xo) (a.eval yo); binOp op' t (a.eval xo) (a.eval yo))))) x (appN (appU h ups) c news):=by
   rintro _ ne rfl ht rfl hst
   simp only [stepA] at hst
   obtain ⟨h3,rfl,rfl⟩:=pureS_eq hst
   split at h3
   ·rename_i u v e1 e2
    rw [e1] at hxr; rw [e2] at hyr
    cases h3
    rw [hxr.c_eq,hyr.c_eq]
    refine (OkV.same (cv:=.bool (xor ne (u == v))) H ?_ .c).ok
    have:=run_equal_bool (w:=w) ht u v
    cases ne
    ·simp only [Bool.false_eq_true,if_false,eqGuard_at_bool,binOp,Sem.run_bind,Sem.run_pure,Result.andThen_ok,this]; simp
    ·simp only [if_true,eqGuard_at_bool,binOp,Sem.run_bind,Sem.run_pure,Result.andThen_ok,this]; simp
   ·cases h3
  have heqs:∀ {op},∀ (ne:Bool) (ks:List CK),op=AOp.eqs ks ne x' y'→shp P 20 t=some ks→P.eqGuardType P.depth t=false→((∃ fs,P.underlying t=some (.struct fs))∨∃ n e,P.underlying t=some (.array n e))→op'=(if ne then .neq else .eql)→stepA op (AO.ev sl) bl c=some (x,ups,news,R)→Ok X P w ι (do pure (.value (← (do eqGuard op' t xo yo (a.eval xo) (a.eval yo); binOp op' t (a.eval xo) (a.eval yo))))) x (appN (appU h ups) c news):=by
   rintro _ ne ks rfl hk hg ht hop hst
   simp only [stepA] at hst
   obtain ⟨h3,rfl,rfl⟩:=pureS_eq hst
   split at h3
   ·rename_i us vs e1 e2
    obtain ⟨b,h4,rfl⟩:=Option.map_eq_some_iff.1 h3
    rw [plainA_rel hxr e1,plainA_rel hyr e2]
    exact (OkV.same H (run_eqs w hk hg ht hop h4) .c).ok
   ·cases h3
  have heqn:∀ {op},∀ ne:Bool,op=AOp.eqn ne x'→∀ e,P.underlying t=some (.slice e)→op'=(if ne then .neq else .eql)→yo=.const (.slice none 0 0)→stepA op (AO.ev sl) bl c=some (x,ups,news,R)→Ok X P w ι (do pure (.value (← (do eqGuard op' t xo yo (a.eval xo) (a.eval yo); binOp op' t (a.eval xo) (a.eval yo))))) x (appN (appU h ups) c news):=by
   rintro _ ne rfl e ht rfl rfl hst
   have fin:∀ (ad:Option Addr) (n cp:Nat) (b:Bool),a.eval xo=.slice ad n cp→b=xor ne ad.isNone→x=.c (.bool b)→appN (appU h ups) c news=h→Ok X P w ι (do pure (.value (← (do eqGuard (if ne=true then BinOp.neq else BinOp.eql) t xo (Operand.const (Value.slice none 0 0)) (a.eval xo) (a.eval (Operand.const (Value.slice none 0 0))); binOp (if ne=true then BinOp.neq else BinOp.eql) t (a.eval xo) (a.eval (Operand.const (Value.slice none 0 0))))))) x (appN (appU h ups) c news):=by
    rintro ad n cp b e1 rfl rfl e2
    rw [e1,e2]
    have:=run_equal_nil (w:=w) ht ad n cp 0 0
    refine (OkV.same (cv:=.bool (xor ne ad.isNone)) H ?_ .c).ok
    cases ne
    ·simp only [Bool.false_eq_true,if_false,eqGuard_at_slice,binOp,Act.eval,Sem.run_bind,Sem.run_pure,Result.andThen_ok,this]; simp
    ·simp only [if_true,eqGuard_at_slice,binOp,Act.eval,Sem.run_bind,Sem.run_pure,Result.andThen_ok,this]; simp
   simp only [stepA] at hst
   split at hst
   ·rename_i n m e1
    rw [e1] at hxr
    cases hst
    exact fin none n m _ hxr.c_eq (by cases ne <;> rfl) rfl rfl
   ·rename_i b ver off len e1
    rw [e1] at hxr
    split at hst
    ·rename_i B hB
     split at hst
     ·rename_i hcc
      cases hst
      have hb:=hbl b (by simp)
      rw [hB] at hb
      obtain ⟨p,hp,hpv,hP,hBR⟩:=psl_at H hxr hb.symm hcc.1
      obtain ⟨ad,cap,e2,q1,q2,q3,q4⟩:=hP
      rcases q4 with rfl|⟨hreal,rfl⟩
      ·omega
      ·exact fin _ _ _ _ e2 (by cases ne <;> rfl) rfl rfl
     ·cases hst
    ·cases hst
   ·rename_i e0 rows e1
    rw [e1] at hxr
    split at hst
    ·rename_i hpos
     cases hst
     generalize hv:a.eval xo=v at *
     cases hxr with
     | slnil=>simp at hpos
     | sl cv hlen=>exact fin _ _ _ _ rfl (by cases ne <;> rfl) rfl rfl
    ·cases hst
     have fin':∀ (ad:Option Addr) (n cp:Nat),a.eval xo=.slice ad n cp→Ok X P w ι (do pure (.value (← (do eqGuard (if ne=true then BinOp.neq else BinOp.eql) t xo (Operand.const (Value.slice none 0 0)) (a.eval xo) (a.eval (Operand.const (Value.slice none 0 0))); binOp (if ne=true then BinOp.neq else BinOp.eql) t (a.eval xo) (a.eval (Operand.const (Value.slice none 0 0))))))) .bit (appN (appU h []) c []):=by
      rintro ad n cp e1
      rw [e1]
      have:=run_equal_nil (w:=w) ht ad n cp 0 0
      refine (OkV.same (cv:=.bool (xor ne ad.isNone)) H ?_ .bit).ok
      cases ne
      ·simp only [Bool.false_eq_true,if_false,eqGuard_at_slice,binOp,Act.eval,Sem.run_bind,Sem.run_pure,Result.andThen_ok,this]; simp
      ·simp only [if_true,eqGuard_at_slice,binOp,Act.eval,Sem.run_bind,Sem.run_pure,Result.andThen_ok,this]; simp
     generalize hv:a.eval xo=v at *
     cases hxr with
     | slnil=>exact fin' _ _ _ rfl
     | sl cv hlen=>exact fin' _ _ _ rfl
   ·cases hst
  have heqp:∀ {op},∀ ne:Bool,op=AOp.eqp ne x'→∀ e,P.underlying t=some (.pointer e)→op'=(if ne then .neq else .eql)→yo=.const (.pointer none)→stepA op (AO.ev sl) bl c=some (x,ups,news,R)→Ok X P w ι (do pure (.value (← (do eqGuard op' t xo yo (a.eval xo) (a.eval yo); binOp op' t (a.eval xo) (a.eval yo))))) x (appN (appU h ups) c news):=by
   rintro _ ne rfl e ht rfl rfl hst
   have fin:∀ (ad:Option Addr) (b:Bool),a.eval xo=.pointer ad→b=xor ne ad.isNone→x=.c (.bool b)→appN (appU h ups) c news=h→Ok X P w ι (do pure (.value (← (do eqGuard (if ne=true then BinOp.neq else BinOp.eql) t xo (Operand.const (Value.pointer none)) (a.eval xo) (a.eval (Operand.const (Value.pointer none))); binOp (if ne=true then BinOp.neq else BinOp.eql) t (a.eval xo) (a.eval (Operand.const (Value.pointer none))))))) x (appN (appU h ups) c news):=by
    rintro ad b e1 rfl rfl e2
    rw [e1,e2]
    have:=run_equal_nilp (w:=w) ht ad
    refine (OkV.same (cv:=.bool (xor ne ad.isNone)) H ?_ .c).ok
    cases ne
    ·simp only [Bool.false_eq_true,if_false,eqGuard_at_pointer,binOp,Act.eval,Sem.run_bind,Sem.run_pure,Result.andThen_ok,this]; simp
    ·simp only [if_true,eqGuard_at_pointer,binOp,Act.eval,Sem.run_bind,Sem.run_pure,Result.andThen_ok,this]; simp
   simp only [stepA] at hst
   split at hst
   ·rename_i b ver r k e1
    rw [e1] at hxr
    split at hst
    ·rename_i B hB
     split at hst
     ·rename_i hv
      cases hst
      have hb:=hbl b (by simp)
      rw [hB] at hb
      obtain ⟨p,hp,hpv,hreal,e2,hBR⟩:=ptr_at H hxr hb.symm hv
      exact fin (some _) _ e2 (by cases ne <;> rfl) rfl rfl
     ·cases hst
    ·cases hst
   ·rename_i row k e1
    rw [e1] at hxr
    cases hst
    generalize hv:a.eval xo=v at *
    cases hxr with
    | dp cv=>exact fin (some _) _ rfl (by cases ne <;> rfl) rfl rfl
   ·rename_i e1
    rw [e1] at hxr
    cases hst
    exact fin none _ hxr.c_eq (by cases ne <;> rfl) rfl rfl
   ·cases hst
  split at hc
  ·cases hc; exact hbin rfl hst
  ·cases hc; exact hbin rfl hst
  ·rename_i ht
   split at hc
   ·cases hc; exact heqb false rfl ht rfl hst
   ·cases hc; exact heqb true rfl ht rfl hst
   ·cases hc
  ·rename_i e ht
   split at hc
   ·cases hc; exact heqn false rfl e ht rfl rfl hst
   ·cases hc; exact heqn true rfl e ht rfl rfl hst
   ·cases hc
  ·rename_i e ht
   split at hc
   ·cases hc; exact heqp false rfl e ht rfl rfl hst
   ·cases hc; exact heqp true rfl e ht rfl rfl hst
   ·cases hc
  ·rename_i fs ht
   unfold compEq at hc
   split at hc
   ·rename_i hg
    split at hc
    ·obtain ⟨ks,hk,rfl⟩:=Option.map_eq_some_iff.1 hc; exact heqs false ks rfl hk hg (.inl ⟨fs,ht⟩) rfl hst
    ·obtain ⟨ks,hk,rfl⟩:=Option.map_eq_some_iff.1 hc; exact heqs true ks rfl hk hg (.inl ⟨fs,ht⟩) rfl hst
    ·cases hc
   ·cases hc
  ·rename_i n e ht
   unfold compEq at hc
   split at hc
   ·rename_i hg
    split at hc
    ·obtain ⟨ks,hk,rfl⟩:=Option.map_eq_some_iff.1 hc; exact heqs false ks rfl hk hg (.inr ⟨n,e,ht⟩) rfl hst
    ·obtain ⟨ks,hk,rfl⟩:=Option.map_eq_some_iff.1 hc; exact heqs true ks rfl hk hg (.inr ⟨n,e,ht⟩) rfl hst
    ·cases hc
   ·cases hc
  ·cases hc
 | unOp op' t xo =>
  show Ok X P w ι (do pure (.value (← Op.unary op' (a.eval xo)))) x _
  rw [ho] at hc; simp only [comp] at hc
  obtain ⟨x',h1,hc⟩:=bind_some hc
  have hxr:=AO.ev_rel hs h1
  split at hc
  ·cases hc
   simp only [stepA] at hst
   obtain ⟨h3,rfl,rfl⟩:=pureS_eq hst
   split at h3
   ·rename_i b e1
    rw [e1] at hxr
    cases h3
    rw [hxr.c_eq]
    exact (OkV.same H (by simp [Op.unary]) .c).ok
   ·cases h3
  ·cases hc
   simp only [stepA] at hst
   obtain ⟨h3,rfl,rfl⟩:=pureS_eq hst
   split at h3
   ·rename_i k n e1
    rw [e1] at hxr
    cases h3
    rw [hxr.c_eq]
    exact (OkV.same H (by simp [Op.unary,Op.intArith]) .c).ok
   ·cases h3
  ·cases hc
   simp only [stepA] at hst
   obtain ⟨h3,rfl,rfl⟩:=pureS_eq hst
   split at h3
   ·rename_i k n e1
    rw [e1] at hxr
    cases h3
    rw [hxr.c_eq]
    exact (OkV.same H (by simp [Op.unary]; rfl) .c).ok
   ·cases h3
  ·cases hc
 | convert s t xo =>
  show Ok X P w ι (do pure (.value (← convert s t (a.eval xo)))) x _
  rw [ho] at hc; simp only [comp] at hc
  obtain ⟨x',h1,hc⟩:=bind_some hc
  have hxr:=AO.ev_rel hs h1
  split at hc
  ·rename_i k1 k2 hu1 hu2
   cases hc
   simp only [stepA] at hst
   obtain ⟨h3,rfl,rfl⟩:=pureS_eq hst
   split at h3
   ·rename_i k n e1
    rw [e1] at hxr
    cases h3
    rw [hxr.c_eq]
    exact (OkV.same H (by simp [convert,run_underlying hu1,run_underlying hu2,Conv.intToInt]) .c).ok
   ·cases h3
  ·rename_i k1 hu1 hu2
   cases hc
   simp only [stepA] at hst
   obtain ⟨h3,rfl,rfl⟩:=pureS_eq hst
   split at h3
   ·rename_i k n e1
    rw [e1] at hxr
    cases h3
    rw [hxr.c_eq]
    exact (OkV.same H (by simp [convert,run_underlying hu1,run_underlying hu2,Conv.intToString]) .c).ok
   ·cases h3
  ·rename_i e hu1 hu2
   split at hc
   ·rename_i hu3
    cases hc
    exact (st_s2b H hu1 hu2 hu3 hxr hst hnew).ok
   ·cases hc
  ·cases hc
 | box e xo =>
  rw [ho] at hc; simp only [comp] at hc
  obtain ⟨s,h1,hc⟩:=bind_some hc
  obtain ⟨y,h2,hc⟩:=bind_some hc
  cases hc
  exact (st_new H e (AO.ev_rel hs h2) hst hbl hnew).ok
 | alloc e =>
  rw [ho] at hc; simp only [comp] at hc
  obtain ⟨z,h1,rfl⟩:=Option.map_eq_some_iff.1 hc
  exact (st_zero H e h1 hst hnew).ok
 | build t parts =>
  rw [ho] at hc; simp only [comp] at hc
  obtain ⟨z,h1,hc⟩:=bind_some hc
  obtain ⟨ps,h2,hc⟩:=bind_some hc
  cases hc
  exact (st_build H hs h1 h2 hst hbl).ok
 | buildSlice t len parts =>
  rw [ho] at hc; simp only [comp] at hc
  split at hc
  ·rename_i e ht
   obtain ⟨z,h1,hc⟩:=bind_some hc
   obtain ⟨ps,h2,hc⟩:=bind_some hc
   cases hc
   refine (st_bsl H hs ht h1 ?_ hst hbl hnew).ok
   rw [← h2]
   congr 1
   funext p
   obtain ⟨i,o⟩:=p
   cases compO o <;> rfl
  ·cases hc
 | load t ao =>
  rw [ho] at hc; simp only [comp] at hc
  obtain ⟨n,h1,hc⟩:=bind_some hc
  obtain ⟨y,h2,hc⟩:=bind_some hc
  cases hc
  exact (st_ld H h1 (AO.ev_rel hs h2) hst hbl).ok
 | store t ao vo =>
  rw [ho] at hc; simp only [comp] at hc
  obtain ⟨n,h1,hc⟩:=bind_some hc
  obtain ⟨y,h2,hc⟩:=bind_some hc
  obtain ⟨z,h3,hc⟩:=bind_some hc
  cases hc
  exact st_st H h1 (AO.ev_rel hs h2) (AO.ev_rel hs h3) hst hbl
 | makeSlice t lo co =>
  rw [ho] at hc; simp only [comp] at hc
  split at hc
  ·rename_i e ht
   obtain ⟨z,h1,hc⟩:=bind_some hc
   obtain ⟨i,h2,hc⟩:=bind_some hc
   obtain ⟨y1,h3,hc⟩:=bind_some hc
   obtain ⟨y2,h4,hc⟩:=bind_some hc
   cases hc
   exact (st_mksl H ht h1 h2 (AO.ev_rel hs h3) (AO.ev_rel hs h4) hst hnew).ok
  ·cases hc
 | slice t xo lo hi mx =>
  rw [ho] at hc
  cases mx with
  | some m=>simp [comp] at hc
  | none =>
   simp only [comp] at hc
   split at hc
   ·rename_i e ht
    obtain ⟨s,h1,hc⟩:=bind_some hc
    obtain ⟨y,h2,hc⟩:=bind_some hc
    obtain ⟨l',h3,hc⟩:=bind_some hc
    obtain ⟨h',h4,hc⟩:=bind_some hc
    cases hc
    exact (st_slc H hs ht h1 (AO.ev_rel hs h2) h3 h4 hst hbl).ok
   ·rename_i ht
    obtain ⟨y,h2,hc⟩:=bind_some hc
    obtain ⟨l',h3,hc⟩:=bind_some hc
    obtain ⟨h',h4,hc⟩:=bind_some hc
    cases hc
    simp only [stepA] at hst
    obtain ⟨h5,rfl,rfl⟩:=pureS_eq hst
    have hxr:=AO.ev_rel hs h2
    split at h5
    ·rename_i s e1
     rw [e1] at hxr
     split at h5
     ·rename_i l hh hl hh'
      split at h5
      ·rename_i hcc
       cases h5
       obtain ⟨r1,r2⟩:=opt_lo hs h3 hl
       obtain ⟨r3,r4⟩:=opt_lo hs h4 hh'
       have hrun:=run_slice_str ht w r1 r2 r3 r4 hcc.1 hcc.2.1 hcc.2.2
       rw [← hxr.c_eq] at hrun
       exact (OkV.same H hrun .c).ok
      ·cases h5
     ·cases h5
    ·cases h5
   ·cases hc
 | fieldAddr t xo i =>
  rw [ho] at hc; simp only [comp] at hc
  split at hc
  ·rename_i fields ht
   obtain ⟨f,h1,hc⟩:=bind_some hc
   obtain ⟨s,h2,hc⟩:=bind_some hc
   split at hc
   ·cases hc
   ·rename_i h0
    obtain ⟨y,h3,hc⟩:=bind_some hc
    cases hc
    exact (st_fad H ht h1 h2 h0 (AO.ev_rel hs h3) hst hbl).ok
  ·cases hc
 | indexAddr t xo io =>
  rw [ho] at hc; simp only [comp] at hc
  split at hc
  ·rename_i e ht
   obtain ⟨s,h1,hc⟩:=bind_some hc
   obtain ⟨y,h2,hc⟩:=bind_some hc
   obtain ⟨z,h3,hc⟩:=bind_some hc
   cases hc
   exact (st_idx_sl H ht h1 (AO.ev_rel hs h2) (AO.ev_rel hs h3) hst hbl).ok
  ·rename_i n e ht
   obtain ⟨s,h1,hc⟩:=bind_some hc
   obtain ⟨y,h2,hc⟩:=bind_some hc
   obtain ⟨z,h3,hc⟩:=bind_some hc
   cases hc
   exact (st_idx_arr H ht h1 (AO.ev_rel hs h2) (AO.ev_rel hs h3) hst hbl).ok
  ·cases hc
 | field t xo i =>
  show Ok X P w ι (do pure (.value (← Instr.field t (a.eval xo) i))) x _
  rw [ho] at hc; simp only [comp] at hc
  split at hc
  ·rename_i fields ht
   obtain ⟨f,h1,hc⟩:=bind_some hc
   obtain ⟨n,h2,hc⟩:=bind_some hc
   obtain ⟨y,h3,hc⟩:=bind_some hc
   cases hc
   simp only [stepA] at hst
   obtain ⟨h4,rfl,rfl⟩:=pureS_eq hst
   split at h4
   ·rename_i cs e1
    have hxr:=AO.ev_rel hs h3
    rw [e1] at hxr
    obtain ⟨vs,e2,hl⟩:=agg_LRel hxr
    obtain ⟨v,g1,g2⟩:=run_part (P:=P) h2 hl h4
    refine (OkV.same H ?_ g2).ok
    rw [e2]
    simp only [Instr.field,Sem.run_bind,run_underlying ht,Result.andThen_ok,h1,asAgg,Sem.run_pure,g1]
   ·cases h4
  ·cases hc
 | index t xo io =>
  show Ok X P w ι (do pure (.value (← Instr.index t (a.eval xo) (a.eval io)))) x _
  rw [ho] at hc; simp only [comp] at hc
  split at hc
  ·rename_i n0 e ht
   obtain ⟨s,h1,hc⟩:=bind_some hc
   obtain ⟨n,h2,hc⟩:=bind_some hc
   obtain ⟨y,h3,hc⟩:=bind_some hc
   obtain ⟨z,h4,hc⟩:=bind_some hc
   cases hc
   simp only [stepA] at hst
   obtain ⟨h5,rfl,rfl⟩:=pureS_eq hst
   split at h5
   ·rename_i j cs e1 e2
    have hxr:=AO.ev_rel hs h3
    rw [e2] at hxr
    obtain ⟨kk,e3⟩:=ofInt_rel (AO.ev_rel hs h4) e1
    obtain ⟨vs,e4,hl⟩:=agg_LRel hxr
    split at h5
    ·rename_i hj
     obtain ⟨v,g1,g2⟩:=run_part (P:=P) h2 hl (off:=j.toNat * s) (x:=x) h5
     refine (OkV.same H ?_ g2).ok
     rw [e4,e3]
     simp only [Instr.index,asIntOf,Sem.run_bind,Sem.run_pure,run_underlying ht,Result.andThen_ok,Sem.run_ite,if_pos hj,run_sizeOf h1,g1]
    ·cases h5
   ·cases h5
  ·rename_i ht
   obtain ⟨y,h3,hc⟩:=bind_some hc
   obtain ⟨z,h4,hc⟩:=bind_some hc
   cases hc
   simp only [stepA] at hst
   obtain ⟨h5,rfl,rfl⟩:=pureS_eq hst
   split at h5
   ·rename_i j s e1 e2
    have hxr:=AO.ev_rel hs h3
    rw [e2] at hxr
    obtain ⟨kk,e3⟩:=ofInt_rel (AO.ev_rel hs h4) e1
    split at h5
    ·rename_i hj
     obtain ⟨b,g1,rfl⟩:=Option.map_eq_some_iff.1 h5
     refine (OkV.same (cv:=.int .u8 b.toNat) H ?_ .c).ok
     rw [hxr.c_eq,e3]
     simp only [Instr.index,asIntOf,Sem.run_bind,Sem.run_pure,run_underlying ht,Result.andThen_ok,if_pos hj,g1]
    ·cases h5
   ·cases h5
  ·cases hc
 | extract xo i =>
  show Ok X P w ι (do pure (.value (← Instr.extract (a.eval xo) i))) x _
  rw [ho] at hc; simp only [comp] at hc
  obtain ⟨y,h1,hc⟩:=bind_some hc
  cases hc
  simp only [stepA] at hst
  obtain ⟨h4,rfl,rfl⟩:=pureS_eq hst
  split at h4
  ·rename_i vs e1
   have hxr:=AO.ev_rel hs h1
   rw [e1] at hxr
   generalize hv:a.eval xo=v at *
   cases hxr with
   | tup hl hh =>
    rename_i cs
    have hlt:=(List.getElem?_eq_some_iff.1 h4).1
    have hci:cs[i]?=some (cs[i]'(by rw [hl]; exact hlt)):=Array.getElem?_eq_getElem _
    refine (OkV.same H ?_ (hh i _ x hci h4)).ok
    simp only [Instr.extract,hci,Sem.run_pure]
  ·cases h4
 | makeFunc fn first caps =>
  rw [ho] at hc
  cases fn with
  | func f =>
   simp only [comp] at hc
   split at hc
   ·rename_i h0
    obtain ⟨l,h1,rfl⟩:=Option.map_eq_some_iff.1 hc
    simp only [stepA] at hst
    cases hst
    obtain ⟨g1,g2⟩:=compL_rel hs h1
    have hf:first=#[]:=by simpa using h0
    subst hf
    refine (OkV.same (cv:=.func (.func f) #[] (caps.map a.eval)) H (by simp [Instr.makeFunc]) ?_).ok
    refine .fn (by simpa using g1) (fun i u y hu hy=>?_)
    rw [List.getElem?_map] at hy
    obtain ⟨y',h2,rfl⟩:=Option.map_eq_some_iff.1 hy
    refine g2 i u y' ?_ h2
    rw [List.getElem?_map]
    simpa using hu
   ·cases hc
  | method=>simp [comp] at hc
  | methodOf=>simp [comp] at hc
  | via=>simp [comp] at hc
  | yield=>simp [comp] at hc
 | makeInterface t xo =>
  rw [ho] at hc; simp only [comp] at hc
  have key:∀ d,P.underlying t=some d→(∀ ms,d≠.interface ms)→(compO xo).map (AOp.mki t)=some op→Ok X P w ι (do pure (.value (← Instr.makeInterface t (a.eval xo)))) x (appN (appU h ups) c news):=by
   intro d hd hne hc
   obtain ⟨y,h1,rfl⟩:=Option.map_eq_some_iff.1 hc
   simp only [stepA] at hst
   cases hst
   refine (OkV.same (cv:=.iface t (a.eval xo)) H ?_ (.ifc (AO.ev_rel hs h1))).ok
   simp only [Instr.makeInterface,Sem.run_bind,run_underlying hd,Result.andThen_ok]
   cases d <;> first|rfl|(exact absurd rfl (hne _))
  split at hc
  ·cases hc
  ·cases hc
  ·rename_i h1 h2
   cases hd:P.underlying t with
   | none=>exact absurd hd h2
   | some d =>
    refine key d hd (fun ms e=>h1 ms (by rw [hd,e])) ?_
    rw [← hc]
    cases compO xo <;> rfl
 | call cl =>
  obtain ⟨callee,args,ats⟩:=cl
  show Ok X P w ι (do let d ← resolve a.eval ⟨callee,args,ats⟩ o.type; invoke d.target d.args) x _
  rw [ho] at hc; simp only [comp] at hc
  cases callee with
  | value f =>
   exfalso
   cases f with
   | func f =>
    dsimp only at hc
    split at hc
    ·obtain ⟨l,_,rfl⟩:=Option.map_eq_some_iff.1 hc; simp [stepA] at hst
    ·obtain ⟨l,_,rfl⟩:=Option.map_eq_some_iff.1 hc; simp [stepA] at hst
   | tmp t =>
    dsimp only at hc
    obtain ⟨y,_,hc⟩:=bind_some hc; obtain ⟨l,_,hc⟩:=bind_some hc; cases hc; simp [stepA] at hst
   | const v =>
    dsimp only at hc
    obtain ⟨y,_,hc⟩:=bind_some hc; obtain ⟨l,_,hc⟩:=bind_some hc; cases hc; simp [stepA] at hst
   | global g =>
    dsimp only at hc
    obtain ⟨y,_,hc⟩:=bind_some hc; obtain ⟨l,_,hc⟩:=bind_some hc; cases hc; simp [stepA] at hst
  | invoke r m =>
   dsimp only at hc
   obtain ⟨y,_,hc⟩:=bind_some hc; obtain ⟨l,_,hc⟩:=bind_some hc; cases hc; simp [stepA] at hst
  | builtin b =>
   dsimp only at hc
   have hres:∀ cs,(do let d ← resolve a.eval ⟨.builtin b,args,ats⟩ o.type; invoke d.target d.args:Sem Next)=builtin b ats o.type cs (args.map a.eval)→True:=fun _ _=>trivial
   have hargs:∀ l,args.toList=l→(args.map a.eval)=(l.map a.eval).toArray:=by rintro _ rfl; apply Array.ext'; simp
   have hats:∀ l,ats.toList=l→ats=l.toArray:=by rintro _ rfl; simp
   split at hc
   ·rename_i t xo e1 e2
    rw [hats _ e1] at *
    split at hc
    ·rename_i e ht
     obtain ⟨y,h1,rfl⟩:=Option.map_eq_some_iff.1 hc
     have:=(st_len H ht (ty:=o.type) (AO.ev_rel hs h1) hst hbl).ok
     simpa [resolve,invoke,builtin,hargs _ e2] using this
    ·rename_i ht
     obtain ⟨y,h1,rfl⟩:=Option.map_eq_some_iff.1 hc
     have:=(st_lens H ht (ty:=o.type) (AO.ev_rel hs h1) hst).ok
     simpa [resolve,invoke,builtin,hargs _ e2] using this
    ·rename_i n e ht
     cases hc
     simp only [stepA] at hst
     cases hst
     have:OkV X P w ι (Builtin.len_ #[t] o.type #[a.eval xo]) (.c (.int .i64 n)) h:=OkV.same (cv:=goInt n) H (by simp [Builtin.len_,run_underlying ht]) .c
     simpa [resolve,invoke,builtin,hargs _ e2,appU,appN] using this.ok
    ·cases hc
   ·rename_i t xo e1 e2
    rw [hats _ e1] at *
    split at hc
    ·rename_i e ht
     obtain ⟨y,h1,rfl⟩:=Option.map_eq_some_iff.1 hc
     have:=(st_capx H ht (ty:=o.type) (AO.ev_rel hs h1) hst hbl).ok
     simpa [resolve,invoke,builtin,hargs _ e2] using this
    ·cases hc
   ·rename_i t t2 dO sO e1 e2
    rw [hats _ e1] at *
    split at hc
    ·rename_i e ht
     obtain ⟨s,h0,hc⟩:=bind_some hc
     obtain ⟨y,h1,hc⟩:=bind_some hc
     obtain ⟨z,h2,hc⟩:=bind_some hc
     cases hc
     have:=(st_copy H ht h0 (t2:=t2) (ty:=o.type) (AO.ev_rel hs h1) (AO.ev_rel hs h2) hst hbl).ok
     simpa [resolve,invoke,builtin,hargs _ e2] using this
    ·cases hc
   ·rename_i t t2 dO sO e1 e2
    rw [hats _ e1] at *
    split at hc
    ·rename_i e e' ht ht2
     obtain ⟨i,h0,hc⟩:=bind_some hc
     obtain ⟨zz,h00,hc⟩:=bind_some hc
     obtain ⟨y,h1,hc⟩:=bind_some hc
     obtain ⟨z,h2,hc⟩:=bind_some hc
     cases hc
     have:=(st_app H ht ht2 h0 h00 (ty:=o.type) (AO.ev_rel hs h1) (AO.ev_rel hs h2) hst hbl hnew).ok
     simpa [resolve,invoke,builtin,hargs _ e2] using this
    ·rename_i e k ht ht2
     obtain ⟨i,h0,hc⟩:=bind_some hc
     obtain ⟨zz,h00,hc⟩:=bind_some hc
     obtain ⟨y,h1,hc⟩:=bind_some hc
     obtain ⟨z,h2,hc⟩:=bind_some hc
     cases hc
     have:=(st_appz H ht ht2 h0 h00 (ty:=o.type) (AO.ev_rel hs h1) (AO.ev_rel hs h2) hst hnew).ok
     simpa [resolve,invoke,builtin,hargs _ e2] using this
    ·cases hc
   ·rename_i t xo e1 e2
    rw [hats _ e1] at *
    split at hc
    ·rename_i e ht
     obtain ⟨zz,h0,hc⟩:=bind_some hc
     obtain ⟨y,h1,hc⟩:=bind_some hc
     cases hc
     have:=(st_clr H ht h0 (ty:=o.type) (AO.ev_rel hs h1) hst hbl).ok
     simpa [resolve,invoke,builtin,hargs _ e2] using this
    ·cases hc
   ·obtain ⟨l,h1,rfl⟩:=Option.map_eq_some_iff.1 hc
    obtain ⟨g1,g2⟩:=compL_rel hs h1
    simp only [stepA] at hst
    obtain ⟨h4,rfl,rfl⟩:=pureS_eq hst
    cases l with
    | nil=>cases h4
    | cons y ys =>
     cases hl:args.toList with
     | nil=>rw [hl] at g1; simp at g1
     | cons q qs =>
      rw [hl] at g1 g2
      obtain ⟨v,r1,r2⟩:=run_mnx (P:=P) (w:=w) (ι:=ι) (ev:=AO.ev sl) false (qs.map a.eval) ys (a.eval q) _ x (by simpa using g1) (fun i u y' hu hy=>g2 (i+1) u y' (by simpa using hu) (by simpa using hy)) (g2 0 _ y rfl rfl) h4
      have:OkV X P w ι (Builtin.min_ ats o.type (args.map a.eval)) x h:=OkV.same H (by rw [hargs _ hl]; simpa [Builtin.min_] using r1) r2
      simpa [resolve,invoke,builtin,appU,appN] using this.ok
   ·obtain ⟨l,h1,rfl⟩:=Option.map_eq_some_iff.1 hc
    obtain ⟨g1,g2⟩:=compL_rel hs h1
    simp only [stepA] at hst
    obtain ⟨h4,rfl,rfl⟩:=pureS_eq hst
    cases l with
    | nil=>cases h4
    | cons y ys =>
     cases hl:args.toList with
     | nil=>rw [hl] at g1; simp at g1
     | cons q qs =>
      rw [hl] at g1 g2
      obtain ⟨v,r1,r2⟩:=run_mnx (P:=P) (w:=w) (ι:=ι) (ev:=AO.ev sl) true (qs.map a.eval) ys (a.eval q) _ x (by simpa using g1) (fun i u y' hu hy=>g2 (i+1) u y' (by simpa using hu) (by simpa using hy)) (g2 0 _ y rfl rfl) h4
      have:OkV X P w ι (Builtin.max_ ats o.type (args.map a.eval)) x h:=OkV.same H (by rw [hargs _ hl]; simpa [Builtin.max_] using r1) r2
      simpa [resolve,invoke,builtin,appU,appN] using this.ok
   ·cases hc
 | insert=>rw [ho] at hc; simp [comp] at hc
 | ready=>rw [ho] at hc; simp [comp] at hc
 | waits=>rw [ho] at hc; simp [comp] at hc
 | sliceToArrayPointer=>rw [ho] at hc; simp [comp] at hc
 | makeMap=>rw [ho] at hc; simp [comp] at hc
 | makeChan=>rw [ho] at hc; simp [comp] at hc
 | lookup=>rw [ho] at hc; simp [comp] at hc
 | mapUpdate=>rw [ho] at hc; simp [comp] at hc
 | mapEntry=>rw [ho] at hc; simp [comp] at hc
 | entryStore=>rw [ho] at hc; simp [comp] at hc
 | range=>rw [ho] at hc; simp [comp] at hc
 | next=>rw [ho] at hc; simp [comp] at hc
 | entry=>rw [ho] at hc; simp [comp] at hc
 | typeAssert=>rw [ho] at hc; simp [comp] at hc
 | go=>rw [ho] at hc; simp [comp] at hc
 | defer=>rw [ho] at hc; simp [comp] at hc
 | panic=>rw [ho] at hc; simp [comp] at hc
 | send=>rw [ho] at hc; simp [comp] at hc
 | recv=>rw [ho] at hc; simp [comp] at hc
 | select=>rw [ho] at hc; simp [comp] at hc
end
end Go.Proofs.Ytdbbnlafkndcnaa.Calc
namespace Go.Proofs.Ytdbbnlafkndcnaa.Calc
open Go
variable {X:Nat→Prop}
def FnE (P:Program) (f:FuncId) (args:List V) (h:List Blk) (r:V) (h':List Blk):Prop :=
 ∀ (X:Nat→Prop) (w:World) (ι:List Place) (vs:Array Value),HRel X w ι h→vs.size=args.length →
  (∀ (i:Nat) (v:Value) (y:V),vs[i]?=some v→args[i]?=some y→Rel w (OX X ι) ι v y) →
  Calls P f vs w fun e w'=>∃ v ι',e=.returned v∧HRel X w' ι' h'∧Rel w' (OX X ι') ι' v r∧Frm w (Own ι) w' (Own ι')∧Refs ι ι'
def ExtE (P:Program) (f:FuncId) (args:List V) (r:V):Prop :=
 ∀ (X:Nat→Prop) (w:World) (ι:List Place) (vs:Array Value),vs.size=args.length →
  (∀ (i:Nat) (v:Value) (y:V),vs[i]?=some v→args[i]?=some y→Rel w (OX X ι) ι v y) →
  ∃ v,(callFunc f vs).run P w=.ok (.value v) w∧Rel w (OX X ι) ι v r
def pas (ids:List Nat):V→V :=
 V.mapR (fun b ver off len=>match pos ids b with
   | some b'=>.psl b' ver off len
   | none=>.any)
  (fun b ver r k=>match pos ids b with
   | some b'=>.ptr b' ver r k
   | none=>.any)
def pasB (ids:List Nat) (k:Blk):Blk:={ k with rows:=k.rows.map (·.map (pas ids)) }
def pasH (h:List Blk) (ids:List Nat):List Blk:=ids.map fun b=>pasB ids (h.getD b default)
def ren (keys:List Nat):V→V :=
 V.mapR (fun b ver off len=>match keys[b]? with
   | some b'=>.psl b' ver off len
   | none=>.any)
  (fun b ver r k=>match keys[b]? with
   | some b'=>.ptr b' ver r k
   | none=>.any)
def renB (keys:List Nat) (k:Blk):Blk:={ k with rows:=k.rows.map (·.map (ren keys)) }
def back (h:List Blk) (keys:List Nat) (hout:List Blk):List Blk :=
 (List.range h.length).map fun b=>match pos keys b with
  | some j=>renB keys (hout.getD j default)
  | none=>h.getD b default
theorem passed {w:World} {ι:List Place} {h:List Blk} (H:HRel X w ι h) (ids:List Nat) (hnd:ids.Nodup) (hlt:∀ b ∈ ids,b < h.length) :
  ∃ (ι':List Place) (X':Nat→Prop),ι'=ids.map (fun b=>ι.getD b default)∧(∀ r,X' r↔OX X ι r∧¬ Own ι' r)∧HRel X' w ι' (pasH h ids)∧(∀ v x,Rel w (OX X ι) ι v x→Rel w (OX X' ι') ι' v (pas ids x)) ∧
   (∀ r,Own ι' r→Own ι r)∧(∀ (i:Nat) (p:Place),ι'[i]?=some p→∃ b:Nat,ids[i]?=some b∧ι[b]?=some p):=by
 have hget:∀ {i:Nat} {p:Place},(ids.map (fun b=>ι.getD b default))[i]?=some p→∃ b,ids[i]?=some b∧ι[b]?=some p:=by
  intro i p hi
  rw [List.getElem?_map] at hi
  obtain ⟨b,h1,h2⟩:=Option.map_eq_some_iff.1 hi
  refine ⟨b,h1,?_⟩
  have:=hlt b (List.mem_of_getElem? h1)
  rw [← H.len] at this
  rw [List.getD_eq_getElem?_getD,List.getElem?_eq_getElem this] at h2
  rw [List.getElem?_eq_getElem this]; simpa using h2
 have hput:∀ {i b:Nat} {p:Place},ids[i]?=some b→ι[b]?=some p→(ids.map (fun b=>ι.getD b default))[i]?=some p:=by
  intro i b p h1 h2
  rw [List.getElem?_map,h1,Option.map_some,List.getD_eq_getElem?_getD,h2]; rfl
 have hown':∀ r,Own (ids.map (fun b=>ι.getD b default)) r→Own ι r:=by
  rintro r ⟨p,hp,hr,rfl⟩
  obtain ⟨i,hi⟩:=List.mem_iff_getElem?.1 hp
  obtain ⟨b,h1,h2⟩:=hget hi
  exact Own.of h2 hr
 refine ⟨ids.map (fun b=>ι.getD b default),fun r=>OX X ι r∧¬ Own (ids.map (fun b=>ι.getD b default)) r,rfl,fun r=>Iff.rfl,?_⟩
 have hrel:∀ v x,Rel w (OX X ι) ι v x→Rel w (OX (fun r=>OX X ι r∧¬ Own (ids.map (fun b=>ι.getD b default)) r) (ids.map (fun b=>ι.getD b default))) (ids.map (fun b=>ι.getD b default)) v (pas ids x):=by
  intro v x hx
  refine hx.mapR (fun r hr=>?_) (fun b ver off len cv hcv=>?_) (fun b ver r k cv hcv=>?_)
  ·rcases hr with hr|hr
   ·exact .inl (hown' r hr)
   ·exact hr.1
  ·cases hb:pos ids b with
   | none=>exact .any
   | some b' =>
    cases hcv with
    | psl p hp hle hP=>exact .psl p (hput (pos_get hb) hp) hle hP
  ·cases hb:pos ids b with
   | none=>exact .any
   | some b' =>
    cases hcv with
    | ptr p hp hle hP=>exact .ptr p (hput (pos_get hb) hp) hle hP
 refine ⟨⟨by simp [pasH],?_,?_,?_,?_⟩,hrel,hown',fun i p hi=>hget hi⟩
 ·intro i p k hi hk
  obtain ⟨b,h1,h2⟩:=hget hi
  have hb:b < h.length:=hlt b (List.mem_of_getElem? h1)
  simp only [pasH,List.getElem?_map,h1,Option.map_some,Option.some.injEq] at hk
  subst hk
  have hg:h.getD b default=h[b]:=by rw [List.getD_eq_getElem?_getD,List.getElem?_eq_getElem hb]; rfl
  have B:=H.blk b p h[b] h2 (List.getElem?_eq_getElem hb)
  rw [← hg] at B
  refine ⟨B.ver,B.esz,B.pos,by simpa [pasB] using B.num,B.fit,?_,fun hr=>?_,B.virt⟩
  ·intro row hrow
   simp only [pasB] at hrow
   obtain ⟨r,hr,rfl⟩:=List.mem_map.1 hrow
   rw [List.length_map]; exact B.rows r hr
  ·obtain ⟨c,T,fz,g1,g2,g3,g4⟩:=B.cells hr
   refine ⟨c,T,fz,g1,g2,g3,fun i j x hx=>?_⟩
   simp only [pasB] at hx
   obtain ⟨y,hy,rfl⟩:=cellOf_map _ _ _ _ _ hx
   obtain ⟨v,e1,e3,e2⟩:=g4 i j y hy
   exact ⟨v,e1,e3,hrel v y e2⟩
 ·intro i j p p' hi hj hr hr' e
  obtain ⟨b,h1,h2⟩:=hget hi
  obtain ⟨b',h1',h2'⟩:=hget hj
  have hbb:=H.sep b b' p p' h2 h2' hr hr' e
  subst hbb
  exact (List.getElem?_inj (List.getElem?_eq_some_iff.1 h1).1 hnd).1 (by rw [h1,h1'])
 ·intro i p hi hr hx
  exact hx.2 (Own.of hi hr)
 ·intro r hr
  rcases hr.1 with h1|h1
  ·exact H.own_lt h1
  ·exact H.xlt r h1
theorem nodup_pos {keys:List Nat} (hnd:keys.Nodup) {j b:Nat} (h:keys[j]?=some b):pos keys b=some j:=by
 have hm:=List.mem_of_getElem? h
 obtain ⟨i,hi⟩:=Option.isSome_iff_exists.1 (pos_mem hm)
 have:=pos_get hi
 have e:i=j:=(List.getElem?_inj (List.getElem?_eq_some_iff.1 this).1 hnd).1 (by rw [this,h])
 rw [hi,e]
theorem call_ok {P:Program} {f:FuncId} {w:World} {ι:List Place} {h:List Blk} (H:HRel X w ι h) {perm newk:List Nat} {args:List V} {r:V} {hout:List Blk} {vs:Array Value}
  (hF:FnE P f (args.map (pas perm)) (pasH h perm) r hout) (hsz:vs.size=args.length) (hargs:∀ (i:Nat) (v:Value) (y:V),vs[i]?=some v→args[i]?=some y→Rel w (OX X ι) ι v y)
  (hnd:(perm ++ newk).Nodup) (hlt:∀ b ∈ perm ++ newk,b < h.length) (hlen:hout.length=(perm ++ newk).length)
  (hver:∀ (j b:Nat) (k:Blk),perm.length≤j→(perm ++ newk)[j]?=some b→hout[j]?=some k→0 < k.ver∧∃ k0:Blk,h[b]?=some k0∧k0.ver=0) :
  Calls P f vs w fun e w'=>∃ v ι',e=.returned v∧HRel X w' ι' (back h (perm ++ newk) hout)∧Rel w' (OX X ι') ι' v (ren (perm ++ newk) r)∧Frm w (Own ι) w' (Own ι')∧Refs ι ι':=by
 have hnd1:perm.Nodup:=(List.nodup_append.1 hnd).1
 obtain ⟨ιi,X',rfl,hX',Hi,hri,howni,hgeti⟩:=passed H perm hnd1 (fun b hb=>hlt b (by simp [hb]))
 refine (hF X' w _ vs Hi (by simpa using hsz) (fun i v y hv hy=>?_)).mono ?_
 ·rw [List.getElem?_map] at hy
  obtain ⟨y',h1,rfl⟩:=Option.map_eq_some_iff.1 hy
  exact hri v y' (hargs i v y' hv h1)
 rintro e w' ⟨v,ιo,rfl,Ho,hro,hFo,hRo⟩
 generalize hk:perm ++ newk=keys at *
 -- the caller's places
 obtain ⟨ι',hι'⟩:∃ ι':List Place,ι'=(List.range ι.length).map (fun b=>match pos keys b with|some j=>ιo.getD j default|none=>ι.getD b default):=⟨_,rfl⟩
 have holen:ιo.length=keys.length:=by rw [Ho.len,hlen]
 have hlook:∀ {b:Nat} {p:Place},ι'[b]?=some p→(∃ j,pos keys b=some j∧ιo[j]?=some p)∨(pos keys b=none∧ι[b]?=some p):=by
  intro b p hb
  rw [hι',List.getElem?_map] at hb
  obtain ⟨b',h1,h2⟩:=Option.map_eq_some_iff.1 hb
  obtain ⟨h3,rfl⟩:=range_some h1
  cases hp:pos keys b with
  | none =>
   rw [hp] at h2
   dsimp only at h2
   rw [List.getD_eq_getElem?_getD,List.getElem?_eq_getElem h3] at h2
   exact .inr ⟨rfl,by rw [List.getElem?_eq_getElem h3]; simpa using h2⟩
  | some j =>
   rw [hp] at h2
   dsimp only at h2
   have hj:j < ιo.length:=by rw [holen]; exact (List.getElem?_eq_some_iff.1 (pos_get hp)).1
   rw [List.getD_eq_getElem?_getD,List.getElem?_eq_getElem hj] at h2
   exact .inl ⟨j,rfl,by rw [List.getElem?_eq_getElem hj]; simpa using h2⟩
 have hputo:∀ {j b:Nat} {p:Place},keys[j]?=some b→ιo[j]?=some p→ι'[b]?=some p:=by
  intro j b p h1 h2
  have hb:b < ι.length:=by rw [H.len]; exact hlt b (List.mem_of_getElem? h1)
  rw [hι',List.getElem?_map,List.getElem?_range hb,Option.map_some,nodup_pos hnd h1]
  dsimp only
  rw [List.getD_eq_getElem?_getD,h2]; rfl
 have hputn:∀ {b:Nat} {p:Place},pos keys b=none→ι[b]?=some p→ι'[b]?=some p:=by
  intro b p h1 h2
  have hb:=(List.getElem?_eq_some_iff.1 h2).1
  rw [hι',List.getElem?_map,List.getElem?_range hb,Option.map_some,h1]
  dsimp only
  rw [List.getD_eq_getElem?_getD,h2]; rfl
 have hlookh:∀ {b:Nat} {k:Blk},(back h keys hout)[b]?=some k→(∃ j k1,pos keys b=some j∧hout[j]?=some k1∧k=renB keys k1)∨(pos keys b=none∧h[b]?=some k):=by
  intro b k hb
  unfold back at hb
  rw [List.getElem?_map] at hb
  obtain ⟨b',h1,h2⟩:=Option.map_eq_some_iff.1 hb
  obtain ⟨h3,rfl⟩:=range_some h1
  cases hp:pos keys b with
  | none =>
   rw [hp] at h2
   dsimp only at h2
   rw [List.getD_eq_getElem?_getD,List.getElem?_eq_getElem h3] at h2
   exact .inr ⟨rfl,by rw [List.getElem?_eq_getElem h3]; simpa using h2⟩
  | some j =>
   rw [hp] at h2
   dsimp only at h2
   have hj:j < hout.length:=by rw [hlen]; exact (List.getElem?_eq_some_iff.1 (pos_get hp)).1
   rw [List.getD_eq_getElem?_getD,List.getElem?_eq_getElem hj] at h2
   exact .inl ⟨j,hout[j],rfl,List.getElem?_eq_getElem hj,by simpa using h2.symm⟩
 -- a place of one's own that was not passed
 have hother:∀ {b:Nat} {p:Place},pos keys b=none→ι[b]?=some p→p.real=true→¬ Own (perm.map (fun b=>ι.getD b default)) p.row:=by
  rintro b p hb hp hr ⟨q,hq,hqr,e⟩
  obtain ⟨i,hi⟩:=List.mem_iff_getElem?.1 hq
  obtain ⟨b',h1,h2⟩:=hgeti i q hi
  have:=H.sep b' b q p h2 hp hqr hr e
  subst this
  have hm:b' ∈ keys:=by rw [← hk]; exact List.mem_append_left _ (List.mem_of_getElem? h1)
  rw [Option.isSome_iff_exists.1 (pos_mem hm) |>.choose_spec] at hb
  cases hb
 have hXno:∀ r,X r→X' r:=fun r hr=>(hX' r).2 ⟨.inr hr,fun ⟨q,hq,hqr,e⟩=>by
  obtain ⟨i,hi⟩:=List.mem_iff_getElem?.1 hq
  obtain ⟨b',h1,h2⟩:=hgeti i q hi
  exact H.xsep b' q h2 hqr (e ▸ hr)⟩
 have hsub:∀ r,OX X ι' r→OX X' ιo r:=by
  rintro r (⟨p,hp,hr,rfl⟩|hr)
  ·obtain ⟨b,hb⟩:=List.mem_iff_getElem?.1 hp
   rcases hlook hb with ⟨j,h1,h2⟩|⟨h1,h2⟩
   ·exact .inl (Own.of h2 hr)
   ·exact .inr ((hX' _).2 ⟨.inl (Own.of h2 hr),hother h1 h2 hr⟩)
  ·exact .inr (hXno r hr)
 have hFr:Frm w (Own ι) w' (Own ι'):=by
  refine ⟨hFo.size,fun r hr ho=>hFo.same r hr (fun h'=>ho (howni r h')),?_,hFo.os,hFo.tape,hFo.output⟩
  rintro r ⟨p,hp,hr,rfl⟩
  obtain ⟨b,hb⟩:=List.mem_iff_getElem?.1 hp
  rcases hlook hb with ⟨j,h1,h2⟩|⟨h1,h2⟩
  ·rcases hFo.own _ (Own.of h2 hr) with h3|h3
   ·exact .inl (howni _ h3)
   ·exact .inr h3
  ·exact .inl (Own.of h2 hr)
 have hRf:Refs ι ι':=by
  intro b p hp
  cases hb:pos keys b with
  | none=>exact ⟨p,hputn hb hp,.inl rfl⟩
  | some j =>
   have hkj:=pos_get hb
   have hj:j < ιo.length:=by rw [holen]; exact (List.getElem?_eq_some_iff.1 hkj).1
   by_cases hjp:j < perm.length
   ·have h1:perm[j]?=some b:=by rw [← hk,List.getElem?_append_left hjp] at hkj; exact hkj
    have h2:(perm.map (fun b=>ι.getD b default))[j]?=some p:=by
     rw [List.getElem?_map,h1,Option.map_some,List.getD_eq_getElem?_getD,hp]; rfl
    obtain ⟨p',h3,h4⟩:=hRo j p h2
    exact ⟨p',hputo hkj h3,h4⟩
   ·have hj':j < hout.length:=by rw [← Ho.len]; exact hj
    obtain ⟨h3,k0,h4,h5⟩:=hver j b _ (by omega) hkj (List.getElem?_eq_getElem hj')
    refine ⟨ιo[j],hputo hkj (List.getElem?_eq_getElem hj),.inr ?_⟩
    have B1:=Ho.blk j _ _ (List.getElem?_eq_getElem hj) (List.getElem?_eq_getElem hj')
    have B0:=H.blk b p k0 hp h4
    rw [← B1.ver,← B0.ver,h5]; exact h3
 have hrel:∀ v y,Rel w' (OX X' ιo) ιo v y→Rel w' (OX X ι') ι' v (ren keys y):=by
  intro v y hy
  refine hy.mapR hsub (fun b ver off len cv hcv=>?_) (fun b ver r k cv hcv=>?_)
  ·cases hcv with
   | psl p hp hle hP =>
    cases hb:keys[b]? with
    | none=>exact .any
    | some b'=>exact .psl p (hputo hb hp) hle hP
  ·cases hcv with
   | ptr p hp hle hP =>
    cases hb:keys[b]? with
    | none=>exact .any
    | some b'=>exact .ptr p (hputo hb hp) hle hP
 refine ⟨v,ι',rfl,⟨by simp [hι',back,H.len],?_,?_,?_,?_⟩,hrel v r hro,hFr,hRf⟩
 ·intro b p k hp hkk
  rcases hlook hp with ⟨j,h1,h2⟩|⟨h1,h2⟩
  ·rcases hlookh hkk with ⟨j',k1,h3,h4,rfl⟩|⟨h3,_⟩
   ·rw [h1] at h3; cases h3
    have B:=Ho.blk j p k1 h2 h4
    refine ⟨B.ver,B.esz,B.pos,by simpa [renB] using B.num,B.fit,?_,fun hr=>?_,B.virt⟩
    ·intro row hrow
     simp only [renB] at hrow
     obtain ⟨r',hr',rfl⟩:=List.mem_map.1 hrow
     rw [List.length_map]; exact B.rows r' hr'
    ·obtain ⟨c,T,fz,g1,g2,g3,g4⟩:=B.cells hr
     refine ⟨c,T,fz,g1,g2,g3,fun i j x hx=>?_⟩
     simp only [renB] at hx
     obtain ⟨y,hy,rfl⟩:=cellOf_map _ _ _ _ _ hx
     obtain ⟨u,e1,e3,e2⟩:=g4 i j y hy
     exact ⟨u,e1,e3,hrel u y e2⟩
   ·rw [h1] at h3; cases h3
  ·rcases hlookh hkk with ⟨j',k1,h3,_⟩|⟨h3,h4⟩
   ·rw [h1] at h3; cases h3
   ·have B:=H.blk b p k h2 h4
    refine ⟨B.ver,B.esz,B.pos,B.num,B.fit,B.rows,fun hr=>?_,B.virt⟩
    obtain ⟨c,T,fz,g1,g2⟩:=B.cells hr
    exact ⟨c,T,fz,by rw [hFo.same _ (H.row_lt h2 hr) (hother h1 h2 hr)]; exact g1,g2.mono (hFr.x X) hRf⟩
 ·intro b b' p p' hp hp' hr hr' e
  rcases hlook hp with ⟨j,h1,h2⟩|⟨h1,h2⟩ <;> rcases hlook hp' with ⟨j',h1',h2'⟩|⟨h1',h2'⟩
  ·have:=Ho.sep j j' p p' h2 h2' hr hr' e
   subst this
   have g1:=pos_get h1
   have g2:=pos_get h1'
   rw [g1] at g2; cases g2; rfl
  ·exfalso
   rcases hFo.own _ (Own.of h2 hr) with h3|h3
   ·exact hother h1' h2' hr' (e ▸ h3)
   ·have:=H.row_lt h2' hr'; omega
  ·exfalso
   rcases hFo.own _ (Own.of h2' hr') with h3|h3
   ·exact hother h1 h2 hr (e ▸ h3)
   ·have:=H.row_lt h2 hr; omega
  ·exact H.sep b b' p p' h2 h2' hr hr' e
 ·intro b p hp hr hx
  rcases hlook hp with ⟨j,h1,h2⟩|⟨h1,h2⟩
  ·exact Ho.xsep j p h2 hr (hXno _ hx)
  ·exact H.xsep b p h2 hr hx
 ·intro r hr
  exact Nat.lt_of_lt_of_le (H.xlt r hr) hFo.size
end Go.Proofs.Ytdbbnlafkndcnaa.Calc
namespace Go.Proofs.Ytdbbnlafkndcnaa.Calc
open Go
variable {X:Nat→Prop}
abbrev Fr:=List (Nat×V)
def lk:Fr→Nat→V
 | [],_=>.any
 | (j,v) :: r,i=>if j=i then v else lk r i
def put (fr:Fr):Option Nat→V→Fr
 | some d,v=>(d,v) :: fr
 | none,_=>fr
def keep (l:List Nat) (fr:Fr):Fr:=l.map fun i=>(i,lk fr i)
structure AOper where
 dst:Option Nat
 op:AOp
 guard:Option (Nat×Bool)
 deriving Inhabited
def dum:Blk:=⟨0,1,[]⟩
def upto (c:Nat):Nat→List Nat
 | 0=>[]
 | m+1=>c :: upto (c+1) m
def CallOk (P:Program) (f:FuncId) (args:List V) (h:List Blk) (K:V→List Blk→Prop):Prop :=
 ∃ (perm:List Nat) (m:Nat) (r:V) (hout:List Blk),perm.Nodup∧(∀ b ∈ perm,b < h.length)∧hout.length=perm.length+m∧(∀ k ∈ hout.drop perm.length,0 < k.ver) ∧
  enters P f=true∧FnE P f (args.map (pas perm)) (pasH h perm) r hout ∧
  K (ren (perm ++ upto h.length m) r) (back (h ++ List.replicate m dum) (perm ++ upto h.length m) hout)
def invOf (tab:List (TypeId×FuncId)):V→Option (FuncId×V)
 | .ifc t v=>(lookT tab t).map fun f=>(f,v)
 | _=>none
def WOp (P:Program) (op:AOp) (fr:Fr) (h:List Blk) (K:V→List Blk→Prop):Prop :=
 match op with
 | .call f args=>CallOk P f (args.map (AO.ev (lk fr))) h K
 | .callc x args=>match (x.ev (lk fr)) with
  | .fn f caps=>CallOk P f (args.map (AO.ev (lk fr)) ++ caps) h K
  | _=>False
 | .inv tab x args=>match invOf tab (x.ev (lk fr)) with
  | some (f,v)=>CallOk P f (v :: args.map (AO.ev (lk fr))) h K
  | none=>False
 | .xcall f args=>∃ r,ExtE P f (args.map (AO.ev (lk fr))) r∧K r h
 | op=>match stepA op (AO.ev (lk fr)) (fun b=>h[b]?) h.length with
  | some (x,ups,news,_)=>K x (appU h ups ++ news)
  | none=>False
def WOps (P:Program):List AOper→Fr→List Blk→(Fr→List Blk→Prop)→Prop
 | [],fr,h,K=>K fr h
 | o :: rest,fr,h,K =>
  match o.guard with
  | none=>WOp P o.op fr h fun x h'=>WOps P rest (put fr o.dst x) h' K
  | some (g,want)=>match lk fr g with
   | .c (.bool b)=>if b=want then WOp P o.op fr h fun x h'=>WOps P rest (put fr o.dst x) h' K
     else WOps P rest (put fr o.dst (.c undef)) h K
   | .c (.tuple _)=>WOps P rest (put fr o.dst (.c undef)) h K
   | _=>False
structure St (X:Nat→Prop) (w0:World) (ι0:List Place) (n:Nat) (fr:Fr) (h:List Blk) (a:Act) (w:World):Prop where
 ex:∃ ι,HRel X w ι h∧Frm w0 (Own ι0) w (Own ι)∧Refs ι0 ι∧SlRel X w ι (lk fr) a
 size:a.tmps.size=n
 defers:a.defers=[]
theorem SlRel.mono {w w':World} {ι ι':List Place} {sl:Nat→V} {a:Act} (h:SlRel X w ι sl a) (hF:Frm w (Own ι) w' (Own ι')) (hR:Refs ι ι'):SlRel X w' ι' sl a :=
 fun i=>(h i).mono (hF.x X) hR
theorem SlRel.put {w:World} {ι:List Place} {fr:Fr} {a:Act} (h:SlRel X w ι (lk fr) a) (dst:Option Nat) {v:Value} {x:V} (hx:Rel w (OX X ι) ι v x) (hd:∀ d,dst=some d→d < a.tmps.size) :
  SlRel X w ι (lk (put fr dst x)) (a.put dst v):=by
 intro i
 cases dst with
 | none=>exact h i
 | some d =>
  have hd:=hd d rfl
  simp only [Calc.put,lk,Act.put]
  by_cases hi:d=i
  ·subst hi
   rw [if_pos rfl]
   have:(a.tmps.setIfInBounds d v).getD d undef=v:=by
    rw [Array.getD_eq_getD_getElem?,Array.getElem?_setIfInBounds,if_pos rfl,if_pos hd]; rfl
   rw [this]; exact hx
  ·rw [if_neg hi]
   have:(a.tmps.setIfInBounds d v).getD i undef=a.tmps.getD i undef:=by
    rw [Array.getD_eq_getD_getElem?,Array.getD_eq_getD_getElem?,Array.getElem?_setIfInBounds,if_neg hi]
   rw [this]; exact h i
theorem HRel.dums {w:World} {ι:List Place} {h:List Blk} (H:HRel X w ι h) (m:Nat):∃ ι',HRel X w ι' (h ++ List.replicate m dum)∧Refs ι ι'∧(∀ r,Own ι' r→Own ι r):=by
 induction m with
 | zero=>exact ⟨ι,by simpa using H,Refs.refl _,fun _ h=>h⟩
 | succ m ih =>
  obtain ⟨ι1,H1,h2,h3⟩:=ih
  have:=H1.push (w':=w) ⟨0,0,1,0,0,0,false⟩ dum (Nat.le_refl _) (fun _ _=>rfl) rfl rfl rfl (by simp) rfl rfl (by decide) rfl (Nat.le_refl _) (by simp [dum]) (by simp) (fun _=>rfl)
  refine ⟨_,?_,h2.trans this.2.2,fun r hr=>?_⟩
  ·have e:h ++ List.replicate (m+1) dum=h ++ List.replicate m dum ++ [dum]:=by rw [List.replicate_succ',List.append_assoc]
   rw [e]; exact this.1
  ·obtain ⟨p,hp,hpr,rfl⟩:=hr
   rw [List.mem_append] at hp
   rcases hp with hp|hp
   ·exact h3 _ ⟨p,hp,hpr,rfl⟩
   ·simp at hp; subst hp; simp at hpr
theorem upto_get (m:Nat):∀ (c i:Nat),(upto c m)[i]?=if i < m then some (c+i) else none:=by
 induction m with
 | zero=>intro c i; simp [upto]
 | succ m ih =>
  intro c i
  cases i with
  | zero=>simp [upto]
  | succ i =>
   simp only [upto,List.getElem?_cons_succ,ih]
   by_cases h:i < m
   ·rw [if_pos h,if_pos (by omega)]; congr 1; omega
   ·rw [if_neg h,if_neg (by omega)]
theorem upto_len (m:Nat):∀ c,(upto c m).length=m:=by
 induction m with
 | zero=>intro c; rfl
 | succ m ih=>intro c; simp [upto,ih]
theorem upto_mem {c m b:Nat} (h:b ∈ upto c m):c≤b∧b < c+m:=by
 obtain ⟨i,hi⟩:=List.mem_iff_getElem?.1 h
 rw [upto_get] at hi
 split at hi
 ·cases hi; omega
 ·cases hi
theorem upto_nodup (m:Nat):∀ c,(upto c m).Nodup:=by
 induction m with
 | zero=>intro c; simp [upto]
 | succ m ih =>
  intro c
  simp only [upto,List.nodup_cons]
  exact ⟨fun h=>by have:=(upto_mem h).1; omega,ih _⟩
theorem appN_dums (news:List Blk):∀ (h:List Blk),appN (h ++ List.replicate news.length dum) h.length news=h ++ news:=by
 induction news with
 | nil=>intro h; simp [appN]
 | cons k news ih =>
  intro h
  simp only [appN,List.length_cons]
  have e:(h ++ List.replicate (news.length+1) dum).set h.length k=(h ++ [k]) ++ List.replicate news.length dum:=by
   rw [List.replicate_succ,List.set_append_right _ _ (Nat.le_refl _)]; simp
  rw [e]
  have:=ih (h ++ [k])
  rw [List.length_append,List.length_singleton] at this
  rw [this]; simp
theorem appU_append (ups:List (Nat×Blk)):∀ (h t:List Blk),(∀ u ∈ ups,u.1 < h.length)→appU (h ++ t) ups=appU h ups ++ t:=by
 induction ups with
 | nil=>intro h t _; rfl
 | cons u ups ih =>
  intro h t hu
  obtain ⟨b,k⟩:=u
  simp only [appU]
  rw [List.set_append_left _ _ (hu (b,k) (by simp)),ih _ _ (fun u hm=>by rw [List.length_set]; exact hu u (by simp [hm]))]
theorem appU_length (ups:List (Nat×Blk)):∀ (h:List Blk),(appU h ups).length=h.length:=by
 induction ups with
 | nil=>intro h; rfl
 | cons u ups ih=>intro h; simp only [appU]; rw [ih,List.length_set]
theorem ups_in {op:AOp} {ev:AO→V} {bl:Nat→Option Blk} {c:Nat} {x:V} {ups:List (Nat×Blk)} {news:List Blk} {R:List Nat} (hst:stepA op ev bl c=some (x,ups,news,R)) :
  ∀ u ∈ ups,u.1 ∈ R∧(bl u.1).isSome=true:=by
 have nil:ups=[]→∀ u ∈ ups,u.1 ∈ R∧(bl u.1).isSome=true:=by rintro rfl u hu; simp at hu
 cases op <;> simp only [stepA] at hst
 all_goals first|(exact nil (pureS_eq hst).2.1)|(repeat' split at hst) <;> first|(cases hst; done)|(cases hst; exact nil rfl)|(obtain ⟨_,_,hst⟩:=Option.map_eq_some_iff.1 hst; cases hst; exact nil rfl)|(cases hst; intro u hu; simp at hu; subst hu; simp_all)
end Go.Proofs.Ytdbbnlafkndcnaa.Calc
