/- Several texts in one (FnStd, FnStdB, FnStdC, FnStdD, FnStdE, FnStdF), for the proof of LawBoardClashes. No condition beyond those in each lemma. -/
import Derived.Test.YtdbbnlafkndcnaaPLawBoardClashesE
import Derived.Test.YtdbbnlafkndcnaaPLawBoardClashesD
namespace Go.Proofs.Ytdbbnlafkndcnaa.Calc
open Go Code
set_option linter.unusedSimpArgs false
set_option linter.unusedVariables false
set_option maxRecDepth 20000
set_option maxHeartbeats 8000000
attribute [local irreducible] WOpsT AW AK RK AKW UK UC
theorem two_ok (d t f:Int):FnE Try.prog 87 [I d,I t,I f] [] (.agg (stC (twoM d t f))) []:=by
 refine N.fnC Try.func87 k87 fun Q hQ hQN=>?_
 repeat' (first|exact ⟨⟩|intro (K:KT) hK|intro hcd|refine go1 ?_ ?_|fail)
 exact WS.drop (n:=0) rfl rfl
theorem one_ok (d t:Int):FnE Try.prog 88 [I d,I t] [] (.agg (stC (oneM d t))) []:=by
 refine N.fnC Try.func88 k88 fun Q hQ hQN=>?_
 repeat' (first|exact ⟨⟩|intro (K:KT) hK|intro hcd|refine go1 ?_ ?_|fail)
 exact WS.drop (n:=0) rfl rfl
theorem zero_ok:FnE Try.prog 104 [] [] (.agg (stC zeroM)) []:=by
 refine N.fnC Try.func104 k104 fun Q hQ hQN=>?_
 repeat' (first|exact ⟨⟩|intro (K:KT) hK|intro hcd|refine go1 ?_ ?_|fail)
 exact WS.drop (n:=0) rfl rfl
theorem jump_ok (t:Int):FnE Try.prog 62 [I t] [] (.psl 0 1 0 2) [⟨1,4,(jumpM t).map stC⟩]:=by
 refine N.fnC Try.func62 k62 fun Q hQ hQN=>?_
 repeat' (first|(show Wc; first|refine T.call0 e87 rfl ((two_ok 18 t 5)) ?_|refine T.call0 e87 rfl ((two_ok 19 t 6)) ?_)|exact ⟨⟩|intro (K:KT) hK|intro hcd|refine go1 ?_ ?_|fail)
 exact WS.gc [0] 1 rfl rfl .rfl
def cyP (b a r:Int) (p n:Nat):List V:=[I b,I a,I r,.psl p 1 0 n]
theorem Sub.cyN (b a r:Int):Sub (.agg [I b,I a,I r,.c (.slice none 0 0)]) (.agg (cyC ⟨b,a,r,[]⟩)):=by
 refine .agg (Eq.refl _) fun i x y hx hy=>?_
 match i with
 | 0=>cases hx; cases hy; exact .rfl
 | 1=>cases hx; cases hy; exact .rfl
 | 2=>cases hx; cases hy; exact .rfl
 | 3=>cases hx; cases hy; exact .nil
 | i+4=>cases hx
theorem rdP_ok (a r:Int) (ss:List Stp) (n:Nat):FnE Try.prog 61 [I a,I r,.psl 0 1 0 n] [⟨1,4,ss.map stC⟩] (.agg [I 1,I a,I r,.psl 0 1 0 n]) [⟨1,4,ss.map stC⟩]:=by
 refine N.fnC Try.func61 k61 fun Q hQ hQN=>?_
 repeat' (first|exact ⟨⟩|intro (K:KT) hK|intro hcd|refine go1 ?_ ?_|fail)
 exact WS.gc [0] 1 rfl (by exact oO) .rfl
theorem rdQ_ok (a r:Int) (ss:List Stp) (n:Nat):FnE Try.prog 61 [I a,I r,.psl 0 2 0 n] [⟨2,4,ss.map stC⟩] (.agg [I 1,I a,I r,.psl 0 2 0 n]) [⟨2,4,ss.map stC⟩]:=by
 refine N.fnC Try.func61 k61 fun Q hQ hQN=>?_
 repeat' (first|exact ⟨⟩|intro (K:KT) hK|intro hcd|refine go1 ?_ ?_|fail)
 exact WS.gc [0] 1 rfl (by exact oO) .rfl
theorem rdN_ok (a r:Int):FnE Try.prog 61 [I a,I r,.c (.slice none 0 0)] [] (.agg (cyC ⟨1,a,r,[]⟩)) []:=by
 refine N.fnC Try.func61 k61 fun Q hQ hQN=>?_
 repeat' (first|exact ⟨⟩|intro (K:KT) hK|intro hcd|refine go1 ?_ ?_|fail)
 exact WS.gc [] 1 rfl rfl (Sub.cyN 1 a r)
theorem wrP_ok (a r:Int) (ss:List Stp) (n:Nat):FnE Try.prog 89 [I a,I r,.psl 0 1 0 n] [⟨1,4,ss.map stC⟩] (.agg [I 2,I a,I r,.psl 0 1 0 n]) [⟨1,4,ss.map stC⟩]:=by
 refine N.fnC Try.func89 k89 fun Q hQ hQN=>?_
 repeat' (first|exact ⟨⟩|intro (K:KT) hK|intro hcd|refine go1 ?_ ?_|fail)
 exact WS.gc [0] 1 rfl (by exact oO) .rfl
theorem wrN_ok (a r:Int):FnE Try.prog 89 [I a,I r,.c (.slice none 0 0)] [] (.agg (cyC ⟨2,a,r,[]⟩)) []:=by
 refine N.fnC Try.func89 k89 fun Q hQ hQN=>?_
 repeat' (first|exact ⟨⟩|intro (K:KT) hK|intro hcd|refine go1 ?_ ?_|fail)
 exact WS.gc [] 1 rfl rfl (Sub.cyN 2 a r)
theorem noP_ok (ss:List Stp) (n:Nat):FnE Try.prog 86 [.psl 0 1 0 n] [⟨1,4,ss.map stC⟩] (.agg [I 0,I 0,I 0,.psl 0 1 0 n]) [⟨1,4,ss.map stC⟩]:=by
 refine N.fnC Try.func86 k86 fun Q hQ hQN=>?_
 repeat' (first|exact ⟨⟩|intro (K:KT) hK|intro hcd|refine go1 ?_ ?_|fail)
 exact WS.gc [0] 1 rfl (by exact oO) .rfl
theorem noN_ok:FnE Try.prog 86 [.c (.slice none 0 0)] [] (.agg (cyC ⟨0,0,0,[]⟩)) []:=by
 refine N.fnC Try.func86 k86 fun Q hQ hQN=>?_
 repeat' (first|exact ⟨⟩|intro (K:KT) hK|intro hcd|refine go1 ?_ ?_|fail)
 exact WS.gc [] 1 rfl rfl (Sub.cyN 0 0 0)
theorem lead2_ok:FnE Try.prog 102 [I 2] [] (.psl 0 1 0 1) [⟨1,4,(leadM 2).map cyC⟩]:=by
 refine N.fnC Try.func102 k102 fun Q hQ hQN=>?_
 repeat' (first|(show Wc; first|refine T.call0 e104 rfl zero_ok ?_|refine T.call0 e87 rfl ((two_ok 18 8 5)) ?_|refine T.call0 e87 rfl ((two_ok 19 8 5)) ?_|refine T.call0 e87 rfl ((two_ok 22 8 1)) ?_|refine T.call0 e87 rfl ((two_ok 22 8 2)) ?_|refine T.call0 e87 rfl ((two_ok 20 5 8)) ?_|refine T.cP [0] e61 ((rdP_ok 0 5 [zeroM,twoM 18 8 5] 2)) ?_|refine T.cP [2] e61 ((rdP_ok 0 5 [twoM 18 8 5] 1)) ?_|refine T.cP [4] e61 ((rdP_ok 0 5 [twoM 19 8 5] 1)) ?_)|exact ⟨⟩|intro (K:KT) hK|intro hcd|refine go1 ?_ ?_|fail)
 exact WS.gc [6] 2 rfl rfl .rfl
theorem lead3_ok:FnE Try.prog 102 [I 3] [] (.psl 0 1 0 2) [⟨1,4,(leadM 3).map cyC⟩]:=by
 refine N.fnC Try.func102 k102 fun Q hQ hQN=>?_
 repeat' (first|(show Wo (.app _ _ _ _); refine T.app rfl rfl rfl ⟨by decide,by decide⟩ ⟨rfl,rfl,rfl,by decide⟩ ?_)|(show Wc; first|refine T.call0 e104 rfl zero_ok ?_|refine T.call0 e87 rfl ((two_ok 18 8 5)) ?_|refine T.call0 e87 rfl ((two_ok 19 8 5)) ?_|refine T.call0 e87 rfl ((two_ok 22 8 1)) ?_|refine T.call0 e87 rfl ((two_ok 22 8 2)) ?_|refine T.call0 e87 rfl ((two_ok 20 5 8)) ?_|refine T.cP [0] e61 ((rdP_ok 0 5 [zeroM,twoM 18 8 5] 2)) ?_|refine T.cP [2] e61 ((rdP_ok 0 5 [twoM 18 8 5] 1)) ?_|refine T.cP [4] e61 ((rdP_ok 0 5 [twoM 19 8 5] 1)) ?_|refine T.cP [7] e86 ((noP_ok [twoM 20 5 8,zeroM,twoM 18 8 5] 3)) ?_)|exact ⟨⟩|intro (K:KT) hK|intro hcd|refine go1 ?_ ?_|fail)
 exact WS.gc [8] 2 rfl rfl .rfl
theorem lead4_ok:FnE Try.prog 102 [I 4] [] (.psl 0 1 0 2) [⟨1,4,(leadM 4).map cyC⟩]:=by
 refine N.fnC Try.func102 k102 fun Q hQ hQN=>?_
 repeat' (first|(show Wc; first|refine T.call0 e104 rfl zero_ok ?_|refine T.call0 e87 rfl ((two_ok 18 8 5)) ?_|refine T.call0 e87 rfl ((two_ok 19 8 5)) ?_|refine T.call0 e87 rfl ((two_ok 22 8 1)) ?_|refine T.call0 e87 rfl ((two_ok 22 8 2)) ?_|refine T.call0 e87 rfl ((two_ok 20 5 8)) ?_|refine T.cP [0] e61 ((rdP_ok 0 5 [zeroM,twoM 18 8 5] 2)) ?_|refine T.cP [2] e61 ((rdP_ok 0 5 [twoM 18 8 5] 1)) ?_|refine T.cP [4] e61 ((rdP_ok 0 5 [twoM 19 8 5] 1)) ?_)|exact ⟨⟩|intro (K:KT) hK|intro hcd|refine go1 ?_ ?_|fail)
 exact WS.gc [6] 2 rfl rfl .rfl
theorem lead5_ok:FnE Try.prog 102 [I 5] [] (.psl 0 1 0 3) [⟨1,4,(leadM 5).map cyC⟩]:=by
 refine N.fnC Try.func102 k102 fun Q hQ hQN=>?_
 repeat' (first|(show Wc; first|refine T.call0 e104 rfl zero_ok ?_|refine T.call0 e87 rfl ((two_ok 18 8 5)) ?_|refine T.call0 e87 rfl ((two_ok 19 8 5)) ?_|refine T.call0 e87 rfl ((two_ok 22 8 1)) ?_|refine T.call0 e87 rfl ((two_ok 22 8 2)) ?_|refine T.call0 e87 rfl ((two_ok 20 5 8)) ?_|refine T.cP [0] e61 ((rdP_ok 0 5 [zeroM,twoM 18 8 5] 2)) ?_|refine T.cP [2] e61 ((rdP_ok 0 5 [twoM 18 8 5] 1)) ?_|refine T.cP [4] e61 ((rdP_ok 0 5 [twoM 19 8 5] 1)) ?_|refine T.cP [6] e86 ((noP_ok [twoM 22 8 1] 1)) ?_)|exact ⟨⟩|intro (K:KT) hK|intro hcd|refine go1 ?_ ?_|fail)
 exact WS.gc [7] 2 rfl rfl .rfl
theorem lead6_ok:FnE Try.prog 102 [I 6] [] (.psl 0 1 0 3) [⟨1,4,(leadM 6).map cyC⟩]:=by
 refine N.fnC Try.func102 k102 fun Q hQ hQN=>?_
 repeat' (first|(show Wc; first|refine T.call0 e104 rfl zero_ok ?_|refine T.call0 e87 rfl ((two_ok 18 8 5)) ?_|refine T.call0 e87 rfl ((two_ok 19 8 5)) ?_|refine T.call0 e87 rfl ((two_ok 22 8 1)) ?_|refine T.call0 e87 rfl ((two_ok 22 8 2)) ?_|refine T.call0 e87 rfl ((two_ok 20 5 8)) ?_|refine T.cP [0] e61 ((rdP_ok 0 5 [zeroM,twoM 18 8 5] 2)) ?_|refine T.cP [2] e61 ((rdP_ok 0 5 [twoM 18 8 5] 1)) ?_|refine T.cP [4] e61 ((rdP_ok 0 5 [twoM 19 8 5] 1)) ?_|refine T.cP [6] e86 ((noP_ok [twoM 22 8 2] 1)) ?_)|exact ⟨⟩|intro (K:KT) hK|intro hcd|refine go1 ?_ ?_|fail)
 exact WS.gc [7] 2 rfl rfl .rfl
theorem lead8_ok:FnE Try.prog 102 [I 8] [] (.psl 0 1 0 3) [⟨1,4,(leadM 8).map cyC⟩]:=by
 refine N.fnC Try.func102 k102 fun Q hQ hQN=>?_
 repeat' (first|(show Wo (.app _ _ _ _); refine T.app rfl rfl rfl ⟨by decide,by decide⟩ ⟨rfl,rfl,rfl,by decide⟩ ?_)|(show Wc; first|refine T.call0 e104 rfl zero_ok ?_|refine T.call0 e87 rfl ((two_ok 18 8 5)) ?_|refine T.call0 e87 rfl ((two_ok 19 8 5)) ?_|refine T.call0 e87 rfl ((two_ok 22 8 1)) ?_|refine T.call0 e87 rfl ((two_ok 22 8 2)) ?_|refine T.call0 e87 rfl ((two_ok 20 5 8)) ?_|refine T.cP [0] e61 ((rdP_ok 0 5 [zeroM,twoM 18 8 5] 2)) ?_|refine T.cP [2] e61 ((rdP_ok 0 5 [twoM 18 8 5] 1)) ?_|refine T.cP [4] e61 ((rdP_ok 0 5 [twoM 19 8 5] 1)) ?_|refine T.call0 e61 rfl ((rdN_ok 2 5)) ?_|refine T.callN e62 rfl ((jump_ok 8)) (by simp) ?_|refine T.cP [6] e61 ((rdQ_ok 3 6 [twoM 18 8 5,twoM 19 8 6,twoM 22 8 2] 3)) ?_)|exact ⟨⟩|intro (K:KT) hK|intro hcd|refine go1 ?_ ?_|fail)
 exact WS.gc [8] 2 rfl rfl .rfl
theorem lead1_ok:FnE Try.prog 102 [I 1] [] (.c (.slice none 0 0)) []:=by
 refine N.fnC Try.func102 k102 fun Q hQ hQN=>?_
 repeat' (first|(show Wc; first|refine T.call0 e104 rfl zero_ok ?_|refine T.call0 e87 rfl ((two_ok 18 8 5)) ?_|refine T.call0 e87 rfl ((two_ok 19 8 5)) ?_|refine T.call0 e87 rfl ((two_ok 22 8 1)) ?_|refine T.call0 e87 rfl ((two_ok 22 8 2)) ?_|refine T.call0 e87 rfl ((two_ok 20 5 8)) ?_|refine T.cP [0] e61 ((rdP_ok 0 5 [zeroM,twoM 18 8 5] 2)) ?_|refine T.cP [2] e61 ((rdP_ok 0 5 [twoM 18 8 5] 1)) ?_|refine T.cP [4] e61 ((rdP_ok 0 5 [twoM 19 8 5] 1)) ?_)|exact ⟨⟩|intro (K:KT) hK|intro hcd|refine go1 ?_ ?_|fail)
 exact WS.drop (n:=0) rfl rfl
def Adr (m:Int):Prop:=m=2∨m=3∨m=4∨m=5∨m=6∨m=8
theorem lead_ok (m:Int) (hm:Adr m):FnE Try.prog 102 [I m] [] (.psl 0 1 0 (leadM m).length) [⟨1,4,(leadM m).map cyC⟩]:=by
 rcases hm with rfl|rfl|rfl|rfl|rfl|rfl
 ·exact lead2_ok
 ·exact lead3_ok
 ·exact lead4_ok
 ·exact lead5_ok
 ·exact lead6_ok
 ·exact lead8_ok
theorem leadM_len (m:Int):(leadM m).length≤3:=by unfold leadM; (repeat' split) <;> decide
theorem outB_flatA {α:Type} {f:α→List V} [Flat f] {h:List Blk} {ids:List Nat} {n v e:Nat} {l:List α} {rows:List (List V)}:outB h ids n ⟨v,e,l.map f ++ rows⟩=⟨v,e,l.map f ++ rows.map (·.map (out h ids n))⟩:=by
 simp only [outB,List.map_append]; rw [flat_rows (fun _=>out_c) (fun _ _=>out_sl)]
theorem vcells_psl {h:List Blk} {b ver off len:Nat} {k:Blk} (hb:h[b]?=some k) (hv:k.ver=ver):vcells (fun b=>h[b]?) (.psl b ver off len)=some [.psl b ver off len]:=by
 simp only [vcells,hb]; rw [if_pos hv]
theorem out_cyc {h:List Blk} {ids:List Nat} {b v p n len:Nat} {cs:List Cyc} {x:Cyc} (hp:pos ids b=none) (hp2:pos ids p=none) (hb:h[b]?=some ⟨v,4,cs.map cyC ++ [[I x.bus,I x.at_,I x.reg,.psl p 1 0 n]]⟩) (hb2:h[p]?=some ⟨1,4,x.steps.map stC⟩) (hn:x.steps.length≤n) (hl:cs.length+1≤len) :
  out h ids 2 (.psl b v 0 len)=.sl 4 ((cs ++ [x]).map cyC):=by
 rw [out_pslK hp hb rfl,List.drop_zero,List.take_of_length_le (by simpa using hl),List.map_append,rows_frz,List.map_append]
 congr 2
 simp only [List.map_cons,List.map_nil,frz_c]
 rw [frz_psl hb2 rfl (show (fun b=>(pos ids b).isSome) p=false by dsimp only; rw [hp2]; rfl),List.drop_zero,List.take_of_length_le (by simpa using hn),rows_frz]
 rfl
def wR (m:Int):Nat:=if m=1 then 0 else 1
theorem reads_ok (m:Int) (hm:m=1∨Adr m) (ss:List Stp) (n:Nat):FnE Try.prog 101 [I m,.psl 0 1 0 n] [⟨1,4,ss.map stC⟩] (.psl 1 (wR m+1) 0 ((leadM m).length+1))
  [⟨1,4,ss.map stC⟩,⟨wR m+1,4,(leadM m).map cyC ++ [[I 1,I (if m=1 then 0 else 2),I 5,.psl 0 1 0 n]]⟩]:=by
 rcases hm with rfl|hm
 ·skip
  refine N.fnC Try.func101 k101 fun Q hQ hQN=>?_
  repeat' (first|rw [rows_ren]|(show Wo (.app _ _ _ _); refine T.appN rfl rfl ⟨by decide,by decide⟩ (by simp) (by simp) ?_)|(show Wc; first|refine T.call0 e102 rfl lead1_ok ?_|refine T.cP [0] e61 ((rdP_ok 0 5 ss n)) ?_)|exact ⟨⟩|intro (K:KT) hK|intro hcd|refine go1 ?_ ?_|fail)
  exact WS.gc [0,2] 0 rfl (by show [(⟨1,4,ss.map stC⟩:Blk),_]=[outB _ _ _ ⟨1,4,ss.map stC⟩,_]; rw [outB_flat]; rfl) .rfl
 ·have h1:m≠1:=by unfold Adr at hm; omega
  have hl:=lead_ok m hm
  have hn:=leadM_len m
  have e:wR m=1:=by unfold wR; rw [if_neg h1]
  rw [e,if_neg h1]
  refine N.fnC Try.func101 k101 fun Q hQ hQN=>?_
  repeat' (first|rw [rows_ren]|(show Wo (.app _ _ _ _); refine T.app rfl rfl rfl ⟨by decide,by decide⟩ ⟨rfl,rfl,by rw [List.length_map,Nat.zero_add],by simp; omega⟩ ?_)|(show Wc; first|refine T.callN e102 rfl (hl) (by simp) ?_|refine T.cP [0] e61 ((rdP_ok 2 5 ss n)) ?_)|exact ⟨⟩|intro (K:KT) hK|intro hcd|refine go1 ?_ ?_|fail)
  exact WS.gc [0,1] 0 rfl (by show [(⟨1,4,ss.map stC⟩:Blk),⟨2,4,(leadM m).map cyC ++ _⟩]=[outB _ _ _ ⟨1,4,ss.map stC⟩,outB _ _ _ ⟨2,4,(leadM m).map cyC ++ [[I 1,I 2,I 5,.psl 0 1 0 n]]⟩]; rw [outB_flat,outB_flatA]; rfl) .rfl
def mkA (p:Nat) (l:List Ins):Blk:=⟨1,1,[[.psl p l.length 0 l.length]]⟩
def mkB (l:List Ins):Blk:=⟨l.length,4,l.map inC⟩
def insN (l:List Ins) (s:ByteArray) (m:Int) (cy:List Cyc):Ins:=⟨(l.length:Int)+1,s,m,cy⟩
theorem mkA_snoc (p:Nat) (l:List Ins) (x:Ins):mkA p (l ++ [x])=⟨1,1,[[.psl p (l.length+1) 0 (l.length+1)]]⟩:=by simp [mkA]
theorem mkB_snoc (l:List Ins) (x:Ins):mkB (l ++ [x])=⟨l.length+1,4,l.map inC ++ [inC x]⟩:=by simp [mkB]
theorem add_ok (l:List Ins) (hl:0 < l.length∧l.length≤250) (s:ByteArray) (m:Int) (cy:List Cyc):FnE Try.prog 85 [.ptr 0 1 0 0,.c (.string s),I m,.sl 4 (cy.map cyC)] [mkA 1 l,mkB l] (.tup []) [mkA 1 (l ++ [insN l s m cy]),mkB (l ++ [insN l s m cy])]:=by
 refine N.fnC Try.func85 k85 fun Q hQ hQN=>?_
 repeat' (first|(show Wo (.app _ _ _ _); refine T.app rfl rfl rfl ⟨by decide,by decide⟩ ⟨rfl,rfl,by rw [Nat.zero_add]; exact (List.length_map _).symm,by simp; omega⟩ ?_)|(show Wo (.st _ _ _); refine T.st rfl rfl (vcells_psl rfl rfl) ⟨rfl,rfl⟩ rfl (Nat.le_of_ble_eq_true rfl) ?_)|exact ⟨⟩|intro (K:KT) hK|intro hcd|refine go1 ?_ ?_|fail)
 exact WS.gc [0,1] 0 rfl (by rw [mkA_snoc,mkB_snoc]; show [_,_]=[_,outB _ _ _ ⟨l.length+1,4,l.map inC ++ [inC (insN l s m cy)]⟩]; rw [outB_flatA]; rfl) .rfl
theorem add0_ok (s:ByteArray) (m:Int) (cy:List Cyc):FnE Try.prog 85 [.ptr 0 1 0 0,.c (.string s),I m,.sl 4 (cy.map cyC)] [⟨1,1,[[.c (.slice none 0 0)]]⟩] (.tup []) [mkA 1 [insN [] s m cy],mkB [insN [] s m cy]]:=by
 refine N.fnC Try.func85 k85 fun Q hQ hQN=>?_
 repeat' (first|(show Wo (.app _ _ _ _); refine T.appN rfl rfl ⟨by decide,by decide⟩ (by simp) (by simp) ?_)|(show Wo (.st _ _ _); refine T.st rfl rfl (vcells_psl rfl rfl) ⟨rfl,rfl⟩ rfl (Nat.le_of_ble_eq_true rfl) ?_)|exact ⟨⟩|intro (K:KT) hK|intro hcd|refine go1 ?_ ?_|fail)
 exact WS.gc [0,2] 0 rfl rfl .rfl
theorem rows_renA {α:Type} {f:α→List V} [Flat f] (l:List α) (rows:List (List V)) (ks:List Nat):(l.map f ++ rows).map (fun x=>x.map (ren ks))=l.map f ++ rows.map (fun x=>x.map (ren ks)):=by
 rw [List.map_append,rows_ren]
theorem Sub.of_eq {a b:V} (h:a=b):Sub a b:=by rw [h]; exact .rfl
theorem renB_mkB {ids:List Nat} {l:List Ins}:renB ids (mkB l)=mkB l:=renB_flat
theorem outB_mkB {h:List Blk} {ids:List Nat} {n:Nat} {l:List Ins}:outB h ids n (mkB l)=mkB l:=outB_flat
def grow (l:List Ins) (F:Int→Row) (ms:List Int) (i:Nat):List Ins:=l ++ number l.length ((ms.take i).map F)
theorem grow_zero (l:List Ins) (F:Int→Row) (ms:List Int):grow l F ms 0=l:=by simp [grow,number]
theorem grow_len (l:List Ins) (F:Int→Row) (ms:List Int) (i:Nat) (hi:i≤ms.length):(grow l F ms i).length=l.length+i:=by
 simp [grow,number_len]; omega
theorem grow_succ (l:List Ins) (F:Int→Row) (ms:List Int) (i:Nat) (hi:i < ms.length):grow l F ms (i+1)=grow l F ms i ++ [insN (grow l F ms i) (F ms[i]).1 (F ms[i]).2.1 (F ms[i]).2.2]:=by
 have e:=grow_len l F ms i (by omega)
 unfold insN
 rw [e]
 unfold grow
 rw [List.take_succ_eq_append_getElem hi,List.map_append,number_app,List.append_assoc,List.length_map,List.length_take,Nat.min_eq_left (by omega)]
 congr 1
theorem grow_all (l:List Ins) (F:Int→Row) (ms:List Int):grow l F ms ms.length=l ++ number l.length (ms.map F):=by
 unfold grow; rw [List.take_length]
theorem cget (l:List Int) (i:Nat) (hi:i < l.length):(cells l)[i]?=some [I l[i]]:=by
 simp [cells,hi]
theorem loads_ok (l:List Ins) (s:ByteArray) (r:Int) (ms:List Int) (hl:0 < l.length) (hb:l.length+ms.length≤250) (hms:∀ m ∈ ms,m=1∨Adr m) :
  FnE Try.prog 81 [.ptr 0 1 0 0,.c (.string s),I r,.psl 2 1 0 ms.length] [mkA 1 l,mkB l,⟨1,1,cells ms⟩] (.tup [])
   [mkA 1 (l ++ number l.length (loadsM s r ms)),mkB (l ++ number l.length (loadsM s r ms)),⟨1,1,cells ms⟩]:=by
 obtain ⟨F,hF⟩:∃ F:Int→Row,F=fun m=>(s,m,readsM m [twoM 1 r 5,oneM 3 r]):=⟨_,rfl⟩
 have hfin:l ++ number l.length (loadsM s r ms)=grow l F ms ms.length:=by rw [grow_all,hF]; rfl
 rw [hfin]
 obtain ⟨g,hg⟩:∃ g,grow l F ms=g:=⟨_,rfl⟩
 have hg0:g 0=l:=by rw [← hg,grow_zero]
 have hgl:∀ i,i≤ms.length→(g i).length=l.length+i:=fun i hi=>by rw [← hg,grow_len l F ms i hi]
 have hgs:∀ (i:Nat) (hi:i < ms.length),g (i+1)=g i ++ [insN (g i) s ms[i] (readsM ms[i] [twoM 1 r 5,oneM 3 r])]:=fun i hi=>by rw [← hg,grow_succ l F ms i hi,hF]
 rw [hg]
 clear hfin hg hF
 refine N.fnC Try.func81 k81 fun Q hQ hQN=>?_
 repeat' (first|exact ⟨⟩|intro (K:KT) hK|intro hcd|refine go1 ?_ ?_|fail)
 refine N.loop (σ:=Nat) (fun i=>[(0,.ptr 0 1 0 0),(1,.c (.string s)),(2,I r),(10,.psl 2 1 0 ms.length),(11,I ms.length),(12,I i)]) (fun i=>[mkA 1 (g i),mkB (g i),⟨1,1,cells ms⟩]) (fun i=>i≤ms.length) (fun i=>ms.length - i) 0 (by omega) (Weaks.sel (by exact sB) (by rw [hg0])) fun i hi R hC=>?_
 by_cases hil:i < ms.length
 ·have e3:0+(i:Int).toNat=i:=by omega
  have hgt:=cget ms i hil
  have hmi:=hms _ (List.getElem_mem hil)
  have hn:=hgs i hil
  have hlen:=hgl i hi
  obtain ⟨m,hm⟩:∃ m,ms[i]=m:=⟨_,rfl⟩
  rw [hm] at hgt hmi hn
  have hr:=reads_ok m hmi [twoM 1 r 5,oneM 3 r] 2
  have ha:=add_ok (g i) (by omega) s m (readsM m [twoM 1 r 5,oneM 3 r])
  rw [← hn] at ha
  repeat' (first|rw [e3]|(show Wo (.ld _ _); refine T.ld rfl rfl rfl hgt rfl ?_)|rw [rows_renA]|(show AK _ _ (.reg (⟨some 16,_,_⟩ :: _) _) _ _ _ _; refine N.cutN 10 fun K hK=>?_)|(show AKW _ _ (.seq _ _) _ _ _ _; refine N.now ?_)|(show AKW _ _ (.block _ _) _ _ _ _; refine N.now ?_)|(show AKW _ _ (.cond _ _ _) _ _ _ _; refine N.now ?_)|(show AKW _ _ (.reg (⟨some 16,_,_⟩ :: _) _) _ _ _ _; refine N.now ?_)|(show Wc; first|refine T.call0 e87 rfl ((two_ok 1 r 5)) ?_|refine T.call0 e88 rfl ((one_ok 3 r)) ?_|refine T.cP [3] e101 (hr) ?_)|exact ⟨⟩|intro (K:KT) hK|intro hcd|refine goW ?_ ?_|fail)
  refine N.weak (fr1:=[(0,.ptr 0 1 0 0),(1,.c (.string s)),(2,I r),(10,.psl 2 1 0 ms.length),(11,I ms.length),(12,I i),(16,.ptr 0 1 0 0),(17,.c (.string s)),(18,I m),(25,.sl 4 ((readsM m [twoM 1 r 5,oneM 3 r]).map cyC))]) (h1:=[mkA 1 (g i),mkB (g i),⟨1,1,cells ms⟩]) (Weaks.gc [0,1,2] 2 rfl ⟨.rfl,.rfl,.rfl,.rfl,.rfl,.rfl,.rfl,.rfl,.rfl,?_,trivial⟩ ?_) (N.now ?_)
  ·exact Sub.of_eq (out_cyc (x:=rdM (if m=1 then 0 else 2) 5 [twoM 1 r 5,oneM 3 r]) rfl rfl rfl rfl (Nat.le_refl _) (Nat.le_refl _))
  ·show [_,_,_]=[_,outB _ _ _ (mkB _),outB _ _ _ ⟨1,1,cells ms⟩]
   rw [outB_mkB,outB_ints]; rfl
  repeat' (first|simp only [renB_mkB]|refine T.cP [0,1] e85 (ha) ?_|exact ⟨⟩|intro (K:KT) hK|intro hcd|refine go1 ?_ ?_|fail)
  exact hC _ _ (i+1) (by omega) (by omega) (Weaks.sel (by exact sB) (by show [_,_,_]=[renB [0,1] (mkA 1 (g (i+1))),renB [0,1] (mkB (g (i+1))),_]; rw [renB_mkB]; rfl))
 ·obtain rfl:i=ms.length:=by omega
  repeat' (first|exact ⟨⟩|intro (K:KT) hK|intro hcd|refine go1 ?_ ?_|fail)
  exact WS.gc [0,1,2] 0 rfl (by show [_,_,_]=[_,outB _ _ _ (mkB _),outB _ _ _ ⟨1,1,cells ms⟩]; rw [outB_mkB,outB_ints]; rfl) .rfl
theorem stores_ok (l:List Ins) (s:ByteArray) (r:Int) (ms:List Int) (hl:0 < l.length) (hb:l.length+ms.length≤250) (hms:∀ m ∈ ms,Adr m) :
  FnE Try.prog 82 [.ptr 0 1 0 0,.c (.string s),I r,.psl 2 1 0 ms.length] [mkA 1 l,mkB l,⟨1,1,cells ms⟩] (.tup [])
   [mkA 1 (l ++ number l.length (storesM s r ms)),mkB (l ++ number l.length (storesM s r ms)),⟨1,1,cells ms⟩]:=by
 obtain ⟨F,hF⟩:∃ F:Int→Row,F=fun m=>(s,m,leadM m ++ [wrM 2 r []]):=⟨_,rfl⟩
 have hfin:l ++ number l.length (storesM s r ms)=grow l F ms ms.length:=by rw [grow_all,hF]; rfl
 rw [hfin]
 obtain ⟨g,hg⟩:∃ g,grow l F ms=g:=⟨_,rfl⟩
 have hg0:g 0=l:=by rw [← hg,grow_zero]
 have hgl:∀ i,i≤ms.length→(g i).length=l.length+i:=fun i hi=>by rw [← hg,grow_len l F ms i hi]
 have hgs:∀ (i:Nat) (hi:i < ms.length),g (i+1)=g i ++ [insN (g i) s ms[i] (leadM ms[i] ++ [wrM 2 r []])]:=fun i hi=>by rw [← hg,grow_succ l F ms i hi,hF]
 rw [hg]
 clear hfin hg hF
 refine N.fnC Try.func82 k82 fun Q hQ hQN=>?_
 repeat' (first|exact ⟨⟩|intro (K:KT) hK|intro hcd|refine go1 ?_ ?_|fail)
 refine N.loop (σ:=Nat) (fun i=>[(0,.ptr 0 1 0 0),(1,.c (.string s)),(2,I r),(10,.psl 2 1 0 ms.length),(11,I ms.length),(12,I i)]) (fun i=>[mkA 1 (g i),mkB (g i),⟨1,1,cells ms⟩]) (fun i=>i≤ms.length) (fun i=>ms.length - i) 0 (by omega) (Weaks.sel (by exact sB) (by rw [hg0])) fun i hi R hC=>?_
 by_cases hil:i < ms.length
 ·have e3:0+(i:Int).toNat=i:=by omega
  have hgt:=cget ms i hil
  have hmi:=hms _ (List.getElem_mem hil)
  have hn:=hgs i hil
  have hlen:=hgl i hi
  obtain ⟨m,hm⟩:∃ m,ms[i]=m:=⟨_,rfl⟩
  rw [hm] at hgt hmi hn
  have hr:=lead_ok m hmi
  have hlm:=leadM_len m
  have ha:=add_ok (g i) (by omega) s m (leadM m ++ [wrM 2 r []])
  rw [← hn] at ha
  repeat' (first|rw [e3]|(show Wo (.ld _ _); refine T.ld rfl rfl rfl hgt rfl ?_)|rw [rows_ren]|(show Wo (.app _ _ _ _); refine T.app rfl rfl rfl ⟨by decide,by decide⟩ ⟨rfl,rfl,by rw [List.length_map,Nat.zero_add],by simp; omega⟩ ?_)|(show AK _ _ (.reg (⟨some 16,_,_⟩ :: _) _) _ _ _ _; refine N.cutN 9 fun K hK=>?_)|(show AKW _ _ (.seq _ _) _ _ _ _; refine N.now ?_)|(show AKW _ _ (.block _ _) _ _ _ _; refine N.now ?_)|(show AKW _ _ (.cond _ _ _) _ _ _ _; refine N.now ?_)|(show AKW _ _ (.reg (⟨some 16,_,_⟩ :: _) _) _ _ _ _; refine N.now ?_)|(show Wc; first|refine T.call0 e89 rfl ((wrN_ok 2 r)) ?_|refine T.callN e102 rfl (hr) (by simp) ?_)|exact ⟨⟩|intro (K:KT) hK|intro hcd|refine goW ?_ ?_|fail)
  refine N.weak (fr1:=[(0,.ptr 0 1 0 0),(1,.c (.string s)),(2,I r),(10,.psl 2 1 0 ms.length),(11,I ms.length),(12,I i),(16,.ptr 0 1 0 0),(17,.c (.string s)),(18,I m),(24,.sl 4 ((leadM m ++ [wrM 2 r []]).map cyC))]) (h1:=[mkA 1 (g i),mkB (g i),⟨1,1,cells ms⟩]) (Weaks.gc [0,1,2] 2 rfl ⟨.rfl,.rfl,.rfl,.rfl,.rfl,.rfl,.rfl,.rfl,.rfl,?_,trivial⟩ ?_) (N.now ?_)
  ·exact Sub.of_eq (out_rowsK (f:=cyC) (l:=leadM m ++ [wrM 2 r []]) rfl (by rw [List.map_append]; rfl) (by rw [List.length_append]; exact Nat.le_refl _))
  ·show [_,_,_]=[_,outB _ _ _ (mkB _),outB _ _ _ ⟨1,1,cells ms⟩]
   rw [outB_mkB,outB_ints]; rfl
  repeat' (first|simp only [renB_mkB]|refine T.cP [0,1] e85 (ha) ?_|exact ⟨⟩|intro (K:KT) hK|intro hcd|refine go1 ?_ ?_|fail)
  exact hC _ _ (i+1) (by omega) (by omega) (Weaks.sel (by exact sB) (by show [_,_,_]=[renB [0,1] (mkA 1 (g (i+1))),renB [0,1] (mkB (g (i+1))),_]; rw [renB_mkB]; rfl))
 ·obtain rfl:i=ms.length:=by omega
  repeat' (first|exact ⟨⟩|intro (K:KT) hK|intro hcd|refine go1 ?_ ?_|fail)
  exact WS.gc [0,1,2] 0 rfl (by show [_,_,_]=[_,outB _ _ _ (mkB _),outB _ _ _ ⟨1,1,cells ms⟩]; rw [outB_mkB,outB_ints]; rfl) .rfl
theorem joins_ok (l:List Ins) (s:ByteArray) (d r:Int) (ms:List Int) (hl:0 < l.length) (hb:l.length+ms.length≤250) (hms:∀ m ∈ ms,m=1∨Adr m) :
  FnE Try.prog 83 [.ptr 0 1 0 0,.c (.string s),I d,I r,.psl 2 1 0 ms.length] [mkA 1 l,mkB l,⟨1,1,cells ms⟩] (.tup [])
   [mkA 1 (l ++ number l.length (joinsM s d r ms)),mkB (l ++ number l.length (joinsM s d r ms)),⟨1,1,cells ms⟩]:=by
 obtain ⟨F,hF⟩:∃ F:Int→Row,F=fun m=>(s,m,readsM m [twoM d r 5]):=⟨_,rfl⟩
 have hfin:l ++ number l.length (joinsM s d r ms)=grow l F ms ms.length:=by rw [grow_all,hF]; rfl
 rw [hfin]
 obtain ⟨g,hg⟩:∃ g,grow l F ms=g:=⟨_,rfl⟩
 have hg0:g 0=l:=by rw [← hg,grow_zero]
 have hgl:∀ i,i≤ms.length→(g i).length=l.length+i:=fun i hi=>by rw [← hg,grow_len l F ms i hi]
 have hgs:∀ (i:Nat) (hi:i < ms.length),g (i+1)=g i ++ [insN (g i) s ms[i] (readsM ms[i] [twoM d r 5])]:=fun i hi=>by rw [← hg,grow_succ l F ms i hi,hF]
 rw [hg]
 clear hfin hg hF
 refine N.fnC Try.func83 k83 fun Q hQ hQN=>?_
 repeat' (first|exact ⟨⟩|intro (K:KT) hK|intro hcd|refine go1 ?_ ?_|fail)
 refine N.loop (σ:=Nat) (fun i=>[(0,.ptr 0 1 0 0),(1,.c (.string s)),(2,I d),(3,I r),(12,.psl 2 1 0 ms.length),(13,I ms.length),(14,I i)]) (fun i=>[mkA 1 (g i),mkB (g i),⟨1,1,cells ms⟩]) (fun i=>i≤ms.length) (fun i=>ms.length - i) 0 (by omega) (Weaks.sel (by exact sB) (by rw [hg0])) fun i hi R hC=>?_
 by_cases hil:i < ms.length
 ·have e3:0+(i:Int).toNat=i:=by omega
  have hgt:=cget ms i hil
  have hmi:=hms _ (List.getElem_mem hil)
  have hn:=hgs i hil
  have hlen:=hgl i hi
  obtain ⟨m,hm⟩:∃ m,ms[i]=m:=⟨_,rfl⟩
  rw [hm] at hgt hmi hn
  have hr:=reads_ok m hmi [twoM d r 5] 1
  have ha:=add_ok (g i) (by omega) s m (readsM m [twoM d r 5])
  rw [← hn] at ha
  repeat' (first|rw [e3]|(show Wo (.ld _ _); refine T.ld rfl rfl rfl hgt rfl ?_)|rw [rows_renA]|(show AK _ _ (.reg (⟨some 18,_,_⟩ :: _) _) _ _ _ _; refine N.cutN 9 fun K hK=>?_)|(show AKW _ _ (.seq _ _) _ _ _ _; refine N.now ?_)|(show AKW _ _ (.block _ _) _ _ _ _; refine N.now ?_)|(show AKW _ _ (.cond _ _ _) _ _ _ _; refine N.now ?_)|(show AKW _ _ (.reg (⟨some 18,_,_⟩ :: _) _) _ _ _ _; refine N.now ?_)|(show Wc; first|refine T.call0 e87 rfl ((two_ok d r 5)) ?_|refine T.cP [3] e101 (hr) ?_)|exact ⟨⟩|intro (K:KT) hK|intro hcd|refine goW ?_ ?_|fail)
  refine N.weak (fr1:=[(0,.ptr 0 1 0 0),(1,.c (.string s)),(2,I d),(3,I r),(12,.psl 2 1 0 ms.length),(13,I ms.length),(14,I i),(18,.ptr 0 1 0 0),(19,.c (.string s)),(20,I m),(26,.sl 4 ((readsM m [twoM d r 5]).map cyC))]) (h1:=[mkA 1 (g i),mkB (g i),⟨1,1,cells ms⟩]) (Weaks.gc [0,1,2] 2 rfl ⟨.rfl,.rfl,.rfl,.rfl,.rfl,.rfl,.rfl,.rfl,.rfl,.rfl,?_,trivial⟩ ?_) (N.now ?_)
  ·exact Sub.of_eq (out_cyc (x:=rdM (if m=1 then 0 else 2) 5 [twoM d r 5]) rfl rfl rfl rfl (Nat.le_refl _) (Nat.le_refl _))
  ·show [_,_,_]=[_,outB _ _ _ (mkB _),outB _ _ _ ⟨1,1,cells ms⟩]
   rw [outB_mkB,outB_ints]; rfl
  repeat' (first|simp only [renB_mkB]|refine T.cP [0,1] e85 (ha) ?_|exact ⟨⟩|intro (K:KT) hK|intro hcd|refine go1 ?_ ?_|fail)
  exact hC _ _ (i+1) (by omega) (by omega) (Weaks.sel (by exact sB) (by show [_,_,_]=[renB [0,1] (mkA 1 (g (i+1))),renB [0,1] (mkB (g (i+1))),_]; rw [renB_mkB]; rfl))
 ·obtain rfl:i=ms.length:=by omega
  repeat' (first|exact ⟨⟩|intro (K:KT) hK|intro hcd|refine go1 ?_ ?_|fail)
  exact WS.gc [0,1,2] 0 rfl (by show [_,_,_]=[_,outB _ _ _ (mkB _),outB _ _ _ ⟨1,1,cells ms⟩]; rw [outB_mkB,outB_ints]; rfl) .rfl
theorem out_cycY {h:List Blk} {ids:List Nat} {b v p n len:Nat} {cs ds:List Cyc} {x:Cyc} (hp:pos ids b=none) (hp2:pos ids p=none) (hb:h[b]?=some ⟨v,4,cs.map cyC ++ ([I x.bus,I x.at_,I x.reg,.psl p 1 0 n] :: ds.map cyC)⟩) (hb2:h[p]?=some ⟨1,4,x.steps.map stC⟩) (hn:x.steps.length≤n) (hl:cs.length+(ds.length+1)≤len) :
  out h ids 2 (.psl b v 0 len)=.sl 4 ((cs ++ x :: ds).map cyC):=by
 rw [out_pslK hp hb rfl,List.drop_zero,List.take_of_length_le (by simpa using hl),List.map_append,rows_frz,List.map_append,List.map_cons,List.map_cons,rows_frz]
 congr 3
 simp only [List.map_cons,List.map_nil,frz_c]
 rw [frz_psl hb2 rfl (show (fun b=>(pos ids b).isSome) p=false by dsimp only; rw [hp2]; rfl),List.drop_zero,List.take_of_length_le (by simpa using hn),rows_frz]
 rfl
theorem turns_ok (l:List Ins) (s:ByteArray) (d:Int) (ms:List Int) (hl:0 < l.length) (hb:l.length+ms.length≤250) (hms:∀ m ∈ ms,m=0∨Adr m) :
  FnE Try.prog 84 [.ptr 0 1 0 0,.c (.string s),I d,.psl 2 1 0 ms.length] [mkA 1 l,mkB l,⟨1,1,cells ms⟩] (.tup [])
   [mkA 1 (l ++ number l.length (turnsM s d ms)),mkB (l ++ number l.length (turnsM s d ms)),⟨1,1,cells ms⟩]:=by
 obtain ⟨F,hF⟩:∃ F:Int→Row,F=fun m=>(s,m,if m=0 then [noM [oneM d 0]] else leadM m ++ [rdM 2 5 [oneM d 5],wrM 2 5 []]):=⟨_,rfl⟩
 have hfin:l ++ number l.length (turnsM s d ms)=grow l F ms ms.length:=by rw [grow_all,hF]; rfl
 rw [hfin]
 obtain ⟨g,hg⟩:∃ g,grow l F ms=g:=⟨_,rfl⟩
 have hg0:g 0=l:=by rw [← hg,grow_zero]
 have hgl:∀ i,i≤ms.length→(g i).length=l.length+i:=fun i hi=>by rw [← hg,grow_len l F ms i hi]
 have hgs:∀ (i:Nat) (hi:i < ms.length),g (i+1)=g i ++ [insN (g i) s ms[i] (if ms[i]=0 then [noM [oneM d 0]] else leadM ms[i] ++ [rdM 2 5 [oneM d 5],wrM 2 5 []])]:=fun i hi=>by rw [← hg,grow_succ l F ms i hi,hF]
 rw [hg]
 clear hfin hg hF
 refine N.fnC Try.func84 k84 fun Q hQ hQN=>?_
 repeat' (first|exact ⟨⟩|intro (K:KT) hK|intro hcd|refine go1 ?_ ?_|fail)
 refine N.loop (σ:=Nat) (fun i=>[(0,.ptr 0 1 0 0),(1,.c (.string s)),(2,I d),(10,.psl 2 1 0 ms.length),(11,I ms.length),(12,I i)]) (fun i=>[mkA 1 (g i),mkB (g i),⟨1,1,cells ms⟩]) (fun i=>i≤ms.length) (fun i=>ms.length - i) 0 (by omega) (Weaks.sel (by exact sB) (by rw [hg0])) fun i hi R hC=>?_
 by_cases hil:i < ms.length
 ·have e3:0+(i:Int).toNat=i:=by omega
  have hgt:=cget ms i hil
  have hmi:=hms _ (List.getElem_mem hil)
  have hn:=hgs i hil
  have hlen:=hgl i hi
  obtain ⟨m,hm⟩:∃ m,ms[i]=m:=⟨_,rfl⟩
  rw [hm] at hgt hmi hn
  rcases hmi with rfl|hmi
  ·have hn:=hn
   rw [if_pos rfl] at hn
   have ha:=add_ok (g i) (by omega) s 0 [noM [oneM d 0]]
   rw [← hn] at ha
   repeat' (first|rw [e3]|(show Wo (.ld _ _); refine T.ld rfl rfl rfl hgt rfl ?_)|(show AKW _ _ (.seq (.reg (⟨some 26,_,_⟩ :: _) _) _) _ _ _ _; fail)|(show AK _ _ (.seq (.reg (⟨some 18,_,_⟩ :: _) _) _) _ _ _ _; refine N.cut 8 fun K hK=>?_)|(show AKW _ _ (.seq (.reg (⟨some 14,_,_⟩ :: _) _) _) _ _ _ _; refine N.now ?_)|(show AKW _ _ (.seq (.cond _ _ _) _) _ _ _ _; refine N.now ?_)|(show AKW _ _ (.seq (.seq _ _) _) _ _ _ _; refine N.now ?_)|(show AKW _ _ (.seq (.block _ _) _) _ _ _ _; refine N.now ?_)|(show AKW _ _ (.block _ _) _ _ _ _; refine N.now ?_)|(show AKW _ _ (.cond _ _ _) _ _ _ _; refine N.now ?_)|(show Wc; first|refine T.call0 e88 rfl ((one_ok d 0)) ?_|refine T.cP [3] e86 ((noP_ok [oneM d 0] 1)) ?_)|exact ⟨⟩|intro (K:KT) hK|intro hcd|refine goW ?_ ?_|fail)
   refine N.weak (fr1:=[(0,.ptr 0 1 0 0),(1,.c (.string s)),(2,I d),(10,.psl 2 1 0 ms.length),(11,I ms.length),(12,I i),(18,.ptr 0 1 0 0),(19,.c (.string s)),(20,I 0),(25,.sl 4 (([noM [oneM d 0]]).map cyC))]) (h1:=[mkA 1 (g i),mkB (g i),⟨1,1,cells ms⟩]) (Weaks.gc [0,1,2] 2 rfl ⟨.rfl,.rfl,.rfl,.rfl,.rfl,.rfl,.rfl,.rfl,.rfl,?_,trivial⟩ ?_) (N.now ?_)
   ·exact .rfl
   ·show [_,_,_]=[_,outB _ _ _ (mkB _),outB _ _ _ ⟨1,1,cells ms⟩]
    rw [outB_mkB,outB_ints]; rfl
   repeat' (first|simp only [renB_mkB]|refine T.cP [0,1] e85 (ha) ?_|exact ⟨⟩|intro (K:KT) hK|intro hcd|refine go1 ?_ ?_|fail)
   exact hC _ _ (i+1) (by omega) (by omega) (Weaks.sel (by exact sB) (by show [_,_,_]=[renB [0,1] (mkA 1 (g (i+1))),renB [0,1] (mkB (g (i+1))),_]; rw [renB_mkB]; rfl))
  ·have hm0:m≠0:=by unfold Adr at hmi; omega
   have hn:=hn
   rw [if_neg hm0] at hn
   have ha:=add_ok (g i) (by omega) s m (leadM m ++ [rdM 2 5 [oneM d 5],wrM 2 5 []])
   rw [← hn] at ha
   have hr:=lead_ok m hmi
   have hlm:=leadM_len m
   repeat' (first|rw [e3]|(show Wo (.ld _ _); refine T.ld rfl rfl rfl hgt rfl ?_)|rw [rows_ren]|(show Wo (.app _ _ _ _); refine T.app rfl rfl rfl ⟨by decide,by decide⟩ ⟨rfl,rfl,by rw [List.length_map,Nat.zero_add],by simp; omega⟩ ?_)|(show AK _ _ (.reg (⟨some 27,_,_⟩ :: _) _) _ _ _ _; refine N.cutN 12 fun K hK=>?_)|(show AKW _ _ (.reg (⟨some 27,_,_⟩ :: _) _) _ _ _ _; refine N.now ?_)|(show AKW _ _ (.seq _ _) _ _ _ _; refine N.now ?_)|(show AKW _ _ (.block _ _) _ _ _ _; refine N.now ?_)|(show AKW _ _ (.cond _ _ _) _ _ _ _; refine N.now ?_)|(show Wc; first|refine T.callN e102 rfl (hr) (by simp) ?_|refine T.call0 e88 rfl ((one_ok d 5)) ?_|refine T.cP [4] e61 ((rdP_ok 2 5 [oneM d 5] 1)) ?_|refine T.call0 e89 rfl ((wrN_ok 2 5)) ?_)|exact ⟨⟩|intro (K:KT) hK|intro hcd|refine goW ?_ ?_|fail)
   refine N.weak (fr1:=[(0,.ptr 0 1 0 0),(1,.c (.string s)),(2,I d),(10,.psl 2 1 0 ms.length),(11,I ms.length),(12,I i),(27,.ptr 0 1 0 0),(28,.c (.string s)),(29,I m),(38,.sl 4 ((leadM m ++ [rdM 2 5 [oneM d 5],wrM 2 5 []]).map cyC))]) (h1:=[mkA 1 (g i),mkB (g i),⟨1,1,cells ms⟩]) (Weaks.gc [0,1,2] 2 rfl ⟨.rfl,.rfl,.rfl,.rfl,.rfl,.rfl,.rfl,.rfl,.rfl,?_,trivial⟩ ?_) (N.now ?_)
   ·exact Sub.of_eq (out_cycY (x:=rdM 2 5 [oneM d 5]) (ds:=[wrM 2 5 []]) rfl rfl rfl rfl (Nat.le_refl _) (Nat.le_refl _))
   ·show [_,_,_]=[_,outB _ _ _ (mkB _),outB _ _ _ ⟨1,1,cells ms⟩]
    rw [outB_mkB,outB_ints]; rfl
   repeat' (first|simp only [renB_mkB]|refine T.cP [0,1] e85 (ha) ?_|exact ⟨⟩|intro (K:KT) hK|intro hcd|refine go1 ?_ ?_|fail)
   exact hC _ _ (i+1) (by omega) (by omega) (Weaks.sel (by exact sB) (by show [_,_,_]=[renB [0,1] (mkA 1 (g (i+1))),renB [0,1] (mkB (g (i+1))),_]; rw [renB_mkB]; rfl))
 ·obtain rfl:i=ms.length:=by omega
  repeat' (first|exact ⟨⟩|intro (K:KT) hK|intro hcd|refine go1 ?_ ?_|fail)
  exact WS.gc [0,1,2] 0 rfl (by show [_,_,_]=[_,outB _ _ _ (mkB _),outB _ _ _ ⟨1,1,cells ms⟩]; rw [outB_mkB,outB_ints]; rfl) .rfl
def mkH (ms:List Int) (g:Nat→List Ins):Nat→List Blk
 | 0=>[⟨1,1,[[.c (.slice none 0 0)]]⟩,⟨1,1,cells ms⟩]
 | i+1=>[mkA 2 (g (i+1)),⟨1,1,cells ms⟩,mkB (g (i+1))]
theorem loads0_ok (s:ByteArray) (r:Int) (ms:List Int) (h0:0 < ms.length) (hb:ms.length≤250) (hms:∀ m ∈ ms,m=1∨Adr m) :
  FnE Try.prog 81 [.ptr 0 1 0 0,.c (.string s),I r,.psl 1 1 0 ms.length] [⟨1,1,[[.c (.slice none 0 0)]]⟩,⟨1,1,cells ms⟩] (.tup [])
   [mkA 2 (number 0 (loadsM s r ms)),⟨1,1,cells ms⟩,mkB (number 0 (loadsM s r ms))]:=by
 obtain ⟨F,hF⟩:∃ F:Int→Row,F=fun m=>(s,m,readsM m [twoM 1 r 5,oneM 3 r]):=⟨_,rfl⟩
 have hfin:number 0 (loadsM s r ms)=grow [] F ms ms.length:=by rw [grow_all,hF]; rfl
 rw [hfin]
 obtain ⟨g,hg⟩:∃ g,grow [] F ms=g:=⟨_,rfl⟩
 have hg0:g 0=[]:=by rw [← hg,grow_zero]
 have hgl:∀ i,i≤ms.length→(g i).length=i:=fun i hi=>by rw [← hg,grow_len [] F ms i hi]; exact Nat.zero_add _
 have hgs:∀ (i:Nat) (hi:i < ms.length),g (i+1)=g i ++ [insN (g i) s ms[i] (readsM ms[i] [twoM 1 r 5,oneM 3 r])]:=fun i hi=>by rw [← hg,grow_succ [] F ms i hi,hF]
 rw [hg]
 clear hfin hg hF
 refine N.fnC Try.func81 k81 fun Q hQ hQN=>?_
 repeat' (first|exact ⟨⟩|intro (K:KT) hK|intro hcd|refine go1 ?_ ?_|fail)
 refine N.loop (σ:=Nat) (fun i=>[(0,.ptr 0 1 0 0),(1,.c (.string s)),(2,I r),(10,.psl 1 1 0 ms.length),(11,I ms.length),(12,I i)]) (mkH ms g) (fun i=>i≤ms.length) (fun i=>ms.length - i) 0 (by omega) (Weaks.sel (by exact sB) rfl) fun i hi R hC=>?_
 by_cases hil:i < ms.length
 ·have e3:0+(i:Int).toNat=i:=by omega
  have hgt:=cget ms i hil
  have hmi:=hms _ (List.getElem_mem hil)
  have hn:=hgs i hil
  have hlen:=hgl i hi
  obtain ⟨m,hm⟩:∃ m,ms[i]=m:=⟨_,rfl⟩
  rw [hm] at hgt hmi hn
  have hr:=reads_ok m hmi [twoM 1 r 5,oneM 3 r] 2
  rcases i with _|i
  ·rw [hg0] at hn
   have ha:=add0_ok s m (readsM m [twoM 1 r 5,oneM 3 r])
   repeat' (first|rw [e3]|(show Wo (.ld _ _); refine T.ld rfl rfl rfl hgt rfl ?_)|rw [rows_renA]|(show AK _ _ (.reg (⟨some 16,_,_⟩ :: _) _) _ _ _ _; refine N.cutN 10 fun K hK=>?_)|(show AKW _ _ (.seq _ _) _ _ _ _; refine N.now ?_)|(show AKW _ _ (.block _ _) _ _ _ _; refine N.now ?_)|(show AKW _ _ (.cond _ _ _) _ _ _ _; refine N.now ?_)|(show AKW _ _ (.reg (⟨some 16,_,_⟩ :: _) _) _ _ _ _; refine N.now ?_)|(show Wc; first|refine T.call0 e87 rfl ((two_ok 1 r 5)) ?_|refine T.call0 e88 rfl ((one_ok 3 r)) ?_|refine T.cP [2] e101 (hr) ?_)|exact ⟨⟩|intro (K:KT) hK|intro hcd|refine goW ?_ ?_|fail)
   refine N.weak (fr1:=[(0,.ptr 0 1 0 0),(1,.c (.string s)),(2,I r),(10,.psl 1 1 0 ms.length),(11,I ms.length),(12,I ((0:Nat):Int)),(16,.ptr 0 1 0 0),(17,.c (.string s)),(18,I m),(25,.sl 4 ((readsM m [twoM 1 r 5,oneM 3 r]).map cyC))]) (h1:=[⟨1,1,[[.c (.slice none 0 0)]]⟩,⟨1,1,cells ms⟩]) (Weaks.gc [0,1] 2 rfl ⟨.rfl,.rfl,.rfl,.rfl,.rfl,.rfl,.rfl,.rfl,.rfl,?_,trivial⟩ ?_) (N.now ?_)
   ·exact Sub.of_eq (out_cyc (x:=rdM (if m=1 then 0 else 2) 5 [twoM 1 r 5,oneM 3 r]) rfl rfl rfl rfl (Nat.le_refl _) (Nat.le_refl _))
   ·show [_,_]=[_,outB _ _ _ ⟨1,1,cells ms⟩]; rw [outB_ints]; rfl
   repeat' (first|simp only [renB_mkB]|refine T.cP [0] e85 (ha) ?_|exact ⟨⟩|intro (K:KT) hK|intro hcd|refine go1 ?_ ?_|fail)
   exact hC _ _ (0+1) (by omega) (by omega) (Weaks.sel (by exact sB) (by show [mkA 2 (g (0+1)),_,mkB (g (0+1))]=[renB [0,2] (mkA 1 [_]),_,renB [0,2] (mkB [_])]; rw [renB_mkB,hn]; rfl))
  ·have ha:=add_ok (g (i+1)) (by omega) s m (readsM m [twoM 1 r 5,oneM 3 r])
   rw [← hn] at ha
   repeat' (first|rw [e3]|(show Wo (.ld _ _); refine T.ld rfl rfl rfl hgt rfl ?_)|rw [rows_renA]|(show AK _ _ (.reg (⟨some 16,_,_⟩ :: _) _) _ _ _ _; refine N.cutN 10 fun K hK=>?_)|(show AKW _ _ (.seq _ _) _ _ _ _; refine N.now ?_)|(show AKW _ _ (.block _ _) _ _ _ _; refine N.now ?_)|(show AKW _ _ (.cond _ _ _) _ _ _ _; refine N.now ?_)|(show AKW _ _ (.reg (⟨some 16,_,_⟩ :: _) _) _ _ _ _; refine N.now ?_)|(show Wc; first|refine T.call0 e87 rfl ((two_ok 1 r 5)) ?_|refine T.call0 e88 rfl ((one_ok 3 r)) ?_|refine T.cP [3] e101 (hr) ?_)|exact ⟨⟩|intro (K:KT) hK|intro hcd|refine goW ?_ ?_|fail)
   refine N.weak (fr1:=[(0,.ptr 0 1 0 0),(1,.c (.string s)),(2,I r),(10,.psl 1 1 0 ms.length),(11,I ms.length),(12,I ((i+1:Nat):Int)),(16,.ptr 0 1 0 0),(17,.c (.string s)),(18,I m),(25,.sl 4 ((readsM m [twoM 1 r 5,oneM 3 r]).map cyC))]) (h1:=[mkA 2 (g (i+1)),⟨1,1,cells ms⟩,mkB (g (i+1))]) (Weaks.gc [0,1,2] 2 rfl ⟨.rfl,.rfl,.rfl,.rfl,.rfl,.rfl,.rfl,.rfl,.rfl,?_,trivial⟩ ?_) (N.now ?_)
   ·exact Sub.of_eq (out_cyc (x:=rdM (if m=1 then 0 else 2) 5 [twoM 1 r 5,oneM 3 r]) rfl rfl rfl rfl (Nat.le_refl _) (Nat.le_refl _))
   ·show [_,_,_]=[_,outB _ _ _ ⟨1,1,cells ms⟩,outB _ _ _ (mkB _)]; rw [outB_mkB,outB_ints]; rfl
   repeat' (first|simp only [renB_mkB]|refine T.cP [0,2] e85 (ha) ?_|exact ⟨⟩|intro (K:KT) hK|intro hcd|refine go1 ?_ ?_|fail)
   exact hC _ _ (i+1+1) (by omega) (by omega) (Weaks.sel (by exact sB) (by show [_,_,_]=[renB [0,2] (mkA 1 (g (i+1+1))),_,renB [0,2] (mkB (g (i+1+1)))]; rw [renB_mkB]; rfl))
 ·obtain rfl:i=ms.length:=by omega
  obtain ⟨j,hj⟩:∃ j,ms.length=j+1:=⟨ms.length - 1,by omega⟩
  rw [show mkH ms g ms.length=[mkA 2 (g ms.length),⟨1,1,cells ms⟩,mkB (g ms.length)] by rw [hj]; rfl]
  repeat' (first|exact ⟨⟩|intro (K:KT) hK|intro hcd|refine go1 ?_ ?_|fail)
  exact WS.gc [0,1,2] 0 rfl (by show [_,_,_]=[_,outB _ _ _ ⟨1,1,cells ms⟩,outB _ _ _ (mkB _)]; rw [outB_mkB,outB_ints]; rfl) .rfl
def mA (k:Nat):Blk:=mkA 1 (number 0 (memR k))
def mB (k:Nat):Blk:=mkB (number 0 (memR k))
theorem renB_mB {ids:List Nat} {k:Nat}:renB ids (mB k)=mB k:=renB_flat
theorem outB_mB {h:List Blk} {ids:List Nat} {n k:Nat}:outB h ids n (mB k)=mB k:=outB_flat
theorem num_succ {k:Nat} {c:List Row} (hc:stdL[k]?=some c):number 0 (memR k) ++ number (number 0 (memR k)).length c=number 0 (memR (k+1)):=by
 rw [memR_succ k c hc,number_app,number_len,Nat.zero_add]
theorem num_len (k:Nat) (hk:k < 50∧1≤k):0 < (number 0 (memR k)).length∧(number 0 (memR k)).length≤92:=by
 rw [number_len]; exact memR_len k hk.1 hk.2
theorem loadsK (k:Nat) (hk:k < 50∧1≤k) (s:ByteArray) (r:Int) (ms:List Int) (hc:stdL[k]?=some (loadsM s r ms)) (hn:ms.length≤7) (hms:∀ m ∈ ms,m=1∨Adr m) :
  FnE Try.prog 81 [.ptr 0 1 0 0,.c (.string s),I r,.psl 2 1 0 ms.length] [mA k,mB k,⟨1,1,cells ms⟩] (.tup []) [mA (k+1),mB (k+1),⟨1,1,cells ms⟩]:=by
 have hl:=num_len k hk
 have h:=loads_ok (number 0 (memR k)) s r ms hl.1 (by omega) hms
 rw [num_succ hc] at h; exact h
theorem storesK (k:Nat) (hk:k < 50∧1≤k) (s:ByteArray) (r:Int) (ms:List Int) (hc:stdL[k]?=some (storesM s r ms)) (hn:ms.length≤7) (hms:∀ m ∈ ms,Adr m) :
  FnE Try.prog 82 [.ptr 0 1 0 0,.c (.string s),I r,.psl 2 1 0 ms.length] [mA k,mB k,⟨1,1,cells ms⟩] (.tup []) [mA (k+1),mB (k+1),⟨1,1,cells ms⟩]:=by
 have hl:=num_len k hk
 have h:=stores_ok (number 0 (memR k)) s r ms hl.1 (by omega) hms
 rw [num_succ hc] at h; exact h
theorem joinsK (k:Nat) (hk:k < 50∧1≤k) (s:ByteArray) (d r:Int) (ms:List Int) (hc:stdL[k]?=some (joinsM s d r ms)) (hn:ms.length≤7) (hms:∀ m ∈ ms,m=1∨Adr m) :
  FnE Try.prog 83 [.ptr 0 1 0 0,.c (.string s),I d,I r,.psl 2 1 0 ms.length] [mA k,mB k,⟨1,1,cells ms⟩] (.tup []) [mA (k+1),mB (k+1),⟨1,1,cells ms⟩]:=by
 have hl:=num_len k hk
 have h:=joins_ok (number 0 (memR k)) s d r ms hl.1 (by omega) hms
 rw [num_succ hc] at h; exact h
theorem turnsK (k:Nat) (hk:k < 50∧1≤k) (s:ByteArray) (d:Int) (ms:List Int) (hc:stdL[k]?=some (turnsM s d ms)) (hn:ms.length≤7) (hms:∀ m ∈ ms,m=0∨Adr m) :
  FnE Try.prog 84 [.ptr 0 1 0 0,.c (.string s),I d,.psl 2 1 0 ms.length] [mA k,mB k,⟨1,1,cells ms⟩] (.tup []) [mA (k+1),mB (k+1),⟨1,1,cells ms⟩]:=by
 have hl:=num_len k hk
 have h:=turns_ok (number 0 (memR k)) s d ms hl.1 (by omega) hms
 rw [num_succ hc] at h; exact h
theorem addK (k:Nat) (hk:k < 50∧1≤k) (s:ByteArray) (m:Int) (cy:List Cyc) (hc:stdL[k]?=some [(s,m,cy)]) :
  FnE Try.prog 85 [.ptr 0 1 0 0,.c (.string s),I m,.sl 4 (cy.map cyC)] [mA k,mB k] (.tup []) [mA (k+1),mB (k+1)]:=by
 have hl:=num_len k hk
 have h:=add_ok (number 0 (memR k)) ⟨hl.1,by omega⟩ s m cy
 rw [show number 0 (memR k) ++ [insN (number 0 (memR k)) s m cy]=number 0 (memR (k+1)) from num_succ hc] at h; exact h
def joinL:List (ByteArray×Int):=[(⟨#[97,100,99]⟩,4),(⟨#[115,98,99]⟩,5),(⟨#[97,110,100]⟩,7),(⟨#[111,114,97]⟩,8),(⟨#[101,111,114]⟩,9),(⟨#[99,109,112]⟩,6)]
section
variable {P:Program} {q:Nat} {st:List KF} {Q:Exit→Fr→List Blk→Prop} {fr:Fr} {h:List Blk} {c:AC}
theorem wC (k:Nat) (hA:AK P q c st Q [(0,.ptr 0 1 0 0)] [mA k,mB k]) (hids:gcOk q h.length [0,1]=true:=by rfl) (hs:selO h [0,1] 0 fr [(0,.ptr 0 1 0 0)]:=by exact ⟨.rfl,trivial⟩) (h0:h.getD 0 default=renB [0,1,2] (mA k):=by rfl) (h1:h.getD 1 default=renB [0,1,2] (mB k):=by rfl):AKW P q c st Q fr h :=
 N.weak (Weaks.gc [0,1] 0 hids hs (by
  show [_,_]=[outB h [0,1] 0 (h.getD 0 default),outB h [0,1] 0 (h.getD 1 default)]
  rw [h0,h1,renB_mB,outB_mB]; rfl)) (N.now hA)
end
theorem memory_ok:FnE Try.prog 58 [.ptr 0 1 0 0] [⟨1,1,[[.c (.slice none 0 0)]]⟩] (.tup []) [mA 20,mB 20]:=by
 refine N.fnC Try.func58 k58 fun Q hQ hQN=>?_
 repeat' (first|refine T.cP [0,1] e81 ((loads0_ok ⟨#[108,100,97]⟩ 0 [1,2,3,4,5,6,8] (by decide) (by decide) (by unfold Adr; decide))) ?_|exact ⟨⟩|intro (K:KT) hK|intro hcd|refine goW ?_ ?_|fail)
 refine N.weak (fr1:=[(0,.ptr 0 1 0 0)]) (h1:=[mA 1,mB 1]) (Weaks.gc [0,2] 0 rfl ⟨.rfl,trivial⟩ (by show [mA 1,mB 1]=[outB _ [0,2] 0 (renB [0,1,2] (mkA 2 (number 0 (memR 1)))),outB _ _ _ (renB _ (mB 1))]; rw [renB_mB,outB_mB]; rfl)) (N.now ?_)
 repeat' (first|(show AKW _ _ (.seq (.reg (⟨some 10,_,_⟩ :: _) _) _) _ _ _ _; refine wC 2 ?_)|(show AKW _ _ (.seq (.reg (⟨some 13,_,_⟩ :: _) _) _) _ _ _ _; refine wC 3 ?_)|(show AKW _ _ (.seq (.reg (⟨some 16,_,_⟩ :: _) _) _) _ _ _ _; refine wC 4 ?_)|(show AKW _ _ (.seq (.reg (⟨some 19,_,_⟩ :: _) _) _) _ _ _ _; refine wC 5 ?_)|(show Wc; first|refine T.cP [0,1,2] e81 ((loadsK 1 (by decide) ⟨#[108,100,120]⟩ 1 [1,2,4] rfl (by decide) (by unfold Adr; decide))) ?_|refine T.cP [0,1,2] e81 ((loadsK 2 (by decide) ⟨#[108,100,121]⟩ 2 [1,2,4] rfl (by decide) (by unfold Adr; decide))) ?_|refine T.cP [0,1,2] e82 ((storesK 3 (by decide) ⟨#[115,116,97]⟩ 0 [2,3,4,5,6,8] rfl (by decide) (by unfold Adr; decide))) ?_|refine T.cP [0,1,2] e82 ((storesK 4 (by decide) ⟨#[115,116,120]⟩ 1 [2,4] rfl (by decide) (by unfold Adr; decide))) ?_|refine T.cP [0,1,2] e82 ((storesK 5 (by decide) ⟨#[115,116,121]⟩ 2 [2,4] rfl (by decide) (by unfold Adr; decide))) ?_)|exact ⟨⟩|intro (K:KT) hK|intro hcd|refine goW ?_ ?_|fail)
 refine wC 6 ?_
 repeat' (first|exact ⟨⟩|intro (K:KT) hK|intro hcd|refine goW ?_ ?_|fail)
 refine N.weak (fr1:=[(0,.ptr 0 1 0 0),(28,.psl 2 1 0 6),(29,I 6),(30,I 0)]) (h1:=[mA 6,mB 6,⟨1,2,joinL.map fun p=>[.c (.string p.1),I p.2]⟩]) (Weaks.sel (by exact sB) rfl) (N.now ?_)
 repeat' (first|exact ⟨⟩|intro (K:KT) hK|intro hcd|refine goW ?_ ?_|fail)
 refine N.loop (σ:=Nat) (fun i=>[(0,.ptr 0 1 0 0),(28,.psl 2 1 0 6),(29,I 6),(30,I i)]) (fun i=>[mA (6+i),mB (6+i),⟨1,2,joinL.map fun p=>[.c (.string p.1),I p.2]⟩]) (fun i=>i≤6) (fun i=>6 - i) 0 (by omega) (Weaks.sel (by exact sB) rfl) fun i hi R hC=>?_
 by_cases hil:i < 6
 ·have e3:0+(i:Int).toNat=i:=by omega
  obtain ⟨p,hp⟩:∃ p,joinL[i]?=some p:=⟨joinL[i]'hil,List.getElem?_eq_getElem hil⟩
  have hrow:(joinL.map fun p=>[.c (.string p.1),I p.2])[i]?=some [V.c (.string p.1),I p.2]:=by rw [List.getElem?_map,hp]; rfl
  have hst:stdL[6+i]?=some (joinsM p.1 p.2 0 [1,2,4,5]):=by
   have:∀ j,j < 6→∀ q,joinL[j]?=some q→stdL[6+j]?=some (joinsM q.1 q.2 0 [1,2,4,5]):=by
    intro j hj q hq
    match j,hj with
    | 0,_=>cases hq; rfl
    | 1,_=>cases hq; rfl
    | 2,_=>cases hq; rfl
    | 3,_=>cases hq; rfl
    | 4,_=>cases hq; rfl
    | 5,_=>cases hq; rfl
   exact this i hil p hp
  have hj:=joinsK (6+i) (by omega) p.1 p.2 0 [1,2,4,5] hst (by decide) (by unfold Adr; decide)
  repeat' (first|rw [e3]|(show Wo (.ld _ _); refine T.ldn rfl rfl rfl hrow (Nat.le_of_ble_eq_true rfl) ?_)|simp only [renB_mB]|refine T.cP [0,1,4] e83 (hj) ?_|exact ⟨⟩|intro (K:KT) hK|intro hcd|refine go1 ?_ ?_|fail)
  exact hC _ _ (i+1) (by omega) (by omega) (Weaks.gc [0,1,2] 0 rfl (by exact sE) (by show [mA (6+i+1),mB (6+i+1),_]=[outB _ [0,1,2] 0 (renB [0,1,4] (mA (6+i+1))),outB _ _ _ (renB _ (mB (6+i+1))),outB _ _ _ ⟨1,2,joinL.map fun p=>[.c (.string p.1),I p.2]⟩]; rw [renB_mB,outB_mB]; rfl))
 ·obtain rfl:i=6:=by omega
  repeat' (first|(show AKW _ _ (.seq (.cond _ _ _) _) _ _ _ _; refine N.now ?_)|exact ⟨⟩|intro (K:KT) hK|intro hcd|refine goW ?_ ?_|fail)
  refine N.weak (fr1:=[(0,.ptr 0 1 0 0)]) (h1:=[mA 12,mB 12]) (Weaks.gc [0,1] 0 rfl ⟨.rfl,trivial⟩ (by show [mA 12,mB 12]=[outB _ [0,1] 0 (mA 12),outB _ _ _ (mB 12)]; rw [outB_mB]; rfl)) (N.now ?_)
  repeat' (first|(show AKW _ _ (.seq (.reg (⟨some 45,_,_⟩ :: _) _) _) _ _ _ _; refine wC 13 ?_)|(show AKW _ _ (.seq (.reg (⟨some 48,_,_⟩ :: _) _) _) _ _ _ _; refine wC 14 ?_)|(show AKW _ _ (.seq (.reg (⟨some 51,_,_⟩ :: _) _) _) _ _ _ _; refine wC 15 ?_)|(show AKW _ _ (.seq (.reg (⟨some 54,_,_⟩ :: _) _) _) _ _ _ _; refine wC 16 ?_)|(show AKW _ _ (.seq (.reg (⟨some 57,_,_⟩ :: _) _) _) _ _ _ _; refine wC 17 ?_)|(show AKW _ _ (.seq (.reg (⟨some 60,_,_⟩ :: _) _) _) _ _ _ _; refine wC 18 ?_)|(show AKW _ _ (.reg (⟨some 63,_,_⟩ :: _) _) _ _ _ _; refine wC 19 ?_)|(show Wc; first|refine T.cP [0,1,2] e83 ((joinsK 12 (by decide) ⟨#[99,112,120]⟩ 6 1 [1,2] rfl (by decide) (by unfold Adr; decide))) ?_|refine T.cP [0,1,2] e83 ((joinsK 13 (by decide) ⟨#[99,112,121]⟩ 6 2 [1,2] rfl (by decide) (by unfold Adr; decide))) ?_|refine T.cP [0,1,2] e84 ((turnsK 14 (by decide) ⟨#[105,110,99]⟩ 10 [2,4] rfl (by decide) (by unfold Adr; decide))) ?_|refine T.cP [0,1,2] e84 ((turnsK 15 (by decide) ⟨#[100,101,99]⟩ 11 [2,4] rfl (by decide) (by unfold Adr; decide))) ?_|refine T.cP [0,1,2] e84 ((turnsK 16 (by decide) ⟨#[97,115,108]⟩ 12 [0,2] rfl (by decide) (by unfold Adr; decide))) ?_|refine T.cP [0,1,2] e84 ((turnsK 17 (by decide) ⟨#[108,115,114]⟩ 13 [0,2] rfl (by decide) (by unfold Adr; decide))) ?_|refine T.cP [0,1,2] e84 ((turnsK 18 (by decide) ⟨#[114,111,108]⟩ 14 [0,2] rfl (by decide) (by unfold Adr; decide))) ?_|refine T.cP [0,1,2] e84 ((turnsK 19 (by decide) ⟨#[114,111,114]⟩ 15 [0,2] rfl (by decide) (by unfold Adr; decide))) ?_)|exact ⟨⟩|intro (K:KT) hK|intro hcd|refine go1 ?_ ?_|fail)
  exact WS.gc [0,1] 0 rfl (by show [mA 20,mB 20]=[outB _ [0,1] 0 (renB [0,1,2] (mA 20)),outB _ _ _ (renB _ (mB 20))]; rw [renB_mB,outB_mB]; rfl) .rfl
end Go.Proofs.Ytdbbnlafkndcnaa.Calc
