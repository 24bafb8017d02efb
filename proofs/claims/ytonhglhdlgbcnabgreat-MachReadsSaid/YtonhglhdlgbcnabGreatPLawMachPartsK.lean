/- Several texts in one (FnDevs, FnChipOps, FnChipEx, PureSkip), for the proof of LawMachParts. No condition beyond those in each lemma. -/
import Derived.Test.YtonhglhdlgbcnabGreatPLawMachPartsI
import Derived.Test.YtonhglhdlgbcnabGreatPLawMachPartsJ
import Derived.Test.YtonhglhdlgbcnabGreatPLawMachPartsD
namespace Go.Proofs.YtonhglhdlgbcnabGreat.Calc
open Go Code
set_option linter.unusedSimpArgs false
set_option linter.unusedVariables false
set_option maxRecDepth 20000
set_option maxHeartbeats 4000000
attribute [local irreducible] WOpsT AW AK RK AKW UK UC
theorem putv_lo (b v:Int) (hb:0 ≤ b∧b < 65536) (i n:Nat) (h:(i = 0∧n = 8)∨(i = 8∧n = 8)):0 ≤ putv b i n v∧putv b i n v < 65536:=by
 unfold putv
 rcases h with ⟨rfl,rfl⟩ | ⟨rfl,rfl⟩
 ·rw [show (2:Int) ^ 0 = 1 by decide,show (2:Int) ^ 8 = 256 by decide,show (2:Int) ^ 62 = 4611686018427387904 by decide]; omega
 ·rw [show (2:Int) ^ (8 + 8) = 65536 by decide,show (2:Int) ^ 8 = 256 by decide,show (2:Int) ^ 62 = 4611686018427387904 by decide]; omega
theorem timrd_ex (x y c f a:Int) (h:TimOk x y c f) (ha:0 ≤ a∧a < 4):∃ f' v,TimOk x y c f'∧FnE Tryz.prog 78 [dev [x,y,c,f] [],I a] [] (.tup [dev [x,y,c,f'] [],I v]) []:=by
 obtain rfl | rfl | rfl | rfl:a = 0∨a = 1∨a = 2∨a = 3 := by omega
 ·refine ⟨f,x / 2 ^ 0 % 2 ^ 8,h,?_⟩
  refine N.fnC Tryz.func78 k78 fun Q hQ hQN => ?_
  repeat' (first | (show WC _ _ _ _ _ _ _ _ _; first | refine T.callN e129 rfl (timfit _ _ _ _ _ h) (by simp) ?_ | refine T.call0 e138 rfl (get_ok x 0 8 (by decide)) ?_) | exact ⟨⟩ | intro (K:KT) hK | intro hcd | (refine go1 ?_ ?_ <;> try clear hK K) | fail)
  exact WS.devN2 (m := 1) rfl rfl
 ·refine ⟨f,x / 2 ^ 8 % 2 ^ 8,h,?_⟩
  refine N.fnC Tryz.func78 k78 fun Q hQ hQN => ?_
  repeat' (first | (show WC _ _ _ _ _ _ _ _ _; first | refine T.callN e129 rfl (timfit _ _ _ _ _ h) (by simp) ?_ | refine T.call0 e138 rfl (get_ok x 8 8 (by decide)) ?_) | exact ⟨⟩ | intro (K:KT) hK | intro hcd | (refine go1 ?_ ?_ <;> try clear hK K) | fail)
  exact WS.devN2 (m := 1) rfl rfl
 ·refine ⟨f,c,h,?_⟩
  refine N.fnC Tryz.func78 k78 fun Q hQ hQN => ?_
  repeat' (first | refine T.callN e129 rfl (timfit _ _ _ _ _ h) (by simp) ?_ | exact ⟨⟩ | intro (K:KT) hK | intro hcd | (refine go1 ?_ ?_ <;> try clear hK K) | fail)
  exact WS.devN2 (m := 1) rfl rfl
 ·exact ⟨0,f,by omega,timread_ok x y c f [] h⟩
theorem timwr_ex (x y c f a v:Int) (h:TimOk x y c f) (ha:0 ≤ a∧a < 4):∃ x' y' c',TimOk x' y' c' f∧FnE Tryz.prog 71 [dev [x,y,c,f] [],I a,I v] [] (dev [x',y',c',f] []) []:=by
 have p1 := putv_lo y v (by omega) 0 8 (by omega)
 have p2 := putv_lo y v (by omega) 8 8 (by omega)
 obtain rfl | rfl | rfl | rfl:a = 0∨a = 1∨a = 2∨a = 3 := by omega
 ·exact ⟨x,_,c,by omega,timw0_ok x y c f v [] h⟩
 ·exact ⟨x,_,c,by omega,timw1_ok x y c f v [] h⟩
 ·refine ⟨_,y,v % 2 ^ 3,?_,timw2_ok x y c f v [] h⟩
  split <;> omega
 ·refine ⟨x,y,c,h,?_⟩
  refine N.fnC Tryz.func71 k71 fun Q hQ hQN => ?_
  repeat' (first | refine T.callN e129 rfl (timfit _ _ _ _ _ h) (by simp) ?_ | exact ⟨⟩ | intro (K:KT) hK | intro hcd | (refine go1 ?_ ?_ <;> try clear hK K) | fail)
  exact WS.devN (m := 1) rfl rfl
abbrev PortOk (a b c:Int):Prop := (0 ≤ a∧a < 256)∧(0 ≤ b∧b < 256)∧(0 ≤ c∧c < 256)
theorem prtfit (a b c:Int) (m:List Int) (h:PortOk a b c):FnE Tryz.prog 131 [dev [a,b,c] m] [] (.psl 0 1 0 3) [⟨1,1,cells [a,b,c]⟩]:=by
 refine N.fnC Tryz.func131 k131 fun Q hQ hQN => ?_
 repeat' (first | (show AK _ _ (.loop _) _ _ _ _; refine N.unroll 4 ?_) | refine T.call0 e27 rfl (low_in _ 8 8 rfl (by decide) (by omega)) ?_ | exact ⟨⟩ | intro (K:KT) hK | intro hcd | (refine go1 ?_ ?_ <;> try clear hK K) | fail)
 exact WS.keep1 rfl rfl
theorem prtnew_ok:FnE Tryz.prog 51 [] [] (dev [255,0,0] []) []:=by
 refine N.fnC Tryz.func51 k51 fun Q hQ hQN => ?_
 repeat' (first | exact ⟨⟩ | intro (K:KT) hK | intro hcd | (refine go1 ?_ ?_ <;> try clear hK K) | fail)
 exact WS.devN (m := 1) rfl rfl
theorem prtin (a b c v:Int) (m:List Int) (h:PortOk a b c):FnE Tryz.prog 147 [dev [a,b,c] m,I v] [] (dev [v % 2 ^ 8,b,c] []) []:=by
 refine N.fnC Tryz.func147 k147 fun Q hQ hQN => ?_
 repeat' (first | (show WC _ _ _ _ _ _ _ _ _; first | refine T.callN e131 rfl (prtfit a b c m h) (by simp) ?_ | refine T.call0 e27 rfl (low_lit _ 8 8 rfl (by decide)) ?_) | exact ⟨⟩ | intro (K:KT) hK | intro hcd | (refine go1 ?_ ?_ <;> try clear hK K) | fail)
 exact WS.devN (m := 1) rfl rfl
theorem prtout (a b c:Int) (m:List Int) (h:PortOk a b c):FnE Tryz.prog 122 [dev [a,b,c] m] [] (I (bits .and .i64 b c)) []:=by
 refine N.fnC Tryz.func122 k122 fun Q hQ hQN => ?_
 repeat' (first | refine T.callN e131 rfl (prtfit a b c m h) (by simp) ?_ | exact ⟨⟩ | intro (K:KT) hK | intro hcd | (refine go1 ?_ ?_ <;> try clear hK K) | fail)
 exact WS.c rfl rfl
theorem prtrd_ex (a b c x:Int) (h:PortOk a b c) (hx:0 ≤ x∧x < 2):∃ v,FnE Tryz.prog 79 [dev [a,b,c] [],I x] [] (.tup [dev [a,b,c] [],I v]) []:=by
 obtain rfl | rfl:x = 0∨x = 1 := by omega
 ·refine ⟨bits .or .i64 (bits .and .i64 b c) (bits .andNot .i64 a c),?_⟩
  refine N.fnC Tryz.func79 k79 fun Q hQ hQN => ?_
  repeat' (first | refine T.callN e131 rfl (prtfit a b c [] h) (by simp) ?_ | exact ⟨⟩ | intro (K:KT) hK | intro hcd | (refine go1 ?_ ?_ <;> try clear hK K) | fail)
  exact WS.devN2 (m := 1) rfl rfl
 ·refine ⟨c,?_⟩
  refine N.fnC Tryz.func79 k79 fun Q hQ hQN => ?_
  repeat' (first | refine T.callN e131 rfl (prtfit a b c [] h) (by simp) ?_ | exact ⟨⟩ | intro (K:KT) hK | intro hcd | (refine go1 ?_ ?_ <;> try clear hK K) | fail)
  exact WS.devN2 (m := 1) rfl rfl
theorem prtwr_ex (a b c x v:Int) (h:PortOk a b c) (hx:0 ≤ x∧x < 2):∃ b' c',PortOk a b' c'∧FnE Tryz.prog 72 [dev [a,b,c] [],I x,I v] [] (dev [a,b',c'] []) []:=by
 obtain rfl | rfl:x = 0∨x = 1 := by omega
 ·refine ⟨v % 2 ^ 8,c,by omega,?_⟩
  refine N.fnC Tryz.func72 k72 fun Q hQ hQN => ?_
  repeat' (first | (show WC _ _ _ _ _ _ _ _ _; first | refine T.callN e131 rfl (prtfit a b c [] h) (by simp) ?_ | refine T.call0 e27 rfl (low_lit _ 8 8 rfl (by decide)) ?_) | exact ⟨⟩ | intro (K:KT) hK | intro hcd | (refine go1 ?_ ?_ <;> try clear hK K) | fail)
  exact WS.devN (m := 1) rfl rfl
 ·refine ⟨b,v % 2 ^ 8,by omega,?_⟩
  refine N.fnC Tryz.func72 k72 fun Q hQ hQN => ?_
  repeat' (first | (show WC _ _ _ _ _ _ _ _ _; first | refine T.callN e131 rfl (prtfit a b c [] h) (by simp) ?_ | refine T.call0 e27 rfl (low_lit _ 8 8 rfl (by decide)) ?_) | exact ⟨⟩ | intro (K:KT) hK | intro hcd | (refine go1 ?_ ?_ <;> try clear hK K) | fail)
  exact WS.devN (m := 1) rfl rfl
theorem serrd_ex (s l g f o c n z a:Int) (h:SerOk s l g f o c n z) (ha:0 ≤ a∧a < 3):∃ f' o' v,SerOk s l g f' o' c n z∧FnE Tryz.prog 80 [dev [s,l,g,f,o,c,n,z] [],I a] [] (.tup [dev [s,l,g,f',o',c,n,z] [],I v]) []:=by
 obtain rfl | rfl | rfl:a = 0∨a = 1∨a = 2 := by omega
 ·exact ⟨0,o,g,by omega,serread0_ok s l g f o c n z [] h⟩
 ·exact ⟨f,0,_,by omega,serread1_ok s l g f o c n z [] h⟩
 ·exact ⟨f,o,c,h,serread2_ok s l g f o c n z [] h⟩
theorem serwr_ex (s l g f o c n z a v:Int) (h:SerOk s l g f o c n z) (ha:0 ≤ a∧a < 3):∃ s' l' c',SerOk s' l' g f o c' n z∧FnE Tryz.prog 73 [dev [s,l,g,f,o,c,n,z] [],I a,I v] [] (dev [s',l',g,f,o,c',n,z] []) []:=by
 obtain rfl | rfl | rfl:a = 0∨a = 1∨a = 2 := by omega
 ·have := serw0_ok s l g f o c n z v [] h
  by_cases hl:l = 0
  ·rw [if_pos hl] at this
   exact ⟨_,_,_,by omega,this⟩
  ·rw [if_neg hl] at this
   exact ⟨_,_,_,h,this⟩
 ·refine ⟨s,l,c,h,?_⟩
  refine N.fnC Tryz.func73 k73 fun Q hQ hQN => ?_
  repeat' (first | refine T.callN e132 rfl (serfit _ _ _ _ _ _ _ _ _ h) (by simp) ?_ | exact ⟨⟩ | intro (K:KT) hK | intro hcd | (refine go1 ?_ ?_ <;> try clear hK K) | fail)
  all_goals first | (exfalso; omega) | exact WS.devN (m := 1) rfl rfl
 ·exact ⟨s,l,v % 2 ^ 2,by omega,serw2_ok s l g f o c n z v [] h⟩
theorem voice_g (x y:Vo) (a:Int) (ha:0 ≤ a∧a < 4):FnE Tryz.prog 135 [.psl 0 1 0 12,I a] [vo2B x y] (.psl 0 1 0 6) [vo2B x y]:=by
 refine N.fnC Tryz.func135 k135 fun Q hQ hQN => ?_
 have e:IntKind.wrap .i64 (a.tdiv 4) = 0:=by
  rw [Int.tdiv_eq_ediv_of_nonneg ha.1,show a / 4 = 0 by omega]; rfl
 repeat' (first | rw [e] | exact ⟨⟩ | intro (K:KT) hK | intro hcd | (refine go1 ?_ ?_ <;> try clear hK K) | fail)
 exact WS.gc [0] 1 rfl rfl .rfl
theorem voice_h (x y:Vo) (a:Int) (ha:4 ≤ a∧a < 8):FnE Tryz.prog 135 [.psl 0 1 0 12,I a] [vo2B x y] (.psl 0 1 6 6) [vo2B x y]:=by
 refine N.fnC Tryz.func135 k135 fun Q hQ hQN => ?_
 have e:IntKind.wrap .i64 (a.tdiv 4) = 1:=by
  rw [Int.tdiv_eq_ediv_of_nonneg (by omega),show a / 4 = 1 by omega]; rfl
 repeat' (first | rw [e] | exact ⟨⟩ | intro (K:KT) hK | intro hcd | (refine go1 ?_ ?_ <;> try clear hK K) | fail)
 exact WS.gc [0] 1 rfl rfl .rfl
theorem putv12 (b v:Int) (hb:0 ≤ b∧b < 4096):(0 ≤ putv b 0 8 v∧putv b 0 8 v < 4096)∧(0 ≤ putv b 8 4 v∧putv b 8 4 v < 4096):=by
 unfold putv
 constructor
 ·rw [show (2:Int) ^ 0 = 1 by decide,show (2:Int) ^ 8 = 256 by decide,show (2:Int) ^ 62 = 4611686018427387904 by decide]; omega
 ·rw [show (2:Int) ^ (8 + 4) = 4096 by decide,show (2:Int) ^ 8 = 256 by decide,show (2:Int) ^ 4 = 16 by decide,show (2:Int) ^ 62 = 4611686018427387904 by decide]; omega
theorem sndrd_ex (x y:Vo) (hx:x.Ok) (hy:y.Ok) (a:Int) (ha:0 ≤ a∧a < 8):∃ v,FnE Tryz.prog 82 [dev (vo2 x y) [],I a] [] (.tup [dev (vo2 x y) [],I v]) []:=by
 have hf := sndfit x y [] hx hy
 obtain rfl | rfl | rfl | rfl | rfl | rfl | rfl | rfl:a = 0∨a = 1∨a = 2∨a = 3∨a = 4∨a = 5∨a = 6∨a = 7 := by omega
 ·refine ⟨x.p / 2 ^ 0 % 2 ^ 8,?_⟩
  refine N.fnC Tryz.func82 k82 fun Q hQ hQN => ?_
  repeat' (first | rw [show Int.tmod 0 4 = 0 by decide] | (show WC _ _ _ _ _ _ _ _ _; first | refine T.callN e134 rfl (hf) (by simp) ?_ | refine T.cP [2] e135 (voice_g x y 0 (by decide)) ?_ | refine T.call0 e138 rfl (get_ok _ 0 8 (by decide)) ?_ | refine T.call0 e138 rfl (get_ok _ 8 4 (by decide)) ?_) | exact ⟨⟩ | intro (K:KT) hK | intro hcd | (refine go1 ?_ ?_ <;> try clear hK K) | fail)
  exact WS.devN2 (m := 1) rfl rfl
 ·refine ⟨x.p / 2 ^ 8 % 2 ^ 4,?_⟩
  refine N.fnC Tryz.func82 k82 fun Q hQ hQN => ?_
  repeat' (first | rw [show Int.tmod 1 4 = 1 by decide] | (show WC _ _ _ _ _ _ _ _ _; first | refine T.callN e134 rfl (hf) (by simp) ?_ | refine T.cP [2] e135 (voice_g x y 1 (by decide)) ?_ | refine T.call0 e138 rfl (get_ok _ 0 8 (by decide)) ?_ | refine T.call0 e138 rfl (get_ok _ 8 4 (by decide)) ?_) | exact ⟨⟩ | intro (K:KT) hK | intro hcd | (refine go1 ?_ ?_ <;> try clear hK K) | fail)
  exact WS.devN2 (m := 1) rfl rfl
 ·refine ⟨x.v,?_⟩
  refine N.fnC Tryz.func82 k82 fun Q hQ hQN => ?_
  repeat' (first | rw [show Int.tmod 2 4 = 2 by decide] | (show WC _ _ _ _ _ _ _ _ _; first | refine T.callN e134 rfl (hf) (by simp) ?_ | refine T.cP [2] e135 (voice_g x y 2 (by decide)) ?_ | refine T.call0 e138 rfl (get_ok _ 0 8 (by decide)) ?_ | refine T.call0 e138 rfl (get_ok _ 8 4 (by decide)) ?_) | exact ⟨⟩ | intro (K:KT) hK | intro hcd | (refine go1 ?_ ?_ <;> try clear hK K) | fail)
  exact WS.devN2 (m := 1) rfl rfl
 ·refine ⟨x.r,?_⟩
  refine N.fnC Tryz.func82 k82 fun Q hQ hQN => ?_
  repeat' (first | rw [show Int.tmod 3 4 = 3 by decide] | (show WC _ _ _ _ _ _ _ _ _; first | refine T.callN e134 rfl (hf) (by simp) ?_ | refine T.cP [2] e135 (voice_g x y 3 (by decide)) ?_ | refine T.call0 e138 rfl (get_ok _ 0 8 (by decide)) ?_ | refine T.call0 e138 rfl (get_ok _ 8 4 (by decide)) ?_) | exact ⟨⟩ | intro (K:KT) hK | intro hcd | (refine go1 ?_ ?_ <;> try clear hK K) | fail)
  exact WS.devN2 (m := 1) rfl rfl
 ·refine ⟨y.p / 2 ^ 0 % 2 ^ 8,?_⟩
  refine N.fnC Tryz.func82 k82 fun Q hQ hQN => ?_
  repeat' (first | rw [show Int.tmod 4 4 = 0 by decide] | (show WC _ _ _ _ _ _ _ _ _; first | refine T.callN e134 rfl (hf) (by simp) ?_ | refine T.cP [2] e135 (voice_h x y 4 (by decide)) ?_ | refine T.call0 e138 rfl (get_ok _ 0 8 (by decide)) ?_ | refine T.call0 e138 rfl (get_ok _ 8 4 (by decide)) ?_) | exact ⟨⟩ | intro (K:KT) hK | intro hcd | (refine go1 ?_ ?_ <;> try clear hK K) | fail)
  exact WS.devN2 (m := 1) rfl rfl
 ·refine ⟨y.p / 2 ^ 8 % 2 ^ 4,?_⟩
  refine N.fnC Tryz.func82 k82 fun Q hQ hQN => ?_
  repeat' (first | rw [show Int.tmod 5 4 = 1 by decide] | (show WC _ _ _ _ _ _ _ _ _; first | refine T.callN e134 rfl (hf) (by simp) ?_ | refine T.cP [2] e135 (voice_h x y 5 (by decide)) ?_ | refine T.call0 e138 rfl (get_ok _ 0 8 (by decide)) ?_ | refine T.call0 e138 rfl (get_ok _ 8 4 (by decide)) ?_) | exact ⟨⟩ | intro (K:KT) hK | intro hcd | (refine go1 ?_ ?_ <;> try clear hK K) | fail)
  exact WS.devN2 (m := 1) rfl rfl
 ·refine ⟨y.v,?_⟩
  refine N.fnC Tryz.func82 k82 fun Q hQ hQN => ?_
  repeat' (first | rw [show Int.tmod 6 4 = 2 by decide] | (show WC _ _ _ _ _ _ _ _ _; first | refine T.callN e134 rfl (hf) (by simp) ?_ | refine T.cP [2] e135 (voice_h x y 6 (by decide)) ?_ | refine T.call0 e138 rfl (get_ok _ 0 8 (by decide)) ?_ | refine T.call0 e138 rfl (get_ok _ 8 4 (by decide)) ?_) | exact ⟨⟩ | intro (K:KT) hK | intro hcd | (refine go1 ?_ ?_ <;> try clear hK K) | fail)
  exact WS.devN2 (m := 1) rfl rfl
 ·refine ⟨y.r,?_⟩
  refine N.fnC Tryz.func82 k82 fun Q hQ hQN => ?_
  repeat' (first | rw [show Int.tmod 7 4 = 3 by decide] | (show WC _ _ _ _ _ _ _ _ _; first | refine T.callN e134 rfl (hf) (by simp) ?_ | refine T.cP [2] e135 (voice_h x y 7 (by decide)) ?_ | refine T.call0 e138 rfl (get_ok _ 0 8 (by decide)) ?_ | refine T.call0 e138 rfl (get_ok _ 8 4 (by decide)) ?_) | exact ⟨⟩ | intro (K:KT) hK | intro hcd | (refine go1 ?_ ?_ <;> try clear hK K) | fail)
  exact WS.devN2 (m := 1) rfl rfl
theorem sndwr_ex (x y:Vo) (hx:x.Ok) (hy:y.Ok) (a v:Int) (ha:0 ≤ a∧a < 8):∃ x' y':Vo,x'.Ok∧y'.Ok∧FnE Tryz.prog 75 [dev (vo2 x y) [],I a,I v] [] (dev (vo2 x' y') []) []:=by
 have hf := sndfit x y [] hx hy
 have px := putv12 x.p v hx.1
 have py := putv12 y.p v hy.1
 obtain rfl | rfl | rfl | rfl | rfl | rfl | rfl | rfl:a = 0∨a = 1∨a = 2∨a = 3∨a = 4∨a = 5∨a = 6∨a = 7 := by omega
 ·refine ⟨{ x with p := putv x.p 0 8 v },y,(by unfold Vo.Ok at hx ⊢; dsimp only; omega),hy,?_⟩
  refine N.fnC Tryz.func75 k75 fun Q hQ hQN => ?_
  repeat' (first | rw [show Int.tmod 0 4 = 0 by decide] | (show WC _ _ _ _ _ _ _ _ _; first | refine T.callN e134 rfl (hf) (by simp) ?_ | refine T.cP [2] e135 (voice_g x y 0 (by decide)) ?_ | refine T.call0 e130 rfl (put_ok _ _ 0 8 (by decide)) ?_) | exact ⟨⟩ | intro (K:KT) hK | intro hcd | (refine go1 ?_ ?_ <;> try clear hK K) | fail)
  exact WS.devN (m := 1) rfl rfl
 ·refine ⟨{ x with p := putv x.p 8 4 v },y,(by unfold Vo.Ok at hx ⊢; dsimp only; omega),hy,?_⟩
  refine N.fnC Tryz.func75 k75 fun Q hQ hQN => ?_
  repeat' (first | rw [show Int.tmod 1 4 = 1 by decide] | (show WC _ _ _ _ _ _ _ _ _; first | refine T.callN e134 rfl (hf) (by simp) ?_ | refine T.cP [2] e135 (voice_g x y 1 (by decide)) ?_ | refine T.call0 e130 rfl (put_ok _ _ 8 4 (by decide)) ?_) | exact ⟨⟩ | intro (K:KT) hK | intro hcd | (refine go1 ?_ ?_ <;> try clear hK K) | fail)
  exact WS.devN (m := 1) rfl rfl
 ·refine ⟨{ x with v := v % 2 ^ 4,w := 0 },y,(by unfold Vo.Ok at hx ⊢; dsimp only; omega),hy,?_⟩
  refine N.fnC Tryz.func75 k75 fun Q hQ hQN => ?_
  repeat' (first | rw [show Int.tmod 2 4 = 2 by decide] | (show WC _ _ _ _ _ _ _ _ _; first | refine T.callN e134 rfl (hf) (by simp) ?_ | refine T.cP [2] e135 (voice_g x y 2 (by decide)) ?_ | refine T.call0 e27 rfl (low_lit _ 4 4 rfl (by decide)) ?_) | exact ⟨⟩ | intro (K:KT) hK | intro hcd | (refine go1 ?_ ?_ <;> try clear hK K) | fail)
  exact WS.devN (m := 1) rfl rfl
 ·refine ⟨{ x with r := v % 2 ^ 8 },y,(by unfold Vo.Ok at hx ⊢; dsimp only; omega),hy,?_⟩
  refine N.fnC Tryz.func75 k75 fun Q hQ hQN => ?_
  repeat' (first | rw [show Int.tmod 3 4 = 3 by decide] | (show WC _ _ _ _ _ _ _ _ _; first | refine T.callN e134 rfl (hf) (by simp) ?_ | refine T.cP [2] e135 (voice_g x y 3 (by decide)) ?_ | refine T.call0 e27 rfl (low_lit _ 8 8 rfl (by decide)) ?_) | exact ⟨⟩ | intro (K:KT) hK | intro hcd | (refine go1 ?_ ?_ <;> try clear hK K) | fail)
  exact WS.devN (m := 1) rfl rfl
 ·refine ⟨x,{ y with p := putv y.p 0 8 v },hx,(by unfold Vo.Ok at hy ⊢; dsimp only; omega),?_⟩
  refine N.fnC Tryz.func75 k75 fun Q hQ hQN => ?_
  repeat' (first | rw [show Int.tmod 4 4 = 0 by decide] | (show WC _ _ _ _ _ _ _ _ _; first | refine T.callN e134 rfl (hf) (by simp) ?_ | refine T.cP [2] e135 (voice_h x y 4 (by decide)) ?_ | refine T.call0 e130 rfl (put_ok _ _ 0 8 (by decide)) ?_) | exact ⟨⟩ | intro (K:KT) hK | intro hcd | (refine go1 ?_ ?_ <;> try clear hK K) | fail)
  exact WS.devN (m := 1) rfl rfl
 ·refine ⟨x,{ y with p := putv y.p 8 4 v },hx,(by unfold Vo.Ok at hy ⊢; dsimp only; omega),?_⟩
  refine N.fnC Tryz.func75 k75 fun Q hQ hQN => ?_
  repeat' (first | rw [show Int.tmod 5 4 = 1 by decide] | (show WC _ _ _ _ _ _ _ _ _; first | refine T.callN e134 rfl (hf) (by simp) ?_ | refine T.cP [2] e135 (voice_h x y 5 (by decide)) ?_ | refine T.call0 e130 rfl (put_ok _ _ 8 4 (by decide)) ?_) | exact ⟨⟩ | intro (K:KT) hK | intro hcd | (refine go1 ?_ ?_ <;> try clear hK K) | fail)
  exact WS.devN (m := 1) rfl rfl
 ·refine ⟨x,{ y with v := v % 2 ^ 4,w := 0 },hx,(by unfold Vo.Ok at hy ⊢; dsimp only; omega),?_⟩
  refine N.fnC Tryz.func75 k75 fun Q hQ hQN => ?_
  repeat' (first | rw [show Int.tmod 6 4 = 2 by decide] | (show WC _ _ _ _ _ _ _ _ _; first | refine T.callN e134 rfl (hf) (by simp) ?_ | refine T.cP [2] e135 (voice_h x y 6 (by decide)) ?_ | refine T.call0 e27 rfl (low_lit _ 4 4 rfl (by decide)) ?_) | exact ⟨⟩ | intro (K:KT) hK | intro hcd | (refine go1 ?_ ?_ <;> try clear hK K) | fail)
  exact WS.devN (m := 1) rfl rfl
 ·refine ⟨x,{ y with r := v % 2 ^ 8 },hx,(by unfold Vo.Ok at hy ⊢; dsimp only; omega),?_⟩
  refine N.fnC Tryz.func75 k75 fun Q hQ hQN => ?_
  repeat' (first | rw [show Int.tmod 7 4 = 3 by decide] | (show WC _ _ _ _ _ _ _ _ _; first | refine T.callN e134 rfl (hf) (by simp) ?_ | refine T.cP [2] e135 (voice_h x y 7 (by decide)) ?_ | refine T.call0 e27 rfl (low_lit _ 8 8 rfl (by decide)) ?_) | exact ⟨⟩ | intro (K:KT) hK | intro hcd | (refine go1 ?_ ?_ <;> try clear hK K) | fail)
  exact WS.devN (m := 1) rfl rfl
theorem drvr3 (a:Dr) (m:List Int) (nd:Nat) (H:a.Ok m nd):FnE Tryz.prog 83 [dev (dr10 a) m,I 3] [] (.tup [dev (dr10 a) m,I a.x]) []:=by
 refine N.fnC Tryz.func83 k83 fun Q hQ hQN => ?_
 repeat' (first | refine T.callN e136 rfl (drvfit a m nd H) (by simp) ?_ | exact ⟨⟩ | intro (K:KT) hK | intro hcd | (refine go1 ?_ ?_ <;> try clear hK K) | fail)
 exact WS.dev2t rfl rfl (Nat.le_refl _) rfl (Nat.le_refl _)
theorem drvw2 (a:Dr) (m:List Int) (nd:Nat) (k:Int) (H:a.Ok m nd):FnE Tryz.prog 76 [dev (dr10 a) m,I 2,I k] [] (dev (dr10 a) m) []:=by
 refine N.fnC Tryz.func76 k76 fun Q hQ hQN => ?_
 repeat' (first | refine T.callN e136 rfl (drvfit a m nd H) (by simp) ?_ | exact ⟨⟩ | intro (K:KT) hK | intro hcd | (refine go1 ?_ ?_ <;> try clear hK K) | fail)
 exact WS.dev2 rfl rfl (Nat.le_refl _) rfl (Nat.le_refl _)
theorem drvw3 (a:Dr) (m:List Int) (nd:Nat) (k:Int) (H:a.Ok m nd):FnE Tryz.prog 76 [dev (dr10 a) m,I 3,I k] [] (dev (dr10 { a with x := k % 2 ^ 1 }) m) []:=by
 refine N.fnC Tryz.func76 k76 fun Q hQ hQN => ?_
 repeat' (first | (show WC _ _ _ _ _ _ _ _ _; first | refine T.callN e136 rfl (drvfit a m nd H) (by simp) ?_ | refine T.call0 e27 rfl (low_lit _ 1 1 rfl (by decide)) ?_) | exact ⟨⟩ | intro (K:KT) hK | intro hcd | (refine go1 ?_ ?_ <;> try clear hK K) | fail)
 exact WS.dev2 rfl rfl (Nat.le_refl _) rfl (Nat.le_refl _)
theorem drvrd_ex (a:Dr) (m:List Int) (nd:Nat) (H:a.Ok m nd) (x:Int) (hx:0 ≤ x∧x < 4):∃ (a':Dr) (v:Int),a'.Ok m nd∧FnE Tryz.prog 83 [dev (dr10 a) m,I x] [] (.tup [dev (dr10 a') m,I v]) []:=by
 obtain rfl | rfl | rfl | rfl:x = 0∨x = 1∨x = 2∨x = 3 := by omega
 ·exact ⟨{ a with o := 0 },_,{ H with o := ⟨Int.le_refl 0,by show (0:Int) < 2; decide⟩ },drvr0 a m nd H⟩
 ·refine ⟨{ a with r := if a.c = 4 then a.r else 0 },_,{ H with r := ?_ },drvr1 a m nd H⟩
  have := H.r
  dsimp only; split <;> omega
 ·exact ⟨_,_,H,drvr2 a m nd H⟩
 ·exact ⟨_,_,H,drvr3 a m nd H⟩
theorem Dr.begin_ok (a:Dr) (m:List Int) (nd:Nat) (H:a.Ok m nd) (k:Int):(a.begin k).Ok m nd:=by
 unfold Dr.begin
 split
 ·exact H
 ·obtain ⟨hk,ht,hc,hs,hi,hl,hd,hr,ho,hx,hm,hnd,hB⟩ := H
  constructor <;> (try dsimp only) <;> (try split) <;> first | omega | exact hB
theorem drvwr_ex (a:Dr) (m:List Int) (nd:Nat) (H:a.Ok m nd) (x v:Int) (hx:0 ≤ x∧x < 4):∃ a':Dr,a'.Ok m nd∧FnE Tryz.prog 76 [dev (dr10 a) m,I x,I v] [] (dev (dr10 a') m) []:=by
 obtain rfl | rfl | rfl | rfl:x = 0∨x = 1∨x = 2∨x = 3 := by omega
 ·exact ⟨_,Dr.begin_ok a m nd H _,drvw0 a m nd v H⟩
 ·refine ⟨{ a with d := v % 2 ^ 8,r := if a.c = 4 then 0 else a.r },{ H with d := by dsimp only; omega,r := ?_ },drvw1 a m nd v H⟩
  have := H.r
  dsimp only; split <;> omega
 ·exact ⟨_,H,drvw2 a m nd v H⟩
 ·exact ⟨{ a with x := v % 2 ^ 1 },{ H with x := by dsimp only; omega },drvw3 a m nd v H⟩
theorem Dr.skip_ok:∀ (f:Nat) (k:Int) (a:Dr) (m:List Int) (nd:Nat),a.Ok m nd→(Dr.skip f k a m).1.Ok (Dr.skip f k a m).2 nd:=by
 intro f
 induction f with
 | zero => intro k a m nd H; exact H
 | succ f ih =>
  intro k a m nd H
  simp only [Dr.skip]
  split
  ·exact H
  ·split
   ·exact { H with c := by dsimp only; omega }
   ·have hl := H.l
    have hc := H.c
    have hk := H.k
    split
    ·exact { H with l := by dsimp only; omega }
    ·have H0:({ a with l := 0 }:Dr).Ok m nd := { H with l := by dsimp only; omega }
     exact ih _ _ _ nd (Dr.done_ok _ m nd H0 (by dsimp only; omega) (by dsimp only; omega))
section
variable (nm:ByteArray) (b s:Int) (dat:List Int)
theorem chRd3 {n m n' m':List Int} {a v:Int} (h:FnE Tryz.prog 78 [dev n m,I a] [] (.tup [dev n' m',I v]) []):FnE Tryz.prog 29 [.agg (cR nm 3 b s dat),dev n m,I a] [] (.tup [dev n' m',I v]) []:=by
 refine N.fnC Tryz.func29 k29 fun Q hQ hQN => ?_
 repeat' (first | refine T.call0 e78 rfl h ?_ | exact ⟨⟩ | intro (K:KT) hK | intro hcd | (refine go1 ?_ ?_ <;> try clear hK K) | fail)
 exact WS.drop (n := 0) rfl rfl
theorem chWr3 {n m n' m':List Int} {a v:Int} (h:FnE Tryz.prog 71 [dev n m,I a,I v] [] (dev n' m') []):FnE Tryz.prog 28 [.agg (cR nm 3 b s dat),dev n m,I a,I v] [] (dev n' m') []:=by
 refine N.fnC Tryz.func28 k28 fun Q hQ hQN => ?_
 repeat' (first | refine T.call0 e71 rfl h ?_ | exact ⟨⟩ | intro (K:KT) hK | intro hcd | (refine go1 ?_ ?_ <;> try clear hK K) | fail)
 exact WS.drop (n := 0) rfl rfl
theorem chSk3 {n m n' m':List Int} {t:Int} (h:FnE Tryz.prog 166 [dev n m,I t] [] (dev n' m') []):FnE Tryz.prog 121 [.agg (cR nm 3 b s dat),dev n m,I t] [] (dev n' m') []:=by
 refine N.fnC Tryz.func121 k121 fun Q hQ hQN => ?_
 repeat' (first | refine T.call0 e166 rfl h ?_ | exact ⟨⟩ | intro (K:KT) hK | intro hcd | (refine go1 ?_ ?_ <;> try clear hK K) | fail)
 exact WS.drop (n := 0) rfl rfl
theorem chNw3 {n m:List Int} (h:FnE Tryz.prog 50 [] [] (dev n m) []):FnE Tryz.prog 22 [.agg (cR nm 3 b s dat)] [] (dev n m) []:=by
 refine N.fnC Tryz.func22 k22 fun Q hQ hQN => ?_
 repeat' (first | refine T.call0 e50 rfl h ?_ | exact ⟨⟩ | intro (K:KT) hK | intro hcd | (refine go1 ?_ ?_ <;> try clear hK K) | fail)
 exact WS.drop (n := 0) rfl rfl
theorem chIq3 {n m:List Int} {v:Bool} (h:FnE Tryz.prog 154 [dev n m] [] (.c (.bool v)) []):FnE Tryz.prog 116 [.agg (cR nm 3 b s dat),dev n m] [] (.c (.bool v)) []:=by
 refine N.fnC Tryz.func116 k116 fun Q hQ hQN => ?_
 repeat' (first | refine T.call0 e154 rfl h ?_ | exact ⟨⟩ | intro (K:KT) hK | intro hcd | (refine go1 ?_ ?_ <;> try clear hK K) | fail)
 exact WS.c rfl rfl
theorem chIn3 {n m n' m':List Int} {v:Int} (h:FnE Tryz.prog 121 [.agg (cR nm 3 b s dat),dev n m,I 0] [] (dev n' m') []):FnE Tryz.prog 110 [.agg (cR nm 3 b s dat),dev n m,I v] [] (dev n' m') []:=by
 refine N.fnC Tryz.func110 k110 fun Q hQ hQN => ?_
 repeat' (first | refine T.call0 e121 rfl h ?_ | exact ⟨⟩ | intro (K:KT) hK | intro hcd | (refine go1 ?_ ?_ <;> try clear hK K) | fail)
 exact WS.drop (n := 0) rfl rfl
theorem chRd4 {n m n' m':List Int} {a v:Int} (h:FnE Tryz.prog 79 [dev n m,I a] [] (.tup [dev n' m',I v]) []):FnE Tryz.prog 29 [.agg (cR nm 4 b s dat),dev n m,I a] [] (.tup [dev n' m',I v]) []:=by
 refine N.fnC Tryz.func29 k29 fun Q hQ hQN => ?_
 repeat' (first | refine T.call0 e79 rfl h ?_ | exact ⟨⟩ | intro (K:KT) hK | intro hcd | (refine go1 ?_ ?_ <;> try clear hK K) | fail)
 exact WS.drop (n := 0) rfl rfl
theorem chWr4 {n m n' m':List Int} {a v:Int} (h:FnE Tryz.prog 72 [dev n m,I a,I v] [] (dev n' m') []):FnE Tryz.prog 28 [.agg (cR nm 4 b s dat),dev n m,I a,I v] [] (dev n' m') []:=by
 refine N.fnC Tryz.func28 k28 fun Q hQ hQN => ?_
 repeat' (first | refine T.call0 e72 rfl h ?_ | exact ⟨⟩ | intro (K:KT) hK | intro hcd | (refine go1 ?_ ?_ <;> try clear hK K) | fail)
 exact WS.drop (n := 0) rfl rfl
theorem chNw4 {n m:List Int} (h:FnE Tryz.prog 51 [] [] (dev n m) []):FnE Tryz.prog 22 [.agg (cR nm 4 b s dat)] [] (dev n m) []:=by
 refine N.fnC Tryz.func22 k22 fun Q hQ hQN => ?_
 repeat' (first | refine T.call0 e51 rfl h ?_ | exact ⟨⟩ | intro (K:KT) hK | intro hcd | (refine go1 ?_ ?_ <;> try clear hK K) | fail)
 exact WS.drop (n := 0) rfl rfl
theorem chOt4 {n m:List Int} {v:Int} (h:FnE Tryz.prog 122 [dev n m] [] (I v) []):FnE Tryz.prog 68 [.agg (cR nm 4 b s dat),dev n m] [] (I v) []:=by
 refine N.fnC Tryz.func68 k68 fun Q hQ hQN => ?_
 repeat' (first | refine T.call0 e122 rfl h ?_ | exact ⟨⟩ | intro (K:KT) hK | intro hcd | (refine go1 ?_ ?_ <;> try clear hK K) | fail)
 exact WS.c rfl rfl
theorem chIn4 {n m n' m':List Int} {v:Int} (h:FnE Tryz.prog 147 [dev n m,I v] [] (dev n' m') []):FnE Tryz.prog 110 [.agg (cR nm 4 b s dat),dev n m,I v] [] (dev n' m') []:=by
 refine N.fnC Tryz.func110 k110 fun Q hQ hQN => ?_
 repeat' (first | refine T.call0 e147 rfl h ?_ | exact ⟨⟩ | intro (K:KT) hK | intro hcd | (refine go1 ?_ ?_ <;> try clear hK K) | fail)
 exact WS.drop (n := 0) rfl rfl
theorem chRd5 {n m n' m':List Int} {a v:Int} (h:FnE Tryz.prog 80 [dev n m,I a] [] (.tup [dev n' m',I v]) []):FnE Tryz.prog 29 [.agg (cR nm 5 b s dat),dev n m,I a] [] (.tup [dev n' m',I v]) []:=by
 refine N.fnC Tryz.func29 k29 fun Q hQ hQN => ?_
 repeat' (first | refine T.call0 e80 rfl h ?_ | exact ⟨⟩ | intro (K:KT) hK | intro hcd | (refine go1 ?_ ?_ <;> try clear hK K) | fail)
 exact WS.drop (n := 0) rfl rfl
theorem chWr5 {n m n' m':List Int} {a v:Int} (h:FnE Tryz.prog 73 [dev n m,I a,I v] [] (dev n' m') []):FnE Tryz.prog 28 [.agg (cR nm 5 b s dat),dev n m,I a,I v] [] (dev n' m') []:=by
 refine N.fnC Tryz.func28 k28 fun Q hQ hQN => ?_
 repeat' (first | refine T.call0 e73 rfl h ?_ | exact ⟨⟩ | intro (K:KT) hK | intro hcd | (refine go1 ?_ ?_ <;> try clear hK K) | fail)
 exact WS.drop (n := 0) rfl rfl
theorem chSk5 {n m n' m':List Int} {t:Int} (h:FnE Tryz.prog 168 [dev n m,I t] [] (dev n' m') []):FnE Tryz.prog 121 [.agg (cR nm 5 b s dat),dev n m,I t] [] (dev n' m') []:=by
 refine N.fnC Tryz.func121 k121 fun Q hQ hQN => ?_
 repeat' (first | refine T.call0 e168 rfl h ?_ | exact ⟨⟩ | intro (K:KT) hK | intro hcd | (refine go1 ?_ ?_ <;> try clear hK K) | fail)
 exact WS.drop (n := 0) rfl rfl
theorem chNw5 {n m:List Int} (h:FnE Tryz.prog 52 [] [] (dev n m) []):FnE Tryz.prog 22 [.agg (cR nm 5 b s dat)] [] (dev n m) []:=by
 refine N.fnC Tryz.func22 k22 fun Q hQ hQN => ?_
 repeat' (first | refine T.call0 e52 rfl h ?_ | exact ⟨⟩ | intro (K:KT) hK | intro hcd | (refine go1 ?_ ?_ <;> try clear hK K) | fail)
 exact WS.drop (n := 0) rfl rfl
theorem chIq5 {n m:List Int} {v:Bool} (h:FnE Tryz.prog 155 [dev n m] [] (.c (.bool v)) []):FnE Tryz.prog 116 [.agg (cR nm 5 b s dat),dev n m] [] (.c (.bool v)) []:=by
 refine N.fnC Tryz.func116 k116 fun Q hQ hQN => ?_
 repeat' (first | refine T.call0 e155 rfl h ?_ | exact ⟨⟩ | intro (K:KT) hK | intro hcd | (refine go1 ?_ ?_ <;> try clear hK K) | fail)
 exact WS.c rfl rfl
theorem chOt5 {n m:List Int} {v:Int} (h:FnE Tryz.prog 123 [dev n m] [] (I v) []):FnE Tryz.prog 68 [.agg (cR nm 5 b s dat),dev n m] [] (I v) []:=by
 refine N.fnC Tryz.func68 k68 fun Q hQ hQN => ?_
 repeat' (first | refine T.call0 e123 rfl h ?_ | exact ⟨⟩ | intro (K:KT) hK | intro hcd | (refine go1 ?_ ?_ <;> try clear hK K) | fail)
 exact WS.c rfl rfl
theorem chIn5 {n m n' m':List Int} {v:Int} (h:FnE Tryz.prog 148 [dev n m,I v] [] (dev n' m') []):FnE Tryz.prog 110 [.agg (cR nm 5 b s dat),dev n m,I v] [] (dev n' m') []:=by
 refine N.fnC Tryz.func110 k110 fun Q hQ hQN => ?_
 repeat' (first | refine T.call0 e148 rfl h ?_ | exact ⟨⟩ | intro (K:KT) hK | intro hcd | (refine go1 ?_ ?_ <;> try clear hK K) | fail)
 exact WS.drop (n := 0) rfl rfl
theorem chRd6 {n m n' m':List Int} {a v:Int} (h:FnE Tryz.prog 81 [dev n m,I a] [] (.tup [dev n' m',I v]) []):FnE Tryz.prog 29 [.agg (cR nm 6 b s dat),dev n m,I a] [] (.tup [dev n' m',I v]) []:=by
 refine N.fnC Tryz.func29 k29 fun Q hQ hQN => ?_
 repeat' (first | refine T.call0 e81 rfl h ?_ | exact ⟨⟩ | intro (K:KT) hK | intro hcd | (refine go1 ?_ ?_ <;> try clear hK K) | fail)
 exact WS.drop (n := 0) rfl rfl
theorem chWr6 {n m n' m':List Int} {a v:Int} (h:FnE Tryz.prog 74 [dev n m,I a,I v] [] (dev n' m') []):FnE Tryz.prog 28 [.agg (cR nm 6 b s dat),dev n m,I a,I v] [] (dev n' m') []:=by
 refine N.fnC Tryz.func28 k28 fun Q hQ hQN => ?_
 repeat' (first | refine T.call0 e74 rfl h ?_ | exact ⟨⟩ | intro (K:KT) hK | intro hcd | (refine go1 ?_ ?_ <;> try clear hK K) | fail)
 exact WS.drop (n := 0) rfl rfl
theorem chSk6 {n m n' m':List Int} {t:Int} (h:FnE Tryz.prog 169 [dev n m,I t] [] (dev n' m') []):FnE Tryz.prog 121 [.agg (cR nm 6 b s dat),dev n m,I t] [] (dev n' m') []:=by
 refine N.fnC Tryz.func121 k121 fun Q hQ hQN => ?_
 repeat' (first | refine T.call0 e169 rfl h ?_ | exact ⟨⟩ | intro (K:KT) hK | intro hcd | (refine go1 ?_ ?_ <;> try clear hK K) | fail)
 exact WS.drop (n := 0) rfl rfl
theorem chNw6 {n m:List Int} (h:FnE Tryz.prog 53 [] [] (dev n m) []):FnE Tryz.prog 22 [.agg (cR nm 6 b s dat)] [] (dev n m) []:=by
 refine N.fnC Tryz.func22 k22 fun Q hQ hQN => ?_
 repeat' (first | refine T.call0 e53 rfl h ?_ | exact ⟨⟩ | intro (K:KT) hK | intro hcd | (refine go1 ?_ ?_ <;> try clear hK K) | fail)
 exact WS.drop (n := 0) rfl rfl
theorem chOt6 {n m:List Int} {v:Int} (h:FnE Tryz.prog 124 [dev n m] [] (I v) []):FnE Tryz.prog 68 [.agg (cR nm 6 b s dat),dev n m] [] (I v) []:=by
 refine N.fnC Tryz.func68 k68 fun Q hQ hQN => ?_
 repeat' (first | refine T.call0 e124 rfl h ?_ | exact ⟨⟩ | intro (K:KT) hK | intro hcd | (refine go1 ?_ ?_ <;> try clear hK K) | fail)
 exact WS.c rfl rfl
theorem chIn6 {n m n' m':List Int} {v:Int} (h:FnE Tryz.prog 121 [.agg (cR nm 6 b s dat),dev n m,I 0] [] (dev n' m') []):FnE Tryz.prog 110 [.agg (cR nm 6 b s dat),dev n m,I v] [] (dev n' m') []:=by
 refine N.fnC Tryz.func110 k110 fun Q hQ hQN => ?_
 repeat' (first | refine T.call0 e121 rfl h ?_ | exact ⟨⟩ | intro (K:KT) hK | intro hcd | (refine go1 ?_ ?_ <;> try clear hK K) | fail)
 exact WS.drop (n := 0) rfl rfl
theorem chRd7 {n m n' m':List Int} {a v:Int} (h:FnE Tryz.prog 82 [dev n m,I a] [] (.tup [dev n' m',I v]) []):FnE Tryz.prog 29 [.agg (cR nm 7 b s dat),dev n m,I a] [] (.tup [dev n' m',I v]) []:=by
 refine N.fnC Tryz.func29 k29 fun Q hQ hQN => ?_
 repeat' (first | refine T.call0 e82 rfl h ?_ | exact ⟨⟩ | intro (K:KT) hK | intro hcd | (refine go1 ?_ ?_ <;> try clear hK K) | fail)
 exact WS.drop (n := 0) rfl rfl
theorem chWr7 {n m n' m':List Int} {a v:Int} (h:FnE Tryz.prog 75 [dev n m,I a,I v] [] (dev n' m') []):FnE Tryz.prog 28 [.agg (cR nm 7 b s dat),dev n m,I a,I v] [] (dev n' m') []:=by
 refine N.fnC Tryz.func28 k28 fun Q hQ hQN => ?_
 repeat' (first | refine T.call0 e75 rfl h ?_ | exact ⟨⟩ | intro (K:KT) hK | intro hcd | (refine go1 ?_ ?_ <;> try clear hK K) | fail)
 exact WS.drop (n := 0) rfl rfl
theorem chSk7 {n m n' m':List Int} {t:Int} (h:FnE Tryz.prog 170 [dev n m,I t] [] (dev n' m') []):FnE Tryz.prog 121 [.agg (cR nm 7 b s dat),dev n m,I t] [] (dev n' m') []:=by
 refine N.fnC Tryz.func121 k121 fun Q hQ hQN => ?_
 repeat' (first | refine T.call0 e170 rfl h ?_ | exact ⟨⟩ | intro (K:KT) hK | intro hcd | (refine go1 ?_ ?_ <;> try clear hK K) | fail)
 exact WS.drop (n := 0) rfl rfl
theorem chNw7 {n m:List Int} (h:FnE Tryz.prog 54 [] [] (dev n m) []):FnE Tryz.prog 22 [.agg (cR nm 7 b s dat)] [] (dev n m) []:=by
 refine N.fnC Tryz.func22 k22 fun Q hQ hQN => ?_
 repeat' (first | refine T.call0 e54 rfl h ?_ | exact ⟨⟩ | intro (K:KT) hK | intro hcd | (refine go1 ?_ ?_ <;> try clear hK K) | fail)
 exact WS.drop (n := 0) rfl rfl
theorem chOt7 {n m:List Int} {v:Int} (h:FnE Tryz.prog 125 [dev n m] [] (I v) []):FnE Tryz.prog 68 [.agg (cR nm 7 b s dat),dev n m] [] (I v) []:=by
 refine N.fnC Tryz.func68 k68 fun Q hQ hQN => ?_
 repeat' (first | refine T.call0 e125 rfl h ?_ | exact ⟨⟩ | intro (K:KT) hK | intro hcd | (refine go1 ?_ ?_ <;> try clear hK K) | fail)
 exact WS.c rfl rfl
theorem chIn7 {n m n' m':List Int} {v:Int} (h:FnE Tryz.prog 121 [.agg (cR nm 7 b s dat),dev n m,I 0] [] (dev n' m') []):FnE Tryz.prog 110 [.agg (cR nm 7 b s dat),dev n m,I v] [] (dev n' m') []:=by
 refine N.fnC Tryz.func110 k110 fun Q hQ hQN => ?_
 repeat' (first | refine T.call0 e121 rfl h ?_ | exact ⟨⟩ | intro (K:KT) hK | intro hcd | (refine go1 ?_ ?_ <;> try clear hK K) | fail)
 exact WS.drop (n := 0) rfl rfl
theorem chRd8 {n m n' m':List Int} {a v:Int} (h:FnE Tryz.prog 83 [dev n m,I a] [] (.tup [dev n' m',I v]) []):FnE Tryz.prog 29 [.agg (cR nm 8 b s dat),dev n m,I a] [] (.tup [dev n' m',I v]) []:=by
 refine N.fnC Tryz.func29 k29 fun Q hQ hQN => ?_
 repeat' (first | refine T.call0 e83 rfl h ?_ | exact ⟨⟩ | intro (K:KT) hK | intro hcd | (refine go1 ?_ ?_ <;> try clear hK K) | fail)
 exact WS.drop (n := 0) rfl rfl
theorem chWr8 {n m n' m':List Int} {a v:Int} (h:FnE Tryz.prog 76 [dev n m,I a,I v] [] (dev n' m') []):FnE Tryz.prog 28 [.agg (cR nm 8 b s dat),dev n m,I a,I v] [] (dev n' m') []:=by
 refine N.fnC Tryz.func28 k28 fun Q hQ hQN => ?_
 repeat' (first | refine T.call0 e76 rfl h ?_ | exact ⟨⟩ | intro (K:KT) hK | intro hcd | (refine go1 ?_ ?_ <;> try clear hK K) | fail)
 exact WS.drop (n := 0) rfl rfl
theorem chSk8 {n m n' m':List Int} {t:Int} (h:FnE Tryz.prog 171 [dev n m,I t] [] (dev n' m') []):FnE Tryz.prog 121 [.agg (cR nm 8 b s dat),dev n m,I t] [] (dev n' m') []:=by
 refine N.fnC Tryz.func121 k121 fun Q hQ hQN => ?_
 repeat' (first | refine T.call0 e171 rfl h ?_ | exact ⟨⟩ | intro (K:KT) hK | intro hcd | (refine go1 ?_ ?_ <;> try clear hK K) | fail)
 exact WS.drop (n := 0) rfl rfl
theorem chNw8 {n m:List Int} (h:FnE Tryz.prog 55 [.sl 1 (bcells dat)] [] (dev n m) []):FnE Tryz.prog 22 [.agg (cR nm 8 b s dat)] [] (dev n m) []:=by
 refine N.fnC Tryz.func22 k22 fun Q hQ hQN => ?_
 repeat' (first | refine T.call0 e55 rfl h ?_ | exact ⟨⟩ | intro (K:KT) hK | intro hcd | (refine go1 ?_ ?_ <;> try clear hK K) | fail)
 exact WS.drop (n := 0) rfl rfl
theorem chIq8 {n m:List Int} {v:Bool} (h:FnE Tryz.prog 156 [dev n m] [] (.c (.bool v)) []):FnE Tryz.prog 116 [.agg (cR nm 8 b s dat),dev n m] [] (.c (.bool v)) []:=by
 refine N.fnC Tryz.func116 k116 fun Q hQ hQN => ?_
 repeat' (first | refine T.call0 e156 rfl h ?_ | exact ⟨⟩ | intro (K:KT) hK | intro hcd | (refine go1 ?_ ?_ <;> try clear hK K) | fail)
 exact WS.c rfl rfl
theorem chOt8 {n m:List Int} {v:Int} (h:FnE Tryz.prog 126 [dev n m] [] (I v) []):FnE Tryz.prog 68 [.agg (cR nm 8 b s dat),dev n m] [] (I v) []:=by
 refine N.fnC Tryz.func68 k68 fun Q hQ hQN => ?_
 repeat' (first | refine T.call0 e126 rfl h ?_ | exact ⟨⟩ | intro (K:KT) hK | intro hcd | (refine go1 ?_ ?_ <;> try clear hK K) | fail)
 exact WS.c rfl rfl
theorem chIn8 {n m n' m':List Int} {v:Int} (h:FnE Tryz.prog 149 [dev n m,I v] [] (dev n' m') []):FnE Tryz.prog 110 [.agg (cR nm 8 b s dat),dev n m,I v] [] (dev n' m') []:=by
 refine N.fnC Tryz.func110 k110 fun Q hQ hQN => ?_
 repeat' (first | refine T.call0 e149 rfl h ?_ | exact ⟨⟩ | intro (K:KT) hK | intro hcd | (refine go1 ?_ ?_ <;> try clear hK K) | fail)
 exact WS.drop (n := 0) rfl rfl
theorem chSk4 {x:Int} {n m n' m':List Int} {t:Int} (h:FnE Tryz.prog 147 [dev (x :: n) m,I x] [] (dev n' m') []):FnE Tryz.prog 121 [.agg (cR nm 4 b s dat),dev (x :: n) m,I t] [] (dev n' m') []:=by
 have e:FnE Tryz.prog 167 [dev (x :: n) m] [] (I x) []:=by
  have hl:¬ ((cells (x :: n)).length:Int) = 0 := by rw [cells_len,List.length_cons]; omega
  refine N.fnC Tryz.func167 k167 fun Q hQ hQN => ?_
  repeat' (first | exact ⟨⟩ | intro (K:KT) hK | intro hcd | (refine go1 ?_ ?_ <;> try clear hK K) | fail)
  exact WS.c rfl rfl
 refine N.fnC Tryz.func121 k121 fun Q hQ hQN => ?_
 repeat' (first | (show WC _ _ _ _ _ _ _ _ _; first | refine T.call0 e167 rfl e ?_ | refine T.call0 e147 rfl h ?_) | exact ⟨⟩ | intro (K:KT) hK | intro hcd | (refine go1 ?_ ?_ <;> try clear hK K) | fail)
 exact WS.drop (n := 0) rfl rfl
theorem chIq0 {n m:List Int} (k:Int) (hk:k = 0∨k = 1∨k = 2∨k = 4∨k = 6∨k = 7):FnE Tryz.prog 116 [.agg (cR nm k b s dat),dev n m] [] (.c (.bool false)) []:=by
 refine N.fnC Tryz.func116 k116 fun Q hQ hQN => ?_
 repeat' (first | exact ⟨⟩ | intro (K:KT) hK | intro hcd | (refine go1 ?_ ?_ <;> try clear hK K) | fail)
 all_goals first | (exfalso; omega) | exact WS.c rfl rfl
theorem chOt0 {n m:List Int} (k:Int) (hk:k = 0∨k = 1∨k = 2∨k = 3):FnE Tryz.prog 68 [.agg (cR nm k b s dat),dev n m] [] (I 0) []:=by
 refine N.fnC Tryz.func68 k68 fun Q hQ hQN => ?_
 repeat' (first | exact ⟨⟩ | intro (K:KT) hK | intro hcd | (refine go1 ?_ ?_ <;> try clear hK K) | fail)
 all_goals first | (exfalso; omega) | exact WS.c rfl rfl
theorem chIn0 {n m n' m':List Int} {v:Int} (k:Int) (hk:k = 0∨k = 1∨k = 2) (h:FnE Tryz.prog 121 [.agg (cR nm k b s dat),dev n m,I 0] [] (dev n' m') []):FnE Tryz.prog 110 [.agg (cR nm k b s dat),dev n m,I v] [] (dev n' m') []:=by
 refine N.fnC Tryz.func110 k110 fun Q hQ hQN => ?_
 repeat' (first | refine T.call0 e121 rfl h ?_ | exact ⟨⟩ | intro (K:KT) hK | intro hcd | (refine go1 ?_ ?_ <;> try clear hK K) | fail)
 all_goals first | (exfalso; omega) | exact WS.drop (n := 0) rfl rfl
theorem chSk0 (k:Int) (z:Nat) (hk:k = 0∨k = 1) (hz:z ≤ 4096) (m:List Int) (hm:m.length = z) (t:Int):FnE Tryz.prog 121 [.agg (cR nm k b z dat),dev [] m,I t] [] (dev [] m) []:=by
 have hf := fit_m nm b dat k z hk hz m hm
 refine N.fnC Tryz.func121 k121 fun Q hQ hQN => ?_
 repeat' (first | refine T.callN e127 rfl (hf) (by simp) ?_ | exact ⟨⟩ | intro (K:KT) hK | intro hcd | (refine go1 ?_ ?_ <;> try clear hK K) | fail)
 all_goals first | (exfalso; omega) | exact WS.devR (m := m) rfl (by omega)
theorem chRd0 (k:Int) (z:Nat) (hk:k = 0∨k = 1) (hz:z ≤ 4096) (m:List Int) (hm:m.length = z) (hb:Bytes m) (a:Int) (ha:0 ≤ a∧a < z):FnE Tryz.prog 29 [.agg (cR nm k b z dat),dev [] m,I a] [] (.tup [dev [] m,I (m.getD a.toNat 0)]) []:=by
 have hf := read_m nm b dat k z hk hz m hm hb a ha
 refine N.fnC Tryz.func29 k29 fun Q hQ hQN => ?_
 repeat' (first | refine T.call0 e77 rfl hf ?_ | exact ⟨⟩ | intro (K:KT) hK | intro hcd | (refine go1 ?_ ?_ <;> try clear hK K) | fail)
 all_goals first | (exfalso; omega) | exact WS.drop (n := 0) rfl rfl
theorem chWr0 (z:Nat) (hz:z ≤ 4096) (m:List Int) (hm:m.length = z) (a:Int) (ha:0 ≤ a∧a < z) (v:Int):FnE Tryz.prog 28 [.agg (cR nm 0 b z dat),dev [] m,I a,I v] [] (dev [] (m.set a.toNat (v % 256))) []:=by
 have hf := write_m0 nm b dat z hz m hm a ha v
 refine N.fnC Tryz.func28 k28 fun Q hQ hQN => ?_
 repeat' (first | refine T.call0 e70 rfl hf ?_ | exact ⟨⟩ | intro (K:KT) hK | intro hcd | (refine go1 ?_ ?_ <;> try clear hK K) | fail)
 exact WS.drop (n := 0) rfl rfl
theorem chWr1 (z:Nat) (hz:z ≤ 4096) (m:List Int) (hm:m.length = z) (a:Int) (ha:0 ≤ a∧a < z) (v:Int):FnE Tryz.prog 28 [.agg (cR nm 1 b z dat),dev [] m,I a,I v] [] (dev [] m) []:=by
 have hf := write_m1 nm b dat z hz m hm a ha v
 refine N.fnC Tryz.func28 k28 fun Q hQ hQN => ?_
 repeat' (first | refine T.call0 e70 rfl hf ?_ | exact ⟨⟩ | intro (K:KT) hK | intro hcd | (refine go1 ?_ ?_ <;> try clear hK K) | fail)
 exact WS.drop (n := 0) rfl rfl
theorem chSk2 (nb:Nat) (h1:1 ≤ nb∧nb ≤ 3) (hd:dat.length = 8 * nb) (n:Int) (hn:0 ≤ n∧n < nb) (m:List Int) (hm:m.length = 8 * nb) (t:Int):FnE Tryz.prog 121 [.agg (cR nm 2 b 9 dat),dev [n] m,I t] [] (dev [n] m) []:=by
 have hf := fit_k nm b dat nb h1 hd n hn m hm
 refine N.fnC Tryz.func121 k121 fun Q hQ hQN => ?_
 repeat' (first | refine T.callN e127 rfl (hf) (by simp) ?_ | exact ⟨⟩ | intro (K:KT) hK | intro hcd | (refine go1 ?_ ?_ <;> try clear hK K) | fail)
 exact WS.dev2 (n := [n]) (m := m) rfl rfl lb rfl (Nat.le_refl _)
theorem chRd2 (nb:Nat) (h1:1 ≤ nb∧nb ≤ 3) (hd:dat.length = 8 * nb) (n:Int) (hn:0 ≤ n∧n < nb) (m:List Int) (hm:m.length = 8 * nb) (hb:Bytes m) (a:Int) (ha:0 ≤ a∧a < 9):FnE Tryz.prog 29 [.agg (cR nm 2 b 9 dat),dev [n] m,I a] [] (.tup [dev [n] m,I (rdK n m a)]) []:=by
 have hf := read_k nm b dat nb h1 hd n hn m hm hb a ha
 refine N.fnC Tryz.func29 k29 fun Q hQ hQN => ?_
 repeat' (first | refine T.call0 e77 rfl hf ?_ | exact ⟨⟩ | intro (K:KT) hK | intro hcd | (refine go1 ?_ ?_ <;> try clear hK K) | fail)
 exact WS.drop (n := 0) rfl rfl
theorem chWr2 (nb:Nat) (h1:1 ≤ nb∧nb ≤ 3) (hd:dat.length = 8 * nb) (n:Int) (hn:0 ≤ n∧n < nb) (m:List Int) (hm:m.length = 8 * nb) (a:Int) (ha:0 ≤ a∧a < 9) (v:Int) (n' m':List Int) (he:(if a = 0 then dev [v % 256 % nb] m else dev [n] (m.set (n * 8 + a - 1).toNat (v % 256))) = dev n' m'):FnE Tryz.prog 28 [.agg (cR nm 2 b 9 dat),dev [n] m,I a,I v] [] (dev n' m') []:=by
 have hf := write_k nm b dat nb h1 hd n hn m hm a ha v
 rw [he] at hf
 refine N.fnC Tryz.func28 k28 fun Q hQ hQN => ?_
 repeat' (first | refine T.call0 e70 rfl hf ?_ | exact ⟨⟩ | intro (K:KT) hK | intro hcd | (refine go1 ?_ ?_ <;> try clear hK K) | fail)
 exact WS.drop (n := 0) rfl rfl
end
end Go.Proofs.YtonhglhdlgbcnabGreat.Calc
namespace Go.Proofs.YtonhglhdlgbcnabGreat.Calc
open Go Code
set_option linter.unusedSimpArgs false
set_option linter.unusedVariables false
set_option maxRecDepth 20000
set_option maxHeartbeats 4000000
abbrev Dv := List Int×List Int
def dvC (d:Dv):List V := [.sl 1 (cells d.1),.sl 1 (bcells d.2)]
inductive VKind (c:Chp):Prop where
 | mem (z:Nat) (hk:c.kind = 0∨c.kind = 1) (hs:c.size = z) (h1:1 ≤ z∧z ≤ 4096) (hd:c.data.length ≤ z) (hb:Bytes c.data)
 | bank (nb:Nat) (hk:c.kind = 2) (hs:c.size = 9) (h1:1 ≤ nb∧nb ≤ 3) (hd:c.data.length = 8 * nb) (hb:Bytes c.data)
 | dev (hk:c.kind = 3∨c.kind = 4∨c.kind = 5∨c.kind = 6∨c.kind = 7) (hs:c.size = szN c.kind.toNat) (hd:c.data = [])
 | drive (nd:Nat) (hk:c.kind = 8) (hs:c.size = 4) (hn:nd ≤ 16) (hd:c.data.length = 256 * nd) (hb:Bytes c.data)
inductive DvOk (c:Chp):Dv→Prop where
 | mem (z:Nat) (hk:c.kind = 0∨c.kind = 1) (hs:c.size = z) (h1:1 ≤ z∧z ≤ 4096) (m:List Int) (hm:m.length = z) (hb:Bytes m):DvOk c ([],m)
 | bank (nb:Nat) (hk:c.kind = 2) (hs:c.size = 9) (h1:1 ≤ nb∧nb ≤ 3) (hd:c.data.length = 8 * nb) (n:Int) (hn:0 ≤ n∧n < nb) (m:List Int) (hm:m.length = 8 * nb) (hb:Bytes m):DvOk c ([n],m)
 | timer (hk:c.kind = 3) (hs:c.size = 4) (x y a f:Int) (h:TimOk x y a f):DvOk c ([x,y,a,f],[])
 | port (hk:c.kind = 4) (hs:c.size = 2) (x y z:Int) (h:PortOk x y z):DvOk c ([x,y,z],[])
 | serial (hk:c.kind = 5) (hs:c.size = 3) (s l g f o a n z:Int) (h:SerOk s l g f o a n z):DvOk c ([s,l,g,f,o,a,n,z],[])
 | video (hk:c.kind = 6) (hs:c.size = 32) (p q:Int) (m:List Int) (h:VidOk p q m):DvOk c ([p,q],m)
 | sound (hk:c.kind = 7) (hs:c.size = 8) (x y:Vo) (hx:x.Ok) (hy:y.Ok):DvOk c (vo2 x y,[])
 | drive (nd:Nat) (hk:c.kind = 8) (hs:c.size = 4) (a:Dr) (m:List Int) (h:a.Ok m nd):DvOk c (dr10 a,m)
theorem chNew_ex (c:Chp) (hc:VKind c):∃ d:Dv,DvOk c d∧FnE Tryz.prog 22 [.agg (chV c)] [] (.agg (dvC d)) []:=by
 obtain ⟨nm,k,b,s,dat⟩ := c
 rcases hc with ⟨z,hk,hs,h1,hd,hb⟩ | ⟨nb,hk,hs,h1,hd,hb⟩ | ⟨hk,hs,hd⟩ | ⟨nd,hk,hs,hn,hd,hb⟩
 ·dsimp only at hk hs hd hb; subst hs
  exact ⟨([],cpy (List.replicate z 0) dat 0),.mem z hk rfl h1 _ (by rw [cpy_len,List.length_replicate]) (cpy_bytes (Bytes.zeros _) hb _),new_m nm b dat k z hk h1.2 hd⟩
 ·dsimp only at hk hs hd hb; subst hs; subst hk
  exact ⟨([0],dat),.bank nb rfl rfl h1 hd 0 (by omega) _ hd hb,new_k nm b dat nb h1 hd⟩
 ·dsimp only at hk hs hd; subst hd
  rcases hk with rfl | rfl | rfl | rfl | rfl
  ·exact ⟨([0,0,0,0],[]),.timer rfl hs _ _ _ _ (by decide),chNw3 nm b s [] timnew_ok⟩
  ·exact ⟨([255,0,0],[]),.port rfl hs _ _ _ (by decide),chNw4 nm b s [] prtnew_ok⟩
  ·exact ⟨([0,0,0,0,0,0,0,0],[]),.serial rfl hs _ _ _ _ _ _ _ _ (by decide),chNw5 nm b s [] sernew_ok⟩
  ·exact ⟨([2559,0],List.replicate 32 0),.video rfl hs _ _ _ ⟨by decide,by decide,List.length_replicate,Bytes.zeros _⟩,chNw6 nm b s [] vidnew_ok⟩
  ·exact ⟨([0,0,0,0,0,0,0,0,0,0,0,0],[]),.sound rfl hs ⟨0,0,0,0,0,0⟩ ⟨0,0,0,0,0,0⟩ (by unfold Vo.Ok; decide) (by unfold Vo.Ok; decide),chNw7 nm b s [] sndnew_ok⟩
 ·dsimp only at hk hs hd hb; subst hs; subst hk
  exact ⟨([0,0,0,0,0,0,0,0,0,0],dat),.drive nd rfl rfl ⟨0,0,0,0,0,0,0,0,0,0⟩ _ (by constructor <;> first | omega | exact hb | decide | (dsimp only; omega)),chNw8 nm b 4 dat (drvnew dat nd hd (by omega))⟩
theorem chRead_ex (c:Chp) (d:Dv) (hd:DvOk c d) (a:Int) (ha:0 ≤ a∧a < c.size):∃ (d':Dv) (v:Int),DvOk c d'∧(c.kind ≤ 2→d' = d)∧FnE Tryz.prog 29 [.agg (chV c),.agg (dvC d),I a] [] (.tup [.agg (dvC d'),I v]) []:=by
 obtain ⟨nm,k,b,s,dat⟩ := c
 rcases hd with ⟨z,hk,hs,h1,m,hm,hb⟩ | ⟨nb,hk,hs,h1,hd,n,hn,m,hm,hb⟩ | ⟨hk,hs,x,y,e,f,h⟩ | ⟨hk,hs,x,y,z,h⟩ | ⟨hk,hs,s1,l,g,f,o,e,n,z,h⟩ | ⟨hk,hs,p,q,m,h⟩ | ⟨hk,hs,x,y,hx,hy⟩ | ⟨nd,hk,hs,e,m,h⟩
 all_goals dsimp only at hk hs ha; subst hs
 ·exact ⟨_,_,.mem z hk rfl h1 m hm hb,fun _ => rfl,chRd0 nm b dat k z hk h1.2 m hm hb a ha⟩
 ·subst hk
  exact ⟨_,_,.bank nb rfl rfl h1 hd n hn m hm hb,fun _ => rfl,chRd2 nm b dat nb h1 hd n hn m hm hb a ha⟩
 ·subst hk
  obtain ⟨f',v,h2,hF⟩ := timrd_ex x y e f a h ha
  exact ⟨([x,y,e,f'],[]),v,.timer rfl rfl _ _ _ _ h2,fun h => absurd h (by dsimp only; decide),chRd3 nm b 4 dat hF⟩
 ·subst hk
  obtain ⟨v,hF⟩ := prtrd_ex x y z a h ha
  exact ⟨([x,y,z],[]),v,.port rfl rfl _ _ _ h,fun h => absurd h (by dsimp only; decide),chRd4 nm b 2 dat hF⟩
 ·subst hk
  obtain ⟨f',o',v,h2,hF⟩ := serrd_ex s1 l g f o e n z a h ha
  exact ⟨([s1,l,g,f',o',e,n,z],[]),v,.serial rfl rfl _ _ _ _ _ _ _ _ h2,fun h => absurd h (by dsimp only; decide),chRd5 nm b 3 dat hF⟩
 ·subst hk
  have hF := vidread_ok p q a m h ha
  refine ⟨([p,if a = 7 then 0 else q],m),_,.video rfl rfl _ _ _ ⟨h.pos,?_,h.len,h.mem⟩,fun h => absurd h (by dsimp only; decide),chRd6 nm b 32 dat hF⟩
  have := h.hit
  split <;> omega
 ·subst hk
  obtain ⟨v,hF⟩ := sndrd_ex x y hx hy a ha
  exact ⟨(vo2 x y,[]),v,.sound rfl rfl _ _ hx hy,fun h => absurd h (by dsimp only; decide),chRd7 nm b 8 dat hF⟩
 ·subst hk
  obtain ⟨e',v,h2,hF⟩ := drvrd_ex e m nd h a ha
  exact ⟨(dr10 e',m),v,.drive nd rfl rfl _ _ h2,fun h => absurd h (by dsimp only; decide),chRd8 nm b 4 dat hF⟩
theorem chWrite_ex (c:Chp) (d:Dv) (hd:DvOk c d) (a v:Int) (ha:0 ≤ a∧a < c.size):∃ d':Dv,DvOk c d'∧FnE Tryz.prog 28 [.agg (chV c),.agg (dvC d),I a,I v] [] (.agg (dvC d')) []:=by
 obtain ⟨nm,k,b,s,dat⟩ := c
 rcases hd with ⟨z,hk,hs,h1,m,hm,hb⟩ | ⟨nb,hk,hs,h1,hd,n,hn,m,hm,hb⟩ | ⟨hk,hs,x,y,e,f,h⟩ | ⟨hk,hs,x,y,z,h⟩ | ⟨hk,hs,s1,l,g,f,o,e,n,z,h⟩ | ⟨hk,hs,p,q,m,h⟩ | ⟨hk,hs,x,y,hx,hy⟩ | ⟨nd,hk,hs,e,m,h⟩
 all_goals dsimp only at hk hs ha; subst hs
 ·rcases hk with rfl | rfl
  ·exact ⟨([],m.set a.toNat (v % 256)),.mem z (.inl rfl) rfl h1 _ (by rw [List.length_set]; exact hm) (hb.set _ _ (by omega)),chWr0 nm b dat z h1.2 m hm a ha v⟩
  ·exact ⟨([],m),.mem z (.inr rfl) rfl h1 _ hm hb,chWr1 nm b dat z h1.2 m hm a ha v⟩
 ·subst hk
  by_cases h0:a = 0
  ·have hv:0 ≤ v % 256 % (nb:Int)∧v % 256 % (nb:Int) < nb := ⟨Int.emod_nonneg _ (by omega),Int.emod_lt_of_pos _ (by omega)⟩
   exact ⟨([v % 256 % nb],m),.bank nb rfl rfl h1 hd _ hv _ hm hb,chWr2 nm b dat nb h1 hd n hn m hm a ha v _ _ (by rw [if_pos h0])⟩
  ·exact ⟨([n],m.set (n * 8 + a - 1).toNat (v % 256)),.bank nb rfl rfl h1 hd n hn _ (by rw [List.length_set]; exact hm) (hb.set _ _ (by omega)),chWr2 nm b dat nb h1 hd n hn m hm a ha v _ _ (by rw [if_neg h0])⟩
 ·subst hk
  obtain ⟨x',y',e',h2,hF⟩ := timwr_ex x y e f a v h ha
  exact ⟨([x',y',e',f],[]),.timer rfl rfl _ _ _ _ h2,chWr3 nm b 4 dat hF⟩
 ·subst hk
  obtain ⟨y',z',h2,hF⟩ := prtwr_ex x y z a v h ha
  exact ⟨([x,y',z'],[]),.port rfl rfl _ _ _ h2,chWr4 nm b 2 dat hF⟩
 ·subst hk
  obtain ⟨s',l',e',h2,hF⟩ := serwr_ex s1 l g f o e n z a v h ha
  exact ⟨([s',l',g,f,o,e',n,z],[]),.serial rfl rfl _ _ _ _ _ _ _ _ h2,chWr5 nm b 3 dat hF⟩
 ·subst hk
  have hF := vidwrite_ok p q a v m h
  refine ⟨([p,q],if 0 ≤ a∧a < 32∧(a < 5∨7 < a) then m.set a.toNat (v % 2 ^ 8) else m),.video rfl rfl _ _ _ ⟨h.pos,h.hit,?_,?_⟩,chWr6 nm b 32 dat hF⟩
  ·split
   ·rw [List.length_set]; exact h.len
   ·exact h.len
  ·split
   ·exact h.mem.set _ _ (by omega)
   ·exact h.mem
 ·subst hk
  obtain ⟨x',y',h2,h3,hF⟩ := sndwr_ex x y hx hy a v ha
  exact ⟨(vo2 x' y',[]),.sound rfl rfl _ _ h2 h3,chWr7 nm b 8 dat hF⟩
 ·subst hk
  obtain ⟨e',h2,hF⟩ := drvwr_ex e m nd h a v ha
  exact ⟨(dr10 e',m),.drive nd rfl rfl _ _ h2,chWr8 nm b 4 dat hF⟩
def skipV (c:Chp) (t:Nat) (d:Dv):Dv :=
 if c.kind = 3 then match d.1 with
  | [x,y,a,f] => (skip4 x y a f t,[])
  | _ => d
 else if c.kind = 5 then match d.1 with
  | [s,l,g,f,o,a,n,z] => (serSkip s l g f o a n z t,[])
  | _ => d
 else if c.kind = 6 then match d.1 with
  | [p,q] => ([vpos p t,vhitN d.2 p q t],d.2)
  | _ => d
 else if c.kind = 7 then match d.1 with
  | [p,v,r,e,f,w,p',v',r',e',f',w'] => (vo2 (Vo.ticks t ⟨p,v,r,e,f,w⟩) (Vo.ticks t ⟨p',v',r',e',f',w'⟩),[])
  | _ => d
 else if c.kind = 8 then match d.1 with
  | [k,u,e,s,i,l,a,r,o,x] => (dr10 (Dr.skip t t ⟨k,u,e,s,i,l,a,r,o,x⟩ d.2).1,(Dr.skip t t ⟨k,u,e,s,i,l,a,r,o,x⟩ d.2).2)
  | _ => d
 else d
theorem skip4_ok (x y a f:Int) (h:TimOk x y a f) (t:Int):∃ x' y' a' f',skip4 x y a f t = [x',y',a',f']∧TimOk x' y' a' f':=by
 unfold skip4
 have hr1 := Int.emod_nonneg (t - x - 1) (show y + 1 ≠ 0 by omega)
 have hr2 := Int.emod_lt_of_pos (t - x - 1) (show 0 < y + 1 by omega)
 (repeat' split) <;> exact ⟨_,_,_,_,rfl,by omega⟩
theorem serSkip_ok (s l g f o a n z:Int) (h:SerOk s l g f o a n z) (t:Int):∃ l' n' z',serSkip s l g f o a n z t = [s,l',g,f,o,a,n',z']∧SerOk s l' g f o a n' z':=by
 unfold serSkip
 (repeat' split) <;> exact ⟨_,_,_,rfl,by omega⟩
theorem chSkip_ok (c:Chp) (d:Dv) (hd:DvOk c d) (t:Nat) (ht:t ≤ 5120):DvOk c (skipV c t d)∧FnE Tryz.prog 121 [.agg (chV c),.agg (dvC d),I t] [] (.agg (dvC (skipV c t d))) []:=by
 obtain ⟨nm,k,b,s,dat⟩ := c
 rcases hd with ⟨z,hk,hs,h1,m,hm,hb⟩ | ⟨nb,hk,hs,h1,hd,n,hn,m,hm,hb⟩ | ⟨hk,hs,x,y,e,f,h⟩ | ⟨hk,hs,x,y,z,h⟩ | ⟨hk,hs,s1,l,g,f,o,e,n,z,h⟩ | ⟨hk,hs,p,q,m,h⟩ | ⟨hk,hs,x,y,hx,hy⟩ | ⟨nd,hk,hs,e,m,h⟩
 all_goals dsimp only at hk hs; subst hs
 ·have e:skipV ⟨nm,k,b,z,dat⟩ t ([],m) = ([],m) := by unfold skipV; dsimp only; rcases hk with rfl | rfl <;> rfl
  rw [e]
  exact ⟨.mem z hk rfl h1 m hm hb,chSk0 nm b dat k z hk h1.2 m hm t⟩
 ·subst hk
  exact ⟨.bank nb rfl rfl h1 hd n hn m hm hb,chSk2 nm b dat nb h1 hd n hn m hm t⟩
 ·subst hk
  have hF := chSk3 nm b 4 dat (timskip_ok x y e f t [] h (by omega))
  obtain ⟨x',y',e',f',he,h2⟩ := skip4_ok x y e f h t
  refine ⟨?_,hF⟩
  show DvOk _ (skip4 x y e f t,[])
  rw [he]
  exact .timer rfl rfl _ _ _ _ h2
 ·subst hk
  have hF := prtin x y z x [] h
  rw [show x % 2 ^ 8 = x by omega] at hF
  exact ⟨.port rfl rfl _ _ _ h,chSk4 nm b 2 dat hF⟩
 ·subst hk
  have hF := chSk5 nm b 3 dat (serskip_ok s1 l g f o e n z t [] h)
  obtain ⟨l',n',z',he,h2⟩ := serSkip_ok s1 l g f o e n z h t
  refine ⟨?_,hF⟩
  show DvOk _ (serSkip s1 l g f o e n z t,[])
  rw [he]
  exact .serial rfl rfl _ _ _ _ _ _ _ _ h2
 ·subst hk
  have hF := vidskip_ok p q t m h
  rw [show vrounds (t:Int) = t by unfold vrounds; rw [if_neg (by omega)]; omega] at hF
  exact ⟨.video rfl rfl _ _ _ ⟨vpos_lt _ _,vhitN_lt _ _ _ h.hit _,h.len,h.mem⟩,chSk6 nm b 32 dat hF⟩
 ·subst hk
  have hF := sndskip_ok x y t [] hx hy
  rw [show (min (t:Int) 10000000).toNat = t by omega] at hF
  exact ⟨.sound rfl rfl _ _ (Vo.ticks_ok _ hx _) (Vo.ticks_ok _ hy _),chSk7 nm b 8 dat hF⟩
 ·subst hk
  have hF := drvskip e m nd t h (by omega)
  rw [Int.toNat_natCast] at hF
  exact ⟨.drive nd rfl rfl _ _ (Dr.skip_ok _ _ _ _ _ h),chSk8 nm b 4 dat hF⟩
end Go.Proofs.YtonhglhdlgbcnabGreat.Calc
namespace Go.Proofs.YtonhglhdlgbcnabGreat.Calc
open Go
set_option linter.unusedVariables false
set_option linter.unusedSimpArgs false
end Go.Proofs.YtonhglhdlgbcnabGreat.Calc
