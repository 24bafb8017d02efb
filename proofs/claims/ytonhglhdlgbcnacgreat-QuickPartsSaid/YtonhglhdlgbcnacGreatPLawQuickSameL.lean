/- Several texts in one (FnDevs, FnChipOps), for the proof of LawQuickSame. No condition beyond those in each lemma. -/
import Derived.Test.YtonhglhdlgbcnacGreatPLawQuickSameJ
import Derived.Test.YtonhglhdlgbcnacGreatPLawQuickSameK
import Derived.Test.YtonhglhdlgbcnacGreatPLawQuickSameD
namespace Go.Proofs.YtonhglhdlgbcnacGreat.Calc
open Go Code
set_option linter.unusedSimpArgs false
set_option linter.unusedVariables false
set_option maxRecDepth 20000
set_option maxHeartbeats 4000000
attribute [local irreducible] WOpsT AW AK RK AKW UK UC
theorem putv_lo (b v:Int) (hb:0 ≤ b∧b < 65536) (i n:Nat) (h:(i = 0∧n = 8)∨(i = 8∧n = 8)):0 ≤ putv b i n v∧putv b i n v < 65536:=by
 unfold putv
 rcases h with ⟨rfl,rfl⟩ | ⟨rfl,rfl⟩
 ·rw [show (2:Int) ^ 0 = 1 by decide,show (2:Int) ^ 8 = 256 by decide,show (2:Int) ^ 62 = 4611686018427387904 by decide]; omega
 ·rw [show (2:Int) ^ (8 + 8) = 65536 by decide,show (2:Int) ^ 8 = 256 by decide,show (2:Int) ^ 62 = 4611686018427387904 by decide]; omega
theorem timrd_ex (x y c f a:Int) (h:TimOk x y c f) (ha:0 ≤ a∧a < 4):∃ f' v,TimOk x y c f'∧FnE Tryz.prog 126 [dev [x,y,c,f] [],I a] [] (.tup [dev [x,y,c,f'] [],I v]) []:=by
 obtain rfl | rfl | rfl | rfl:a = 0∨a = 1∨a = 2∨a = 3 := by omega
 ·refine ⟨f,x / 2 ^ 0 % 2 ^ 8,h,?_⟩
  refine N.fnC Tryz.func126 k126 fun Q hQ hQN => ?_
  repeat' (first | (show WC _ _ _ _ _ _ _ _ _; first | refine T.callN e144 rfl (timfit _ _ _ _ _ h) (by simp) ?_ | refine T.call0 e179 rfl (get_ok x 0 8 (by decide)) ?_) | exact ⟨⟩ | intro (K:KT) hK | intro hcd | (refine go1 ?_ ?_ <;> try clear hK K) | fail)
  exact WS.devN2 (m := 1) rfl rfl
 ·refine ⟨f,x / 2 ^ 8 % 2 ^ 8,h,?_⟩
  refine N.fnC Tryz.func126 k126 fun Q hQ hQN => ?_
  repeat' (first | (show WC _ _ _ _ _ _ _ _ _; first | refine T.callN e144 rfl (timfit _ _ _ _ _ h) (by simp) ?_ | refine T.call0 e179 rfl (get_ok x 8 8 (by decide)) ?_) | exact ⟨⟩ | intro (K:KT) hK | intro hcd | (refine go1 ?_ ?_ <;> try clear hK K) | fail)
  exact WS.devN2 (m := 1) rfl rfl
 ·refine ⟨f,c,h,?_⟩
  refine N.fnC Tryz.func126 k126 fun Q hQ hQN => ?_
  repeat' (first | refine T.callN e144 rfl (timfit _ _ _ _ _ h) (by simp) ?_ | exact ⟨⟩ | intro (K:KT) hK | intro hcd | (refine go1 ?_ ?_ <;> try clear hK K) | fail)
  exact WS.devN2 (m := 1) rfl rfl
 ·exact ⟨0,f,by omega,timread_ok x y c f [] h⟩
theorem timwr_ex (x y c f a v:Int) (h:TimOk x y c f) (ha:0 ≤ a∧a < 4):∃ x' y' c',TimOk x' y' c' f∧FnE Tryz.prog 133 [dev [x,y,c,f] [],I a,I v] [] (dev [x',y',c',f] []) []:=by
 have p1 := putv_lo y v (by omega) 0 8 (by omega)
 have p2 := putv_lo y v (by omega) 8 8 (by omega)
 obtain rfl | rfl | rfl | rfl:a = 0∨a = 1∨a = 2∨a = 3 := by omega
 ·exact ⟨x,_,c,by omega,timw0_ok x y c f v [] h⟩
 ·exact ⟨x,_,c,by omega,timw1_ok x y c f v [] h⟩
 ·refine ⟨_,y,v % 2 ^ 3,?_,timw2_ok x y c f v [] h⟩
  split <;> omega
 ·refine ⟨x,y,c,h,?_⟩
  refine N.fnC Tryz.func133 k133 fun Q hQ hQN => ?_
  repeat' (first | refine T.callN e144 rfl (timfit _ _ _ _ _ h) (by simp) ?_ | exact ⟨⟩ | intro (K:KT) hK | intro hcd | (refine go1 ?_ ?_ <;> try clear hK K) | fail)
  exact WS.devN (m := 1) rfl rfl
abbrev PortOk (a b c:Int):Prop := (0 ≤ a∧a < 256)∧(0 ≤ b∧b < 256)∧(0 ≤ c∧c < 256)
theorem prtfit (a b c:Int) (m:List Int) (h:PortOk a b c):FnE Tryz.prog 145 [dev [a,b,c] m] [] (.psl 0 1 0 3) [⟨1,1,cells [a,b,c]⟩]:=by
 refine N.fnC Tryz.func145 k145 fun Q hQ hQN => ?_
 repeat' (first | (show AK _ _ (.loop _) _ _ _ _; refine N.unroll 4 ?_) | refine T.call0 e113 rfl (low_in _ 8 8 rfl (by decide) (by omega)) ?_ | exact ⟨⟩ | intro (K:KT) hK | intro hcd | (refine go1 ?_ ?_ <;> try clear hK K) | fail)
 exact WS.keep1 rfl rfl
theorem prtnew_ok:FnE Tryz.prog 51 [] [] (dev [255,0,0] []) []:=by
 refine N.fnC Tryz.func51 k51 fun Q hQ hQN => ?_
 repeat' (first | exact ⟨⟩ | intro (K:KT) hK | intro hcd | (refine go1 ?_ ?_ <;> try clear hK K) | fail)
 exact WS.devN (m := 1) rfl rfl
theorem prtin (a b c v:Int) (m:List Int) (h:PortOk a b c):FnE Tryz.prog 76 [dev [a,b,c] m,I v] [] (dev [v % 2 ^ 8,b,c] []) []:=by
 refine N.fnC Tryz.func76 k76 fun Q hQ hQN => ?_
 repeat' (first | (show WC _ _ _ _ _ _ _ _ _; first | refine T.callN e145 rfl (prtfit a b c m h) (by simp) ?_ | refine T.call0 e113 rfl (low_lit _ 8 8 rfl (by decide)) ?_) | exact ⟨⟩ | intro (K:KT) hK | intro hcd | (refine go1 ?_ ?_ <;> try clear hK K) | fail)
 exact WS.devN (m := 1) rfl rfl
theorem prtout (a b c:Int) (m:List Int) (h:PortOk a b c):FnE Tryz.prog 120 [dev [a,b,c] m] [] (I (bits .and .i64 b c)) []:=by
 refine N.fnC Tryz.func120 k120 fun Q hQ hQN => ?_
 repeat' (first | refine T.callN e145 rfl (prtfit a b c m h) (by simp) ?_ | exact ⟨⟩ | intro (K:KT) hK | intro hcd | (refine go1 ?_ ?_ <;> try clear hK K) | fail)
 exact WS.c rfl rfl
theorem prtrd_ex (a b c x:Int) (h:PortOk a b c) (hx:0 ≤ x∧x < 2):∃ v,FnE Tryz.prog 127 [dev [a,b,c] [],I x] [] (.tup [dev [a,b,c] [],I v]) []:=by
 obtain rfl | rfl:x = 0∨x = 1 := by omega
 ·refine ⟨bits .or .i64 (bits .and .i64 b c) (bits .andNot .i64 a c),?_⟩
  refine N.fnC Tryz.func127 k127 fun Q hQ hQN => ?_
  repeat' (first | refine T.callN e145 rfl (prtfit a b c [] h) (by simp) ?_ | exact ⟨⟩ | intro (K:KT) hK | intro hcd | (refine go1 ?_ ?_ <;> try clear hK K) | fail)
  exact WS.devN2 (m := 1) rfl rfl
 ·refine ⟨c,?_⟩
  refine N.fnC Tryz.func127 k127 fun Q hQ hQN => ?_
  repeat' (first | refine T.callN e145 rfl (prtfit a b c [] h) (by simp) ?_ | exact ⟨⟩ | intro (K:KT) hK | intro hcd | (refine go1 ?_ ?_ <;> try clear hK K) | fail)
  exact WS.devN2 (m := 1) rfl rfl
theorem prtwr_ex (a b c x v:Int) (h:PortOk a b c) (hx:0 ≤ x∧x < 2):∃ b' c',PortOk a b' c'∧FnE Tryz.prog 134 [dev [a,b,c] [],I x,I v] [] (dev [a,b',c'] []) []:=by
 obtain rfl | rfl:x = 0∨x = 1 := by omega
 ·refine ⟨v % 2 ^ 8,c,by omega,?_⟩
  refine N.fnC Tryz.func134 k134 fun Q hQ hQN => ?_
  repeat' (first | (show WC _ _ _ _ _ _ _ _ _; first | refine T.callN e145 rfl (prtfit a b c [] h) (by simp) ?_ | refine T.call0 e113 rfl (low_lit _ 8 8 rfl (by decide)) ?_) | exact ⟨⟩ | intro (K:KT) hK | intro hcd | (refine go1 ?_ ?_ <;> try clear hK K) | fail)
  exact WS.devN (m := 1) rfl rfl
 ·refine ⟨b,v % 2 ^ 8,by omega,?_⟩
  refine N.fnC Tryz.func134 k134 fun Q hQ hQN => ?_
  repeat' (first | (show WC _ _ _ _ _ _ _ _ _; first | refine T.callN e145 rfl (prtfit a b c [] h) (by simp) ?_ | refine T.call0 e113 rfl (low_lit _ 8 8 rfl (by decide)) ?_) | exact ⟨⟩ | intro (K:KT) hK | intro hcd | (refine go1 ?_ ?_ <;> try clear hK K) | fail)
  exact WS.devN (m := 1) rfl rfl
theorem serrd_ex (s l g f o c n z a:Int) (h:SerOk s l g f o c n z) (ha:0 ≤ a∧a < 3):∃ f' o' v,SerOk s l g f' o' c n z∧FnE Tryz.prog 128 [dev [s,l,g,f,o,c,n,z] [],I a] [] (.tup [dev [s,l,g,f',o',c,n,z] [],I v]) []:=by
 obtain rfl | rfl | rfl:a = 0∨a = 1∨a = 2 := by omega
 ·exact ⟨0,o,g,by omega,serread0_ok s l g f o c n z [] h⟩
 ·exact ⟨f,0,_,by omega,serread1_ok s l g f o c n z [] h⟩
 ·exact ⟨f,o,c,h,serread2_ok s l g f o c n z [] h⟩
theorem serwr_ex (s l g f o c n z a v:Int) (h:SerOk s l g f o c n z) (ha:0 ≤ a∧a < 3):∃ s' l' c',SerOk s' l' g f o c' n z∧FnE Tryz.prog 135 [dev [s,l,g,f,o,c,n,z] [],I a,I v] [] (dev [s',l',g,f,o,c',n,z] []) []:=by
 obtain rfl | rfl | rfl:a = 0∨a = 1∨a = 2 := by omega
 ·have := serw0_ok s l g f o c n z v [] h
  by_cases hl:l = 0
  ·rw [if_pos hl] at this
   exact ⟨_,_,_,by omega,this⟩
  ·rw [if_neg hl] at this
   exact ⟨_,_,_,h,this⟩
 ·refine ⟨s,l,c,h,?_⟩
  refine N.fnC Tryz.func135 k135 fun Q hQ hQN => ?_
  repeat' (first | refine T.callN e146 rfl (serfit _ _ _ _ _ _ _ _ _ h) (by simp) ?_ | exact ⟨⟩ | intro (K:KT) hK | intro hcd | (refine go1 ?_ ?_ <;> try clear hK K) | fail)
  all_goals first | (exfalso; omega) | exact WS.devN (m := 1) rfl rfl
 ·exact ⟨s,l,v % 2 ^ 2,by omega,serw2_ok s l g f o c n z v [] h⟩
theorem voice_g (x y:Vo) (a:Int) (ha:0 ≤ a∧a < 4):FnE Tryz.prog 184 [.psl 0 1 0 12,I a] [vo2B x y] (.psl 0 1 0 6) [vo2B x y]:=by
 refine N.fnC Tryz.func184 k184 fun Q hQ hQN => ?_
 have e:IntKind.wrap .i64 (a.tdiv 4) = 0:=by
  rw [Int.tdiv_eq_ediv_of_nonneg ha.1,show a / 4 = 0 by omega]; rfl
 repeat' (first | rw [e] | exact ⟨⟩ | intro (K:KT) hK | intro hcd | (refine go1 ?_ ?_ <;> try clear hK K) | fail)
 exact WS.gc [0] 1 rfl rfl .rfl
theorem voice_h (x y:Vo) (a:Int) (ha:4 ≤ a∧a < 8):FnE Tryz.prog 184 [.psl 0 1 0 12,I a] [vo2B x y] (.psl 0 1 6 6) [vo2B x y]:=by
 refine N.fnC Tryz.func184 k184 fun Q hQ hQN => ?_
 have e:IntKind.wrap .i64 (a.tdiv 4) = 1:=by
  rw [Int.tdiv_eq_ediv_of_nonneg (by omega),show a / 4 = 1 by omega]; rfl
 repeat' (first | rw [e] | exact ⟨⟩ | intro (K:KT) hK | intro hcd | (refine go1 ?_ ?_ <;> try clear hK K) | fail)
 exact WS.gc [0] 1 rfl rfl .rfl
theorem putv12 (b v:Int) (hb:0 ≤ b∧b < 4096):(0 ≤ putv b 0 8 v∧putv b 0 8 v < 4096)∧(0 ≤ putv b 8 4 v∧putv b 8 4 v < 4096):=by
 unfold putv
 constructor
 ·rw [show (2:Int) ^ 0 = 1 by decide,show (2:Int) ^ 8 = 256 by decide,show (2:Int) ^ 62 = 4611686018427387904 by decide]; omega
 ·rw [show (2:Int) ^ (8 + 4) = 4096 by decide,show (2:Int) ^ 8 = 256 by decide,show (2:Int) ^ 4 = 16 by decide,show (2:Int) ^ 62 = 4611686018427387904 by decide]; omega
theorem sndrd_ex (x y:Vo) (hx:x.Ok) (hy:y.Ok) (a:Int) (ha:0 ≤ a∧a < 8):∃ v,FnE Tryz.prog 130 [dev (vo2 x y) [],I a] [] (.tup [dev (vo2 x y) [],I v]) []:=by
 have hf := sndfit x y [] hx hy
 obtain rfl | rfl | rfl | rfl | rfl | rfl | rfl | rfl:a = 0∨a = 1∨a = 2∨a = 3∨a = 4∨a = 5∨a = 6∨a = 7 := by omega
 ·refine ⟨x.p / 2 ^ 0 % 2 ^ 8,?_⟩
  refine N.fnC Tryz.func130 k130 fun Q hQ hQN => ?_
  repeat' (first | rw [show Int.tmod 0 4 = 0 by decide] | (show WC _ _ _ _ _ _ _ _ _; first | refine T.callN e149 rfl (hf) (by simp) ?_ | refine T.cP [2] e184 (voice_g x y 0 (by decide)) ?_ | refine T.call0 e179 rfl (get_ok _ 0 8 (by decide)) ?_ | refine T.call0 e179 rfl (get_ok _ 8 4 (by decide)) ?_) | exact ⟨⟩ | intro (K:KT) hK | intro hcd | (refine go1 ?_ ?_ <;> try clear hK K) | fail)
  exact WS.devN2 (m := 1) rfl rfl
 ·refine ⟨x.p / 2 ^ 8 % 2 ^ 4,?_⟩
  refine N.fnC Tryz.func130 k130 fun Q hQ hQN => ?_
  repeat' (first | rw [show Int.tmod 1 4 = 1 by decide] | (show WC _ _ _ _ _ _ _ _ _; first | refine T.callN e149 rfl (hf) (by simp) ?_ | refine T.cP [2] e184 (voice_g x y 1 (by decide)) ?_ | refine T.call0 e179 rfl (get_ok _ 0 8 (by decide)) ?_ | refine T.call0 e179 rfl (get_ok _ 8 4 (by decide)) ?_) | exact ⟨⟩ | intro (K:KT) hK | intro hcd | (refine go1 ?_ ?_ <;> try clear hK K) | fail)
  exact WS.devN2 (m := 1) rfl rfl
 ·refine ⟨x.v,?_⟩
  refine N.fnC Tryz.func130 k130 fun Q hQ hQN => ?_
  repeat' (first | rw [show Int.tmod 2 4 = 2 by decide] | (show WC _ _ _ _ _ _ _ _ _; first | refine T.callN e149 rfl (hf) (by simp) ?_ | refine T.cP [2] e184 (voice_g x y 2 (by decide)) ?_ | refine T.call0 e179 rfl (get_ok _ 0 8 (by decide)) ?_ | refine T.call0 e179 rfl (get_ok _ 8 4 (by decide)) ?_) | exact ⟨⟩ | intro (K:KT) hK | intro hcd | (refine go1 ?_ ?_ <;> try clear hK K) | fail)
  exact WS.devN2 (m := 1) rfl rfl
 ·refine ⟨x.r,?_⟩
  refine N.fnC Tryz.func130 k130 fun Q hQ hQN => ?_
  repeat' (first | rw [show Int.tmod 3 4 = 3 by decide] | (show WC _ _ _ _ _ _ _ _ _; first | refine T.callN e149 rfl (hf) (by simp) ?_ | refine T.cP [2] e184 (voice_g x y 3 (by decide)) ?_ | refine T.call0 e179 rfl (get_ok _ 0 8 (by decide)) ?_ | refine T.call0 e179 rfl (get_ok _ 8 4 (by decide)) ?_) | exact ⟨⟩ | intro (K:KT) hK | intro hcd | (refine go1 ?_ ?_ <;> try clear hK K) | fail)
  exact WS.devN2 (m := 1) rfl rfl
 ·refine ⟨y.p / 2 ^ 0 % 2 ^ 8,?_⟩
  refine N.fnC Tryz.func130 k130 fun Q hQ hQN => ?_
  repeat' (first | rw [show Int.tmod 4 4 = 0 by decide] | (show WC _ _ _ _ _ _ _ _ _; first | refine T.callN e149 rfl (hf) (by simp) ?_ | refine T.cP [2] e184 (voice_h x y 4 (by decide)) ?_ | refine T.call0 e179 rfl (get_ok _ 0 8 (by decide)) ?_ | refine T.call0 e179 rfl (get_ok _ 8 4 (by decide)) ?_) | exact ⟨⟩ | intro (K:KT) hK | intro hcd | (refine go1 ?_ ?_ <;> try clear hK K) | fail)
  exact WS.devN2 (m := 1) rfl rfl
 ·refine ⟨y.p / 2 ^ 8 % 2 ^ 4,?_⟩
  refine N.fnC Tryz.func130 k130 fun Q hQ hQN => ?_
  repeat' (first | rw [show Int.tmod 5 4 = 1 by decide] | (show WC _ _ _ _ _ _ _ _ _; first | refine T.callN e149 rfl (hf) (by simp) ?_ | refine T.cP [2] e184 (voice_h x y 5 (by decide)) ?_ | refine T.call0 e179 rfl (get_ok _ 0 8 (by decide)) ?_ | refine T.call0 e179 rfl (get_ok _ 8 4 (by decide)) ?_) | exact ⟨⟩ | intro (K:KT) hK | intro hcd | (refine go1 ?_ ?_ <;> try clear hK K) | fail)
  exact WS.devN2 (m := 1) rfl rfl
 ·refine ⟨y.v,?_⟩
  refine N.fnC Tryz.func130 k130 fun Q hQ hQN => ?_
  repeat' (first | rw [show Int.tmod 6 4 = 2 by decide] | (show WC _ _ _ _ _ _ _ _ _; first | refine T.callN e149 rfl (hf) (by simp) ?_ | refine T.cP [2] e184 (voice_h x y 6 (by decide)) ?_ | refine T.call0 e179 rfl (get_ok _ 0 8 (by decide)) ?_ | refine T.call0 e179 rfl (get_ok _ 8 4 (by decide)) ?_) | exact ⟨⟩ | intro (K:KT) hK | intro hcd | (refine go1 ?_ ?_ <;> try clear hK K) | fail)
  exact WS.devN2 (m := 1) rfl rfl
 ·refine ⟨y.r,?_⟩
  refine N.fnC Tryz.func130 k130 fun Q hQ hQN => ?_
  repeat' (first | rw [show Int.tmod 7 4 = 3 by decide] | (show WC _ _ _ _ _ _ _ _ _; first | refine T.callN e149 rfl (hf) (by simp) ?_ | refine T.cP [2] e184 (voice_h x y 7 (by decide)) ?_ | refine T.call0 e179 rfl (get_ok _ 0 8 (by decide)) ?_ | refine T.call0 e179 rfl (get_ok _ 8 4 (by decide)) ?_) | exact ⟨⟩ | intro (K:KT) hK | intro hcd | (refine go1 ?_ ?_ <;> try clear hK K) | fail)
  exact WS.devN2 (m := 1) rfl rfl
theorem sndwr_ex (x y:Vo) (hx:x.Ok) (hy:y.Ok) (a v:Int) (ha:0 ≤ a∧a < 8):∃ x' y':Vo,x'.Ok∧y'.Ok∧FnE Tryz.prog 137 [dev (vo2 x y) [],I a,I v] [] (dev (vo2 x' y') []) []:=by
 have hf := sndfit x y [] hx hy
 have px := putv12 x.p v hx.1
 have py := putv12 y.p v hy.1
 obtain rfl | rfl | rfl | rfl | rfl | rfl | rfl | rfl:a = 0∨a = 1∨a = 2∨a = 3∨a = 4∨a = 5∨a = 6∨a = 7 := by omega
 ·refine ⟨{ x with p := putv x.p 0 8 v },y,(by unfold Vo.Ok at hx ⊢; dsimp only; omega),hy,?_⟩
  refine N.fnC Tryz.func137 k137 fun Q hQ hQN => ?_
  repeat' (first | rw [show Int.tmod 0 4 = 0 by decide] | (show WC _ _ _ _ _ _ _ _ _; first | refine T.callN e149 rfl (hf) (by simp) ?_ | refine T.cP [2] e184 (voice_g x y 0 (by decide)) ?_ | refine T.call0 e178 rfl (put_ok _ _ 0 8 (by decide)) ?_) | exact ⟨⟩ | intro (K:KT) hK | intro hcd | (refine go1 ?_ ?_ <;> try clear hK K) | fail)
  exact WS.devN (m := 1) rfl rfl
 ·refine ⟨{ x with p := putv x.p 8 4 v },y,(by unfold Vo.Ok at hx ⊢; dsimp only; omega),hy,?_⟩
  refine N.fnC Tryz.func137 k137 fun Q hQ hQN => ?_
  repeat' (first | rw [show Int.tmod 1 4 = 1 by decide] | (show WC _ _ _ _ _ _ _ _ _; first | refine T.callN e149 rfl (hf) (by simp) ?_ | refine T.cP [2] e184 (voice_g x y 1 (by decide)) ?_ | refine T.call0 e178 rfl (put_ok _ _ 8 4 (by decide)) ?_) | exact ⟨⟩ | intro (K:KT) hK | intro hcd | (refine go1 ?_ ?_ <;> try clear hK K) | fail)
  exact WS.devN (m := 1) rfl rfl
 ·refine ⟨{ x with v := v % 2 ^ 4,w := 0 },y,(by unfold Vo.Ok at hx ⊢; dsimp only; omega),hy,?_⟩
  refine N.fnC Tryz.func137 k137 fun Q hQ hQN => ?_
  repeat' (first | rw [show Int.tmod 2 4 = 2 by decide] | (show WC _ _ _ _ _ _ _ _ _; first | refine T.callN e149 rfl (hf) (by simp) ?_ | refine T.cP [2] e184 (voice_g x y 2 (by decide)) ?_ | refine T.call0 e113 rfl (low_lit _ 4 4 rfl (by decide)) ?_) | exact ⟨⟩ | intro (K:KT) hK | intro hcd | (refine go1 ?_ ?_ <;> try clear hK K) | fail)
  exact WS.devN (m := 1) rfl rfl
 ·refine ⟨{ x with r := v % 2 ^ 8 },y,(by unfold Vo.Ok at hx ⊢; dsimp only; omega),hy,?_⟩
  refine N.fnC Tryz.func137 k137 fun Q hQ hQN => ?_
  repeat' (first | rw [show Int.tmod 3 4 = 3 by decide] | (show WC _ _ _ _ _ _ _ _ _; first | refine T.callN e149 rfl (hf) (by simp) ?_ | refine T.cP [2] e184 (voice_g x y 3 (by decide)) ?_ | refine T.call0 e113 rfl (low_lit _ 8 8 rfl (by decide)) ?_) | exact ⟨⟩ | intro (K:KT) hK | intro hcd | (refine go1 ?_ ?_ <;> try clear hK K) | fail)
  exact WS.devN (m := 1) rfl rfl
 ·refine ⟨x,{ y with p := putv y.p 0 8 v },hx,(by unfold Vo.Ok at hy ⊢; dsimp only; omega),?_⟩
  refine N.fnC Tryz.func137 k137 fun Q hQ hQN => ?_
  repeat' (first | rw [show Int.tmod 4 4 = 0 by decide] | (show WC _ _ _ _ _ _ _ _ _; first | refine T.callN e149 rfl (hf) (by simp) ?_ | refine T.cP [2] e184 (voice_h x y 4 (by decide)) ?_ | refine T.call0 e178 rfl (put_ok _ _ 0 8 (by decide)) ?_) | exact ⟨⟩ | intro (K:KT) hK | intro hcd | (refine go1 ?_ ?_ <;> try clear hK K) | fail)
  exact WS.devN (m := 1) rfl rfl
 ·refine ⟨x,{ y with p := putv y.p 8 4 v },hx,(by unfold Vo.Ok at hy ⊢; dsimp only; omega),?_⟩
  refine N.fnC Tryz.func137 k137 fun Q hQ hQN => ?_
  repeat' (first | rw [show Int.tmod 5 4 = 1 by decide] | (show WC _ _ _ _ _ _ _ _ _; first | refine T.callN e149 rfl (hf) (by simp) ?_ | refine T.cP [2] e184 (voice_h x y 5 (by decide)) ?_ | refine T.call0 e178 rfl (put_ok _ _ 8 4 (by decide)) ?_) | exact ⟨⟩ | intro (K:KT) hK | intro hcd | (refine go1 ?_ ?_ <;> try clear hK K) | fail)
  exact WS.devN (m := 1) rfl rfl
 ·refine ⟨x,{ y with v := v % 2 ^ 4,w := 0 },hx,(by unfold Vo.Ok at hy ⊢; dsimp only; omega),?_⟩
  refine N.fnC Tryz.func137 k137 fun Q hQ hQN => ?_
  repeat' (first | rw [show Int.tmod 6 4 = 2 by decide] | (show WC _ _ _ _ _ _ _ _ _; first | refine T.callN e149 rfl (hf) (by simp) ?_ | refine T.cP [2] e184 (voice_h x y 6 (by decide)) ?_ | refine T.call0 e113 rfl (low_lit _ 4 4 rfl (by decide)) ?_) | exact ⟨⟩ | intro (K:KT) hK | intro hcd | (refine go1 ?_ ?_ <;> try clear hK K) | fail)
  exact WS.devN (m := 1) rfl rfl
 ·refine ⟨x,{ y with r := v % 2 ^ 8 },hx,(by unfold Vo.Ok at hy ⊢; dsimp only; omega),?_⟩
  refine N.fnC Tryz.func137 k137 fun Q hQ hQN => ?_
  repeat' (first | rw [show Int.tmod 7 4 = 3 by decide] | (show WC _ _ _ _ _ _ _ _ _; first | refine T.callN e149 rfl (hf) (by simp) ?_ | refine T.cP [2] e184 (voice_h x y 7 (by decide)) ?_ | refine T.call0 e113 rfl (low_lit _ 8 8 rfl (by decide)) ?_) | exact ⟨⟩ | intro (K:KT) hK | intro hcd | (refine go1 ?_ ?_ <;> try clear hK K) | fail)
  exact WS.devN (m := 1) rfl rfl
theorem drvr3 (a:Dr) (m:List Int) (nd:Nat) (H:a.Ok m nd):FnE Tryz.prog 131 [dev (dr10 a) m,I 3] [] (.tup [dev (dr10 a) m,I a.x]) []:=by
 refine N.fnC Tryz.func131 k131 fun Q hQ hQN => ?_
 repeat' (first | refine T.callN e152 rfl (drvfit a m nd H) (by simp) ?_ | exact ⟨⟩ | intro (K:KT) hK | intro hcd | (refine go1 ?_ ?_ <;> try clear hK K) | fail)
 exact WS.dev2t rfl rfl (Nat.le_refl _) rfl (Nat.le_refl _)
theorem drvw2 (a:Dr) (m:List Int) (nd:Nat) (k:Int) (H:a.Ok m nd):FnE Tryz.prog 138 [dev (dr10 a) m,I 2,I k] [] (dev (dr10 a) m) []:=by
 refine N.fnC Tryz.func138 k138 fun Q hQ hQN => ?_
 repeat' (first | refine T.callN e152 rfl (drvfit a m nd H) (by simp) ?_ | exact ⟨⟩ | intro (K:KT) hK | intro hcd | (refine go1 ?_ ?_ <;> try clear hK K) | fail)
 exact WS.dev2 rfl rfl (Nat.le_refl _) rfl (Nat.le_refl _)
theorem drvw3 (a:Dr) (m:List Int) (nd:Nat) (k:Int) (H:a.Ok m nd):FnE Tryz.prog 138 [dev (dr10 a) m,I 3,I k] [] (dev (dr10 { a with x := k % 2 ^ 1 }) m) []:=by
 refine N.fnC Tryz.func138 k138 fun Q hQ hQN => ?_
 repeat' (first | (show WC _ _ _ _ _ _ _ _ _; first | refine T.callN e152 rfl (drvfit a m nd H) (by simp) ?_ | refine T.call0 e113 rfl (low_lit _ 1 1 rfl (by decide)) ?_) | exact ⟨⟩ | intro (K:KT) hK | intro hcd | (refine go1 ?_ ?_ <;> try clear hK K) | fail)
 exact WS.dev2 rfl rfl (Nat.le_refl _) rfl (Nat.le_refl _)
theorem drvrd_ex (a:Dr) (m:List Int) (nd:Nat) (H:a.Ok m nd) (x:Int) (hx:0 ≤ x∧x < 4):∃ (a':Dr) (v:Int),a'.Ok m nd∧FnE Tryz.prog 131 [dev (dr10 a) m,I x] [] (.tup [dev (dr10 a') m,I v]) []:=by
 obtain rfl | rfl | rfl | rfl:x = 0∨x = 1∨x = 2∨x = 3 := by omega
 ·exact ⟨{ a with o := 0 },_,{ H with o := ⟨Int.le_refl 0,by show (0:Int) < 2; decide⟩ },drvr0 a m nd H⟩
 ·refine ⟨{ a with r := if a.c = 4 then a.r else 0 },_,{ H with r := ?_ },drvr1 a m nd H⟩
  have := H.r
  dsimp only; split <;> omega
 ·exact ⟨_,_,H,drvr2 a m nd H⟩
 ·exact ⟨_,_,H,drvr3 a m nd H⟩
theorem Dr.begin_ok (a:Dr) (m:List Int) (nd:Nat) (H:a.Ok m nd) (k:Int):(a.begin k).Ok m nd:=by
 unfold Dr.begin
 split
 ·exact H
 ·obtain ⟨hk,ht,hc,hs,hi,hl,hd,hr,ho,hx,hm,hnd,hB⟩ := H
  constructor <;> (try dsimp only) <;> (try split) <;> first | omega | exact hB
theorem drvwr_ex (a:Dr) (m:List Int) (nd:Nat) (H:a.Ok m nd) (x v:Int) (hx:0 ≤ x∧x < 4):∃ a':Dr,a'.Ok m nd∧FnE Tryz.prog 138 [dev (dr10 a) m,I x,I v] [] (dev (dr10 a') m) []:=by
 obtain rfl | rfl | rfl | rfl:x = 0∨x = 1∨x = 2∨x = 3 := by omega
 ·exact ⟨_,Dr.begin_ok a m nd H _,drvw0 a m nd v H⟩
 ·refine ⟨{ a with d := v % 2 ^ 8,r := if a.c = 4 then 0 else a.r },{ H with d := by dsimp only; omega,r := ?_ },drvw1 a m nd v H⟩
  have := H.r
  dsimp only; split <;> omega
 ·exact ⟨_,H,drvw2 a m nd v H⟩
 ·exact ⟨{ a with x := v % 2 ^ 1 },{ H with x := by dsimp only; omega },drvw3 a m nd v H⟩
theorem Dr.skip_ok:∀ (f:Nat) (k:Int) (a:Dr) (m:List Int) (nd:Nat),a.Ok m nd→(Dr.skip f k a m).1.Ok (Dr.skip f k a m).2 nd:=by
 intro f
 induction f with
 | zero => intro k a m nd H; exact H
 | succ f ih =>
  intro k a m nd H
  simp only [Dr.skip]
  split
  ·exact H
  ·split
   ·exact { H with c := by dsimp only; omega }
   ·have hl := H.l
    have hc := H.c
    have hk := H.k
    split
    ·exact { H with l := by dsimp only; omega }
    ·have H0:({ a with l := 0 }:Dr).Ok m nd := { H with l := by dsimp only; omega }
     exact ih _ _ _ nd (Dr.done_ok _ m nd H0 (by dsimp only; omega) (by dsimp only; omega))
section
variable (nm:ByteArray) (b s:Int) (dat:List Int)
theorem chRd3 {n m n' m':List Int} {a v:Int} (h:FnE Tryz.prog 126 [dev n m,I a] [] (.tup [dev n' m',I v]) []):FnE Tryz.prog 71 [.agg (cR nm 3 b s dat),dev n m,I a] [] (.tup [dev n' m',I v]) []:=by
 refine N.fnC Tryz.func71 k71 fun Q hQ hQN => ?_
 repeat' (first | refine T.call0 e126 rfl h ?_ | exact ⟨⟩ | intro (K:KT) hK | intro hcd | (refine go1 ?_ ?_ <;> try clear hK K) | fail)
 exact WS.drop (n := 0) rfl rfl
theorem chWr3 {n m n' m':List Int} {a v:Int} (h:FnE Tryz.prog 133 [dev n m,I a,I v] [] (dev n' m') []):FnE Tryz.prog 72 [.agg (cR nm 3 b s dat),dev n m,I a,I v] [] (dev n' m') []:=by
 refine N.fnC Tryz.func72 k72 fun Q hQ hQN => ?_
 repeat' (first | refine T.call0 e133 rfl h ?_ | exact ⟨⟩ | intro (K:KT) hK | intro hcd | (refine go1 ?_ ?_ <;> try clear hK K) | fail)
 exact WS.drop (n := 0) rfl rfl
theorem chSk3 {n m n' m':List Int} {t:Int} (h:FnE Tryz.prog 75 [dev n m,I t] [] (dev n' m') []):FnE Tryz.prog 28 [.agg (cR nm 3 b s dat),dev n m,I t] [] (dev n' m') []:=by
 refine N.fnC Tryz.func28 k28 fun Q hQ hQN => ?_
 repeat' (first | refine T.call0 e75 rfl h ?_ | exact ⟨⟩ | intro (K:KT) hK | intro hcd | (refine go1 ?_ ?_ <;> try clear hK K) | fail)
 exact WS.drop (n := 0) rfl rfl
theorem chNw3 {n m:List Int} (h:FnE Tryz.prog 50 [] [] (dev n m) []):FnE Tryz.prog 21 [.agg (cR nm 3 b s dat)] [] (dev n m) []:=by
 refine N.fnC Tryz.func21 k21 fun Q hQ hQN => ?_
 repeat' (first | refine T.call0 e50 rfl h ?_ | exact ⟨⟩ | intro (K:KT) hK | intro hcd | (refine go1 ?_ ?_ <;> try clear hK K) | fail)
 exact WS.drop (n := 0) rfl rfl
theorem chNx3 {n m:List Int} {v:Int} (h:FnE Tryz.prog 139 [dev n m] [] (I v) []):FnE Tryz.prog 73 [.agg (cR nm 3 b s dat),dev n m] [] (I v) []:=by
 refine N.fnC Tryz.func73 k73 fun Q hQ hQN => ?_
 repeat' (first | refine T.call0 e139 rfl h ?_ | exact ⟨⟩ | intro (K:KT) hK | intro hcd | (refine go1 ?_ ?_ <;> try clear hK K) | fail)
 exact WS.c rfl rfl
theorem chIq3 {n m:List Int} {v:Bool} (h:FnE Tryz.prog 167 [dev n m] [] (.c (.bool v)) []):FnE Tryz.prog 115 [.agg (cR nm 3 b s dat),dev n m] [] (.c (.bool v)) []:=by
 refine N.fnC Tryz.func115 k115 fun Q hQ hQN => ?_
 repeat' (first | refine T.call0 e167 rfl h ?_ | exact ⟨⟩ | intro (K:KT) hK | intro hcd | (refine go1 ?_ ?_ <;> try clear hK K) | fail)
 exact WS.c rfl rfl
theorem chIn3 {n m n' m':List Int} {v:Int} (h:FnE Tryz.prog 28 [.agg (cR nm 3 b s dat),dev n m,I 0] [] (dev n' m') []):FnE Tryz.prog 108 [.agg (cR nm 3 b s dat),dev n m,I v] [] (dev n' m') []:=by
 refine N.fnC Tryz.func108 k108 fun Q hQ hQN => ?_
 repeat' (first | refine T.call0 e28 rfl h ?_ | exact ⟨⟩ | intro (K:KT) hK | intro hcd | (refine go1 ?_ ?_ <;> try clear hK K) | fail)
 exact WS.drop (n := 0) rfl rfl
theorem chRd4 {n m n' m':List Int} {a v:Int} (h:FnE Tryz.prog 127 [dev n m,I a] [] (.tup [dev n' m',I v]) []):FnE Tryz.prog 71 [.agg (cR nm 4 b s dat),dev n m,I a] [] (.tup [dev n' m',I v]) []:=by
 refine N.fnC Tryz.func71 k71 fun Q hQ hQN => ?_
 repeat' (first | refine T.call0 e127 rfl h ?_ | exact ⟨⟩ | intro (K:KT) hK | intro hcd | (refine go1 ?_ ?_ <;> try clear hK K) | fail)
 exact WS.drop (n := 0) rfl rfl
theorem chWr4 {n m n' m':List Int} {a v:Int} (h:FnE Tryz.prog 134 [dev n m,I a,I v] [] (dev n' m') []):FnE Tryz.prog 72 [.agg (cR nm 4 b s dat),dev n m,I a,I v] [] (dev n' m') []:=by
 refine N.fnC Tryz.func72 k72 fun Q hQ hQN => ?_
 repeat' (first | refine T.call0 e134 rfl h ?_ | exact ⟨⟩ | intro (K:KT) hK | intro hcd | (refine go1 ?_ ?_ <;> try clear hK K) | fail)
 exact WS.drop (n := 0) rfl rfl
theorem chNw4 {n m:List Int} (h:FnE Tryz.prog 51 [] [] (dev n m) []):FnE Tryz.prog 21 [.agg (cR nm 4 b s dat)] [] (dev n m) []:=by
 refine N.fnC Tryz.func21 k21 fun Q hQ hQN => ?_
 repeat' (first | refine T.call0 e51 rfl h ?_ | exact ⟨⟩ | intro (K:KT) hK | intro hcd | (refine go1 ?_ ?_ <;> try clear hK K) | fail)
 exact WS.drop (n := 0) rfl rfl
theorem chOt4 {n m:List Int} {v:Int} (h:FnE Tryz.prog 120 [dev n m] [] (I v) []):FnE Tryz.prog 68 [.agg (cR nm 4 b s dat),dev n m] [] (I v) []:=by
 refine N.fnC Tryz.func68 k68 fun Q hQ hQN => ?_
 repeat' (first | refine T.call0 e120 rfl h ?_ | exact ⟨⟩ | intro (K:KT) hK | intro hcd | (refine go1 ?_ ?_ <;> try clear hK K) | fail)
 exact WS.c rfl rfl
theorem chIn4 {n m n' m':List Int} {v:Int} (h:FnE Tryz.prog 76 [dev n m,I v] [] (dev n' m') []):FnE Tryz.prog 108 [.agg (cR nm 4 b s dat),dev n m,I v] [] (dev n' m') []:=by
 refine N.fnC Tryz.func108 k108 fun Q hQ hQN => ?_
 repeat' (first | refine T.call0 e76 rfl h ?_ | exact ⟨⟩ | intro (K:KT) hK | intro hcd | (refine go1 ?_ ?_ <;> try clear hK K) | fail)
 exact WS.drop (n := 0) rfl rfl
theorem chRd5 {n m n' m':List Int} {a v:Int} (h:FnE Tryz.prog 128 [dev n m,I a] [] (.tup [dev n' m',I v]) []):FnE Tryz.prog 71 [.agg (cR nm 5 b s dat),dev n m,I a] [] (.tup [dev n' m',I v]) []:=by
 refine N.fnC Tryz.func71 k71 fun Q hQ hQN => ?_
 repeat' (first | refine T.call0 e128 rfl h ?_ | exact ⟨⟩ | intro (K:KT) hK | intro hcd | (refine go1 ?_ ?_ <;> try clear hK K) | fail)
 exact WS.drop (n := 0) rfl rfl
theorem chWr5 {n m n' m':List Int} {a v:Int} (h:FnE Tryz.prog 135 [dev n m,I a,I v] [] (dev n' m') []):FnE Tryz.prog 72 [.agg (cR nm 5 b s dat),dev n m,I a,I v] [] (dev n' m') []:=by
 refine N.fnC Tryz.func72 k72 fun Q hQ hQN => ?_
 repeat' (first | refine T.call0 e135 rfl h ?_ | exact ⟨⟩ | intro (K:KT) hK | intro hcd | (refine go1 ?_ ?_ <;> try clear hK K) | fail)
 exact WS.drop (n := 0) rfl rfl
theorem chSk5 {n m n' m':List Int} {t:Int} (h:FnE Tryz.prog 78 [dev n m,I t] [] (dev n' m') []):FnE Tryz.prog 28 [.agg (cR nm 5 b s dat),dev n m,I t] [] (dev n' m') []:=by
 refine N.fnC Tryz.func28 k28 fun Q hQ hQN => ?_
 repeat' (first | refine T.call0 e78 rfl h ?_ | exact ⟨⟩ | intro (K:KT) hK | intro hcd | (refine go1 ?_ ?_ <;> try clear hK K) | fail)
 exact WS.drop (n := 0) rfl rfl
theorem chNw5 {n m:List Int} (h:FnE Tryz.prog 52 [] [] (dev n m) []):FnE Tryz.prog 21 [.agg (cR nm 5 b s dat)] [] (dev n m) []:=by
 refine N.fnC Tryz.func21 k21 fun Q hQ hQN => ?_
 repeat' (first | refine T.call0 e52 rfl h ?_ | exact ⟨⟩ | intro (K:KT) hK | intro hcd | (refine go1 ?_ ?_ <;> try clear hK K) | fail)
 exact WS.drop (n := 0) rfl rfl
theorem chNx5 {n m:List Int} {v:Int} (h:FnE Tryz.prog 140 [dev n m] [] (I v) []):FnE Tryz.prog 73 [.agg (cR nm 5 b s dat),dev n m] [] (I v) []:=by
 refine N.fnC Tryz.func73 k73 fun Q hQ hQN => ?_
 repeat' (first | refine T.call0 e140 rfl h ?_ | exact ⟨⟩ | intro (K:KT) hK | intro hcd | (refine go1 ?_ ?_ <;> try clear hK K) | fail)
 exact WS.c rfl rfl
theorem chIq5 {n m:List Int} {v:Bool} (h:FnE Tryz.prog 168 [dev n m] [] (.c (.bool v)) []):FnE Tryz.prog 115 [.agg (cR nm 5 b s dat),dev n m] [] (.c (.bool v)) []:=by
 refine N.fnC Tryz.func115 k115 fun Q hQ hQN => ?_
 repeat' (first | refine T.call0 e168 rfl h ?_ | exact ⟨⟩ | intro (K:KT) hK | intro hcd | (refine go1 ?_ ?_ <;> try clear hK K) | fail)
 exact WS.c rfl rfl
theorem chOt5 {n m:List Int} {v:Int} (h:FnE Tryz.prog 121 [dev n m] [] (I v) []):FnE Tryz.prog 68 [.agg (cR nm 5 b s dat),dev n m] [] (I v) []:=by
 refine N.fnC Tryz.func68 k68 fun Q hQ hQN => ?_
 repeat' (first | refine T.call0 e121 rfl h ?_ | exact ⟨⟩ | intro (K:KT) hK | intro hcd | (refine go1 ?_ ?_ <;> try clear hK K) | fail)
 exact WS.c rfl rfl
theorem chIn5 {n m n' m':List Int} {v:Int} (h:FnE Tryz.prog 160 [dev n m,I v] [] (dev n' m') []):FnE Tryz.prog 108 [.agg (cR nm 5 b s dat),dev n m,I v] [] (dev n' m') []:=by
 refine N.fnC Tryz.func108 k108 fun Q hQ hQN => ?_
 repeat' (first | refine T.call0 e160 rfl h ?_ | exact ⟨⟩ | intro (K:KT) hK | intro hcd | (refine go1 ?_ ?_ <;> try clear hK K) | fail)
 exact WS.drop (n := 0) rfl rfl
theorem chRd6 {n m n' m':List Int} {a v:Int} (h:FnE Tryz.prog 129 [dev n m,I a] [] (.tup [dev n' m',I v]) []):FnE Tryz.prog 71 [.agg (cR nm 6 b s dat),dev n m,I a] [] (.tup [dev n' m',I v]) []:=by
 refine N.fnC Tryz.func71 k71 fun Q hQ hQN => ?_
 repeat' (first | refine T.call0 e129 rfl h ?_ | exact ⟨⟩ | intro (K:KT) hK | intro hcd | (refine go1 ?_ ?_ <;> try clear hK K) | fail)
 exact WS.drop (n := 0) rfl rfl
theorem chWr6 {n m n' m':List Int} {a v:Int} (h:FnE Tryz.prog 136 [dev n m,I a,I v] [] (dev n' m') []):FnE Tryz.prog 72 [.agg (cR nm 6 b s dat),dev n m,I a,I v] [] (dev n' m') []:=by
 refine N.fnC Tryz.func72 k72 fun Q hQ hQN => ?_
 repeat' (first | refine T.call0 e136 rfl h ?_ | exact ⟨⟩ | intro (K:KT) hK | intro hcd | (refine go1 ?_ ?_ <;> try clear hK K) | fail)
 exact WS.drop (n := 0) rfl rfl
theorem chSk6 {n m n' m':List Int} {t:Int} (h:FnE Tryz.prog 79 [dev n m,I t] [] (dev n' m') []):FnE Tryz.prog 28 [.agg (cR nm 6 b s dat),dev n m,I t] [] (dev n' m') []:=by
 refine N.fnC Tryz.func28 k28 fun Q hQ hQN => ?_
 repeat' (first | refine T.call0 e79 rfl h ?_ | exact ⟨⟩ | intro (K:KT) hK | intro hcd | (refine go1 ?_ ?_ <;> try clear hK K) | fail)
 exact WS.drop (n := 0) rfl rfl
theorem chNw6 {n m:List Int} (h:FnE Tryz.prog 53 [] [] (dev n m) []):FnE Tryz.prog 21 [.agg (cR nm 6 b s dat)] [] (dev n m) []:=by
 refine N.fnC Tryz.func21 k21 fun Q hQ hQN => ?_
 repeat' (first | refine T.call0 e53 rfl h ?_ | exact ⟨⟩ | intro (K:KT) hK | intro hcd | (refine go1 ?_ ?_ <;> try clear hK K) | fail)
 exact WS.drop (n := 0) rfl rfl
theorem chNx6 {n m:List Int} {v:Int} (h:FnE Tryz.prog 141 [dev n m] [] (I v) []):FnE Tryz.prog 73 [.agg (cR nm 6 b s dat),dev n m] [] (I v) []:=by
 refine N.fnC Tryz.func73 k73 fun Q hQ hQN => ?_
 repeat' (first | refine T.call0 e141 rfl h ?_ | exact ⟨⟩ | intro (K:KT) hK | intro hcd | (refine go1 ?_ ?_ <;> try clear hK K) | fail)
 exact WS.c rfl rfl
theorem chOt6 {n m:List Int} {v:Int} (h:FnE Tryz.prog 122 [dev n m] [] (I v) []):FnE Tryz.prog 68 [.agg (cR nm 6 b s dat),dev n m] [] (I v) []:=by
 refine N.fnC Tryz.func68 k68 fun Q hQ hQN => ?_
 repeat' (first | refine T.call0 e122 rfl h ?_ | exact ⟨⟩ | intro (K:KT) hK | intro hcd | (refine go1 ?_ ?_ <;> try clear hK K) | fail)
 exact WS.c rfl rfl
theorem chIn6 {n m n' m':List Int} {v:Int} (h:FnE Tryz.prog 28 [.agg (cR nm 6 b s dat),dev n m,I 0] [] (dev n' m') []):FnE Tryz.prog 108 [.agg (cR nm 6 b s dat),dev n m,I v] [] (dev n' m') []:=by
 refine N.fnC Tryz.func108 k108 fun Q hQ hQN => ?_
 repeat' (first | refine T.call0 e28 rfl h ?_ | exact ⟨⟩ | intro (K:KT) hK | intro hcd | (refine go1 ?_ ?_ <;> try clear hK K) | fail)
 exact WS.drop (n := 0) rfl rfl
theorem chRd7 {n m n' m':List Int} {a v:Int} (h:FnE Tryz.prog 130 [dev n m,I a] [] (.tup [dev n' m',I v]) []):FnE Tryz.prog 71 [.agg (cR nm 7 b s dat),dev n m,I a] [] (.tup [dev n' m',I v]) []:=by
 refine N.fnC Tryz.func71 k71 fun Q hQ hQN => ?_
 repeat' (first | refine T.call0 e130 rfl h ?_ | exact ⟨⟩ | intro (K:KT) hK | intro hcd | (refine go1 ?_ ?_ <;> try clear hK K) | fail)
 exact WS.drop (n := 0) rfl rfl
theorem chWr7 {n m n' m':List Int} {a v:Int} (h:FnE Tryz.prog 137 [dev n m,I a,I v] [] (dev n' m') []):FnE Tryz.prog 72 [.agg (cR nm 7 b s dat),dev n m,I a,I v] [] (dev n' m') []:=by
 refine N.fnC Tryz.func72 k72 fun Q hQ hQN => ?_
 repeat' (first | refine T.call0 e137 rfl h ?_ | exact ⟨⟩ | intro (K:KT) hK | intro hcd | (refine go1 ?_ ?_ <;> try clear hK K) | fail)
 exact WS.drop (n := 0) rfl rfl
theorem chSk7 {n m n' m':List Int} {t:Int} (h:FnE Tryz.prog 80 [dev n m,I t] [] (dev n' m') []):FnE Tryz.prog 28 [.agg (cR nm 7 b s dat),dev n m,I t] [] (dev n' m') []:=by
 refine N.fnC Tryz.func28 k28 fun Q hQ hQN => ?_
 repeat' (first | refine T.call0 e80 rfl h ?_ | exact ⟨⟩ | intro (K:KT) hK | intro hcd | (refine go1 ?_ ?_ <;> try clear hK K) | fail)
 exact WS.drop (n := 0) rfl rfl
theorem chNw7 {n m:List Int} (h:FnE Tryz.prog 54 [] [] (dev n m) []):FnE Tryz.prog 21 [.agg (cR nm 7 b s dat)] [] (dev n m) []:=by
 refine N.fnC Tryz.func21 k21 fun Q hQ hQN => ?_
 repeat' (first | refine T.call0 e54 rfl h ?_ | exact ⟨⟩ | intro (K:KT) hK | intro hcd | (refine go1 ?_ ?_ <;> try clear hK K) | fail)
 exact WS.drop (n := 0) rfl rfl
theorem chNx7 {n m:List Int} {v:Int} (h:FnE Tryz.prog 142 [dev n m] [] (I v) []):FnE Tryz.prog 73 [.agg (cR nm 7 b s dat),dev n m] [] (I v) []:=by
 refine N.fnC Tryz.func73 k73 fun Q hQ hQN => ?_
 repeat' (first | refine T.call0 e142 rfl h ?_ | exact ⟨⟩ | intro (K:KT) hK | intro hcd | (refine go1 ?_ ?_ <;> try clear hK K) | fail)
 exact WS.c rfl rfl
theorem chOt7 {n m:List Int} {v:Int} (h:FnE Tryz.prog 123 [dev n m] [] (I v) []):FnE Tryz.prog 68 [.agg (cR nm 7 b s dat),dev n m] [] (I v) []:=by
 refine N.fnC Tryz.func68 k68 fun Q hQ hQN => ?_
 repeat' (first | refine T.call0 e123 rfl h ?_ | exact ⟨⟩ | intro (K:KT) hK | intro hcd | (refine go1 ?_ ?_ <;> try clear hK K) | fail)
 exact WS.c rfl rfl
theorem chIn7 {n m n' m':List Int} {v:Int} (h:FnE Tryz.prog 28 [.agg (cR nm 7 b s dat),dev n m,I 0] [] (dev n' m') []):FnE Tryz.prog 108 [.agg (cR nm 7 b s dat),dev n m,I v] [] (dev n' m') []:=by
 refine N.fnC Tryz.func108 k108 fun Q hQ hQN => ?_
 repeat' (first | refine T.call0 e28 rfl h ?_ | exact ⟨⟩ | intro (K:KT) hK | intro hcd | (refine go1 ?_ ?_ <;> try clear hK K) | fail)
 exact WS.drop (n := 0) rfl rfl
theorem chRd8 {n m n' m':List Int} {a v:Int} (h:FnE Tryz.prog 131 [dev n m,I a] [] (.tup [dev n' m',I v]) []):FnE Tryz.prog 71 [.agg (cR nm 8 b s dat),dev n m,I a] [] (.tup [dev n' m',I v]) []:=by
 refine N.fnC Tryz.func71 k71 fun Q hQ hQN => ?_
 repeat' (first | refine T.call0 e131 rfl h ?_ | exact ⟨⟩ | intro (K:KT) hK | intro hcd | (refine go1 ?_ ?_ <;> try clear hK K) | fail)
 exact WS.drop (n := 0) rfl rfl
theorem chWr8 {n m n' m':List Int} {a v:Int} (h:FnE Tryz.prog 138 [dev n m,I a,I v] [] (dev n' m') []):FnE Tryz.prog 72 [.agg (cR nm 8 b s dat),dev n m,I a,I v] [] (dev n' m') []:=by
 refine N.fnC Tryz.func72 k72 fun Q hQ hQN => ?_
 repeat' (first | refine T.call0 e138 rfl h ?_ | exact ⟨⟩ | intro (K:KT) hK | intro hcd | (refine go1 ?_ ?_ <;> try clear hK K) | fail)
 exact WS.drop (n := 0) rfl rfl
theorem chSk8 {n m n' m':List Int} {t:Int} (h:FnE Tryz.prog 81 [dev n m,I t] [] (dev n' m') []):FnE Tryz.prog 28 [.agg (cR nm 8 b s dat),dev n m,I t] [] (dev n' m') []:=by
 refine N.fnC Tryz.func28 k28 fun Q hQ hQN => ?_
 repeat' (first | refine T.call0 e81 rfl h ?_ | exact ⟨⟩ | intro (K:KT) hK | intro hcd | (refine go1 ?_ ?_ <;> try clear hK K) | fail)
 exact WS.drop (n := 0) rfl rfl
theorem chNw8 {n m:List Int} (h:FnE Tryz.prog 55 [.sl 1 (bcells dat)] [] (dev n m) []):FnE Tryz.prog 21 [.agg (cR nm 8 b s dat)] [] (dev n m) []:=by
 refine N.fnC Tryz.func21 k21 fun Q hQ hQN => ?_
 repeat' (first | refine T.call0 e55 rfl h ?_ | exact ⟨⟩ | intro (K:KT) hK | intro hcd | (refine go1 ?_ ?_ <;> try clear hK K) | fail)
 exact WS.drop (n := 0) rfl rfl
theorem chNx8 {n m:List Int} {v:Int} (h:FnE Tryz.prog 143 [dev n m] [] (I v) []):FnE Tryz.prog 73 [.agg (cR nm 8 b s dat),dev n m] [] (I v) []:=by
 refine N.fnC Tryz.func73 k73 fun Q hQ hQN => ?_
 repeat' (first | refine T.call0 e143 rfl h ?_ | exact ⟨⟩ | intro (K:KT) hK | intro hcd | (refine go1 ?_ ?_ <;> try clear hK K) | fail)
 exact WS.c rfl rfl
theorem chIq8 {n m:List Int} {v:Bool} (h:FnE Tryz.prog 169 [dev n m] [] (.c (.bool v)) []):FnE Tryz.prog 115 [.agg (cR nm 8 b s dat),dev n m] [] (.c (.bool v)) []:=by
 refine N.fnC Tryz.func115 k115 fun Q hQ hQN => ?_
 repeat' (first | refine T.call0 e169 rfl h ?_ | exact ⟨⟩ | intro (K:KT) hK | intro hcd | (refine go1 ?_ ?_ <;> try clear hK K) | fail)
 exact WS.c rfl rfl
theorem chOt8 {n m:List Int} {v:Int} (h:FnE Tryz.prog 124 [dev n m] [] (I v) []):FnE Tryz.prog 68 [.agg (cR nm 8 b s dat),dev n m] [] (I v) []:=by
 refine N.fnC Tryz.func68 k68 fun Q hQ hQN => ?_
 repeat' (first | refine T.call0 e124 rfl h ?_ | exact ⟨⟩ | intro (K:KT) hK | intro hcd | (refine go1 ?_ ?_ <;> try clear hK K) | fail)
 exact WS.c rfl rfl
theorem chIn8 {n m n' m':List Int} {v:Int} (h:FnE Tryz.prog 161 [dev n m,I v] [] (dev n' m') []):FnE Tryz.prog 108 [.agg (cR nm 8 b s dat),dev n m,I v] [] (dev n' m') []:=by
 refine N.fnC Tryz.func108 k108 fun Q hQ hQN => ?_
 repeat' (first | refine T.call0 e161 rfl h ?_ | exact ⟨⟩ | intro (K:KT) hK | intro hcd | (refine go1 ?_ ?_ <;> try clear hK K) | fail)
 exact WS.drop (n := 0) rfl rfl
theorem chSk4 {x:Int} {n m n' m':List Int} {t:Int} (h:FnE Tryz.prog 76 [dev (x :: n) m,I x] [] (dev n' m') []):FnE Tryz.prog 28 [.agg (cR nm 4 b s dat),dev (x :: n) m,I t] [] (dev n' m') []:=by
 have e:FnE Tryz.prog 77 [dev (x :: n) m] [] (I x) []:=by
  have hl:¬ ((cells (x :: n)).length:Int) = 0 := by rw [cells_len,List.length_cons]; omega
  refine N.fnC Tryz.func77 k77 fun Q hQ hQN => ?_
  repeat' (first | exact ⟨⟩ | intro (K:KT) hK | intro hcd | (refine go1 ?_ ?_ <;> try clear hK K) | fail)
  exact WS.c rfl rfl
 refine N.fnC Tryz.func28 k28 fun Q hQ hQN => ?_
 repeat' (first | (show WC _ _ _ _ _ _ _ _ _; first | refine T.call0 e77 rfl e ?_ | refine T.call0 e76 rfl h ?_) | exact ⟨⟩ | intro (K:KT) hK | intro hcd | (refine go1 ?_ ?_ <;> try clear hK K) | fail)
 exact WS.drop (n := 0) rfl rfl
theorem chNx4 {n m:List Int}:FnE Tryz.prog 73 [.agg (cR nm 4 b s dat),dev n m] [] (I 100000) []:=by
 refine N.fnC Tryz.func73 k73 fun Q hQ hQN => ?_
 repeat' (first | exact ⟨⟩ | intro (K:KT) hK | intro hcd | (refine go1 ?_ ?_ <;> try clear hK K) | fail)
 exact WS.c rfl rfl
theorem chIq0 {n m:List Int} (k:Int) (hk:k = 0∨k = 1∨k = 2∨k = 4∨k = 6∨k = 7):FnE Tryz.prog 115 [.agg (cR nm k b s dat),dev n m] [] (.c (.bool false)) []:=by
 refine N.fnC Tryz.func115 k115 fun Q hQ hQN => ?_
 repeat' (first | exact ⟨⟩ | intro (K:KT) hK | intro hcd | (refine go1 ?_ ?_ <;> try clear hK K) | fail)
 all_goals first | (exfalso; omega) | exact WS.c rfl rfl
theorem chOt0 {n m:List Int} (k:Int) (hk:k = 0∨k = 1∨k = 2∨k = 3):FnE Tryz.prog 68 [.agg (cR nm k b s dat),dev n m] [] (I 0) []:=by
 refine N.fnC Tryz.func68 k68 fun Q hQ hQN => ?_
 repeat' (first | exact ⟨⟩ | intro (K:KT) hK | intro hcd | (refine go1 ?_ ?_ <;> try clear hK K) | fail)
 all_goals first | (exfalso; omega) | exact WS.c rfl rfl
theorem chNx0 {n m:List Int} (k:Int) (hk:k = 0∨k = 1∨k = 2):FnE Tryz.prog 73 [.agg (cR nm k b s dat),dev n m] [] (I 100000) []:=by
 refine N.fnC Tryz.func73 k73 fun Q hQ hQN => ?_
 repeat' (first | exact ⟨⟩ | intro (K:KT) hK | intro hcd | (refine go1 ?_ ?_ <;> try clear hK K) | fail)
 all_goals first | (exfalso; omega) | exact WS.c rfl rfl
theorem chIn0 {n m n' m':List Int} {v:Int} (k:Int) (hk:k = 0∨k = 1∨k = 2) (h:FnE Tryz.prog 28 [.agg (cR nm k b s dat),dev n m,I 0] [] (dev n' m') []):FnE Tryz.prog 108 [.agg (cR nm k b s dat),dev n m,I v] [] (dev n' m') []:=by
 refine N.fnC Tryz.func108 k108 fun Q hQ hQN => ?_
 repeat' (first | refine T.call0 e28 rfl h ?_ | exact ⟨⟩ | intro (K:KT) hK | intro hcd | (refine go1 ?_ ?_ <;> try clear hK K) | fail)
 all_goals first | (exfalso; omega) | exact WS.drop (n := 0) rfl rfl
theorem chSk0 (k:Int) (z:Nat) (hk:k = 0∨k = 1) (hz:z ≤ 4096) (m:List Int) (hm:m.length = z) (t:Int):FnE Tryz.prog 28 [.agg (cR nm k b z dat),dev [] m,I t] [] (dev [] m) []:=by
 have hf := fit_m nm b dat k z hk hz m hm
 refine N.fnC Tryz.func28 k28 fun Q hQ hQN => ?_
 repeat' (first | refine T.callN e74 rfl (hf) (by simp) ?_ | exact ⟨⟩ | intro (K:KT) hK | intro hcd | (refine go1 ?_ ?_ <;> try clear hK K) | fail)
 all_goals first | (exfalso; omega) | exact WS.devR (m := m) rfl (by omega)
theorem chRd0 (k:Int) (z:Nat) (hk:k = 0∨k = 1) (hz:z ≤ 4096) (m:List Int) (hm:m.length = z) (hb:Bytes m) (a:Int) (ha:0 ≤ a∧a < z):FnE Tryz.prog 71 [.agg (cR nm k b z dat),dev [] m,I a] [] (.tup [dev [] m,I (m.getD a.toNat 0)]) []:=by
 have hf := read_m nm b dat k z hk hz m hm hb a ha
 refine N.fnC Tryz.func71 k71 fun Q hQ hQN => ?_
 repeat' (first | refine T.call0 e125 rfl hf ?_ | exact ⟨⟩ | intro (K:KT) hK | intro hcd | (refine go1 ?_ ?_ <;> try clear hK K) | fail)
 all_goals first | (exfalso; omega) | exact WS.drop (n := 0) rfl rfl
theorem chWr0 (z:Nat) (hz:z ≤ 4096) (m:List Int) (hm:m.length = z) (a:Int) (ha:0 ≤ a∧a < z) (v:Int):FnE Tryz.prog 72 [.agg (cR nm 0 b z dat),dev [] m,I a,I v] [] (dev [] (m.set a.toNat (v % 256))) []:=by
 have hf := write_m0 nm b dat z hz m hm a ha v
 refine N.fnC Tryz.func72 k72 fun Q hQ hQN => ?_
 repeat' (first | refine T.call0 e132 rfl hf ?_ | exact ⟨⟩ | intro (K:KT) hK | intro hcd | (refine go1 ?_ ?_ <;> try clear hK K) | fail)
 exact WS.drop (n := 0) rfl rfl
theorem chWr1 (z:Nat) (hz:z ≤ 4096) (m:List Int) (hm:m.length = z) (a:Int) (ha:0 ≤ a∧a < z) (v:Int):FnE Tryz.prog 72 [.agg (cR nm 1 b z dat),dev [] m,I a,I v] [] (dev [] m) []:=by
 have hf := write_m1 nm b dat z hz m hm a ha v
 refine N.fnC Tryz.func72 k72 fun Q hQ hQN => ?_
 repeat' (first | refine T.call0 e132 rfl hf ?_ | exact ⟨⟩ | intro (K:KT) hK | intro hcd | (refine go1 ?_ ?_ <;> try clear hK K) | fail)
 exact WS.drop (n := 0) rfl rfl
theorem chSk2 (nb:Nat) (h1:1 ≤ nb∧nb ≤ 3) (hd:dat.length = 8 * nb) (n:Int) (hn:0 ≤ n∧n < nb) (m:List Int) (hm:m.length = 8 * nb) (t:Int):FnE Tryz.prog 28 [.agg (cR nm 2 b 9 dat),dev [n] m,I t] [] (dev [n] m) []:=by
 have hf := fit_k nm b dat nb h1 hd n hn m hm
 refine N.fnC Tryz.func28 k28 fun Q hQ hQN => ?_
 repeat' (first | refine T.callN e74 rfl (hf) (by simp) ?_ | exact ⟨⟩ | intro (K:KT) hK | intro hcd | (refine go1 ?_ ?_ <;> try clear hK K) | fail)
 exact WS.dev2 (n := [n]) (m := m) rfl rfl lb rfl (Nat.le_refl _)
theorem chRd2 (nb:Nat) (h1:1 ≤ nb∧nb ≤ 3) (hd:dat.length = 8 * nb) (n:Int) (hn:0 ≤ n∧n < nb) (m:List Int) (hm:m.length = 8 * nb) (hb:Bytes m) (a:Int) (ha:0 ≤ a∧a < 9):FnE Tryz.prog 71 [.agg (cR nm 2 b 9 dat),dev [n] m,I a] [] (.tup [dev [n] m,I (rdK n m a)]) []:=by
 have hf := read_k nm b dat nb h1 hd n hn m hm hb a ha
 refine N.fnC Tryz.func71 k71 fun Q hQ hQN => ?_
 repeat' (first | refine T.call0 e125 rfl hf ?_ | exact ⟨⟩ | intro (K:KT) hK | intro hcd | (refine go1 ?_ ?_ <;> try clear hK K) | fail)
 exact WS.drop (n := 0) rfl rfl
theorem chWr2 (nb:Nat) (h1:1 ≤ nb∧nb ≤ 3) (hd:dat.length = 8 * nb) (n:Int) (hn:0 ≤ n∧n < nb) (m:List Int) (hm:m.length = 8 * nb) (a:Int) (ha:0 ≤ a∧a < 9) (v:Int) (n' m':List Int) (he:(if a = 0 then dev [v % 256 % nb] m else dev [n] (m.set (n * 8 + a - 1).toNat (v % 256))) = dev n' m'):FnE Tryz.prog 72 [.agg (cR nm 2 b 9 dat),dev [n] m,I a,I v] [] (dev n' m') []:=by
 have hf := write_k nm b dat nb h1 hd n hn m hm a ha v
 rw [he] at hf
 refine N.fnC Tryz.func72 k72 fun Q hQ hQN => ?_
 repeat' (first | refine T.call0 e132 rfl hf ?_ | exact ⟨⟩ | intro (K:KT) hK | intro hcd | (refine go1 ?_ ?_ <;> try clear hK K) | fail)
 exact WS.drop (n := 0) rfl rfl
end
end Go.Proofs.YtonhglhdlgbcnacGreat.Calc
