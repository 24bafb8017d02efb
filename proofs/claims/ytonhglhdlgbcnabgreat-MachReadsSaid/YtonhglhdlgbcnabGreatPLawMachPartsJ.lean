/- Several texts in one (FnSerial, FnVideo, FnVideoB, PureSound, FnSound, FnSoundB, FnDriveC), for the proof of LawMachParts. No condition beyond those in each lemma. -/
import Derived.Test.YtonhglhdlgbcnabGreatPLawMachPartsE
import Derived.Test.YtonhglhdlgbcnabGreatPLawMachPartsD
import Derived.Test.YtonhglhdlgbcnabGreatPLawMachPartsH
import Derived.RowKit
import Derived.Test.YtonhglhdlgbcnabGreatPLawMachPartsI
namespace Go.Proofs.YtonhglhdlgbcnabGreat.Calc
open Go Code
set_option linter.unusedSimpArgs false
set_option linter.unusedVariables false
set_option maxRecDepth 20000
set_option maxHeartbeats 2000000
attribute [local irreducible] WOpsT AW AK RK AKW
abbrev SerOk (s l g f o c n z:Int):Prop := (0 ≤ s∧s < 256)∧(0 ≤ l∧l < 64)∧(0 ≤ g∧g < 256)∧(0 ≤ f∧f < 2)∧(0 ≤ o∧o < 2)∧(0 ≤ c∧c < 4)∧(0 ≤ n∧n < 1048576)∧(0 ≤ z∧z < 256)
theorem serfit (s l g f o c n z:Int) (m:List Int) (h:SerOk s l g f o c n z):FnE Tryz.prog 132 [dev [s,l,g,f,o,c,n,z] m] [] (.psl 0 1 0 8) [⟨1,1,cells [s,l,g,f,o,c,n,z]⟩]:=by
 refine N.fnC Tryz.func132 k132 fun Q hQ hQN => ?_
 repeat' (first | (show AK _ _ (.loop _) _ _ _ _; refine N.unroll 9 ?_) | (show WC _ _ _ _ _ _ _ _ _; first | refine T.call0 e27 rfl (low_in _ 8 8 rfl (by decide) (by omega)) ?_ | refine T.call0 e27 rfl (low_in _ 6 6 rfl (by decide) (by omega)) ?_ | refine T.call0 e27 rfl (low_in _ 1 1 rfl (by decide) (by omega)) ?_ | refine T.call0 e27 rfl (low_in _ 2 2 rfl (by decide) (by omega)) ?_ | refine T.call0 e27 rfl (low_in _ 20 20 rfl (by decide) (by omega)) ?_) | exact ⟨⟩ | intro (K:KT) hK | intro hcd | (refine go1 ?_ ?_ <;> try clear hK K) | fail)
 exact WS.keep1 rfl rfl
theorem sernew_ok:FnE Tryz.prog 52 [] [] (dev [0,0,0,0,0,0,0,0] []) []:=by
 refine N.fnC Tryz.func52 k52 fun Q hQ hQN => ?_
 repeat' (first | exact ⟨⟩ | intro (K:KT) hK | intro hcd | (refine go1 ?_ ?_ <;> try clear hK K) | fail)
 exact WS.devN (m := 1) rfl rfl
theorem truth_ok (p:Prop) [Decidable p]:FnE Tryz.prog 139 [.c (.bool (decide p))] [] (I (if p then 1 else 0)) []:=by
 refine N.fnC Tryz.func139 k139 fun Q hQ hQN => ?_
 repeat' (first | exact ⟨⟩ | intro (K:KT) hK | intro hcd | (refine go1 ?_ ?_ <;> try clear hK K) | fail)
 ·exact WS.c rfl (by rw [if_pos (by assumption)])
 ·exact WS.c rfl (by rw [if_neg (by assumption)])
theorem serread0_ok (s l g f o c n z:Int) (m:List Int) (h:SerOk s l g f o c n z):FnE Tryz.prog 80 [dev [s,l,g,f,o,c,n,z] m,I 0] [] (.tup [dev [s,l,g,0,o,c,n,z] [],I g]) []:=by
 refine N.fnC Tryz.func80 k80 fun Q hQ hQN => ?_
 repeat' (first | refine T.callN e132 rfl (serfit _ _ _ _ _ _ _ _ _ h) (by simp) ?_ | exact ⟨⟩ | intro (K:KT) hK | intro hcd | (refine go1 ?_ ?_ <;> try clear hK K) | fail)
 exact WS.devN2 (m := 1) rfl rfl
theorem status_bits (f o t:Int) (hf:0 ≤ f∧f < 2) (ho:0 ≤ o∧o < 2) (ht:0 ≤ t∧t < 2):bits .or .i64 (bits .or .i64 f (IntKind.wrap .i64 (t * 2 ^ min (Int.toNat 1) IntKind.i64.bits))) (IntKind.wrap .i64 (o * 2 ^ min (Int.toNat 2) IntKind.i64.bits)) = f + 2 * t + 4 * o:=by
 have h1:f = 0∨f = 1 := by omega
 have h2:o = 0∨o = 1 := by omega
 have h3:t = 0∨t = 1 := by omega
 rcases h1 with rfl | rfl <;> rcases h2 with rfl | rfl <;> rcases h3 with rfl | rfl <;> decide +kernel
theorem serread1_ok (s l g f o c n z:Int) (m:List Int) (h:SerOk s l g f o c n z):FnE Tryz.prog 80 [dev [s,l,g,f,o,c,n,z] m,I 1] [] (.tup [dev [s,l,g,f,0,c,n,z] [],I (f + 2 * (if l > 0 then 1 else 0) + 4 * o)]) []:=by
 refine N.fnC Tryz.func80 k80 fun Q hQ hQN => ?_
 have hb := status_bits f o (if l > 0 then 1 else 0) (by omega) (by omega) (by split <;> decide)
 repeat' (first | (show WC _ _ _ _ _ _ _ _ _; first | refine T.callN e132 rfl (serfit _ _ _ _ _ _ _ _ _ h) (by simp) ?_ | refine T.call0 e139 rfl (truth_ok _) ?_) | exact ⟨⟩ | intro (K:KT) hK | intro hcd | (refine go1 ?_ ?_ <;> try clear hK K) | fail)
 refine WS.devN2 (m := 1) rfl ?_
 rw [← hb]; rfl
theorem serread2_ok (s l g f o c n z:Int) (m:List Int) (h:SerOk s l g f o c n z):FnE Tryz.prog 80 [dev [s,l,g,f,o,c,n,z] m,I 2] [] (.tup [dev [s,l,g,f,o,c,n,z] [],I c]) []:=by
 refine N.fnC Tryz.func80 k80 fun Q hQ hQN => ?_
 repeat' (first | refine T.callN e132 rfl (serfit _ _ _ _ _ _ _ _ _ h) (by simp) ?_ | exact ⟨⟩ | intro (K:KT) hK | intro hcd | (refine go1 ?_ ?_ <;> try clear hK K) | fail)
 exact WS.devN2 (m := 1) rfl rfl
theorem serw0_ok (s l g f o c n z v:Int) (m:List Int) (h:SerOk s l g f o c n z):FnE Tryz.prog 73 [dev [s,l,g,f,o,c,n,z] m,I 0,I v] [] (dev (if l = 0 then [v % 2 ^ 8,40,g,f,o,c,n,z] else [s,l,g,f,o,c,n,z]) []) []:=by
 refine N.fnC Tryz.func73 k73 fun Q hQ hQN => ?_
 repeat' (first | (show WC _ _ _ _ _ _ _ _ _; first | refine T.callN e132 rfl (serfit _ _ _ _ _ _ _ _ _ h) (by simp) ?_ | refine T.call0 e27 rfl (low_lit _ 8 8 rfl (by decide)) ?_) | exact ⟨⟩ | intro (K:KT) hK | intro hcd | (refine go1 ?_ ?_ <;> try clear hK K) | fail)
 ·refine WS.devN (m := 1) rfl ?_; rw [if_pos (by assumption)]; rfl
 ·refine WS.devN (m := 1) rfl ?_; rw [if_neg (by assumption)]; rfl
theorem serw2_ok (s l g f o c n z v:Int) (m:List Int) (h:SerOk s l g f o c n z):FnE Tryz.prog 73 [dev [s,l,g,f,o,c,n,z] m,I 2,I v] [] (dev [s,l,g,f,o,v % 2 ^ 2,n,z] []) []:=by
 refine N.fnC Tryz.func73 k73 fun Q hQ hQN => ?_
 repeat' (first | (show WC _ _ _ _ _ _ _ _ _; first | refine T.callN e132 rfl (serfit _ _ _ _ _ _ _ _ _ h) (by simp) ?_ | refine T.call0 e27 rfl (low_lit _ 2 2 rfl (by decide)) ?_) | exact ⟨⟩ | intro (K:KT) hK | intro hcd | (refine go1 ?_ ?_ <;> try clear hK K) | fail)
 exact WS.devN (m := 1) rfl rfl
theorem serin_ok (s l g f o c n z v:Int) (m:List Int) (h:SerOk s l g f o c n z):FnE Tryz.prog 148 [dev [s,l,g,f,o,c,n,z] m,I v] [] (dev (if f = 1 then [s,l,g,f,1,c,n,z] else [s,l,v % 2 ^ 8,1,o,c,n,z]) []) []:=by
 refine N.fnC Tryz.func148 k148 fun Q hQ hQN => ?_
 repeat' (first | (show WC _ _ _ _ _ _ _ _ _; first | refine T.callN e132 rfl (serfit _ _ _ _ _ _ _ _ _ h) (by simp) ?_ | refine T.call0 e27 rfl (low_lit _ 8 8 rfl (by decide)) ?_) | exact ⟨⟩ | intro (K:KT) hK | intro hcd | (refine go1 ?_ ?_ <;> try clear hK K) | fail)
 ·refine WS.devN (m := 1) rfl ?_; rw [if_pos (by assumption)]; rfl
 ·refine WS.devN (m := 1) rfl ?_; rw [if_neg (by assumption)]; rfl
def serSkip (s l g f o c n z k:Int):List Int := if k ≤ 0∨l = 0 then [s,l,g,f,o,c,n,z] else if k < l then [s,l - k,g,f,o,c,n,z] else [s,0,g,f,o,c,(n + 1) % 2 ^ 20,s]
theorem serskip_ok (s l g f o c n z k:Int) (m:List Int) (h:SerOk s l g f o c n z):FnE Tryz.prog 168 [dev [s,l,g,f,o,c,n,z] m,I k] [] (dev (serSkip s l g f o c n z k) []) []:=by
 refine N.fnC Tryz.func168 k168 fun Q hQ hQN => ?_
 repeat' (first | (show WC _ _ _ _ _ _ _ _ _; first | refine T.callN e132 rfl (serfit _ _ _ _ _ _ _ _ _ h) (by simp) ?_ | refine T.call0 e27 rfl (low_lit _ 20 20 rfl (by decide)) ?_) | exact ⟨⟩ | intro (K:KT) hK | intro hcd | (refine go1 ?_ ?_ <;> try clear hK K) | fail)
 all_goals (refine WS.devN (m := 1) rfl ?_; simp only [serSkip]; (repeat' split) <;> first | (exfalso; omega) | rfl)
theorem serout_ok (s l g f o c n z:Int) (m:List Int) (h:SerOk s l g f o c n z):FnE Tryz.prog 123 [dev [s,l,g,f,o,c,n,z] m] [] (I (256 * n + z)) []:=by
 refine N.fnC Tryz.func123 k123 fun Q hQ hQN => ?_
 have e:IntKind.wrap .i64 (256 * n) = 256 * n := wrap64 (by omega) (by omega)
 repeat' (first | rw [e] | refine T.callN e132 rfl (serfit _ _ _ _ _ _ _ _ _ h) (by simp) ?_ | exact ⟨⟩ | intro (K:KT) hK | intro hcd | (refine go1 ?_ ?_ <;> try clear hK K) | fail)
 exact WS.c rfl rfl
theorem ser_bits (c:Int) (h:0 ≤ c∧c < 4):bits .and .i64 c 1 = c % 2∧bits .and .i64 c 2 = c / 2 * 2:=by
 have:c = 0∨c = 1∨c = 2∨c = 3 := by omega
 rcases this with rfl | rfl | rfl | rfl <;> decide +kernel
theorem serirq_ok (s l g f o c n z:Int) (m:List Int) (h:SerOk s l g f o c n z):FnE Tryz.prog 155 [dev [s,l,g,f,o,c,n,z] m] [] (.c (.bool (decide ((c % 2 = 1∧f = 1)∨(2 ≤ c∧l = 0))))) []:=by
 refine N.fnC Tryz.func155 k155 fun Q hQ hQN => ?_
 obtain ⟨g1,g2⟩ := ser_bits c (by omega)
 repeat' (first | rw [g1] | rw [g2] | refine T.callN e132 rfl (serfit _ _ _ _ _ _ _ _ _ h) (by simp) ?_ | exact ⟨⟩ | intro (K:KT) hK | intro hcd | (refine go1 ?_ ?_ <;> try clear hK K) | fail)
 all_goals (refine WS.bool rfl ?_; simp only [decide_eq_true_eq,Bool.false_eq_true,false_iff,true_iff] <;> omega)
end Go.Proofs.YtonhglhdlgbcnabGreat.Calc
namespace Go.Proofs.YtonhglhdlgbcnabGreat.Calc
open Go Code
set_option linter.unusedSimpArgs false
set_option linter.unusedVariables false
set_option maxRecDepth 20000
set_option maxHeartbeats 4000000
attribute [local irreducible] WOpsT AW AK RK AKW UK UC
theorem tdiv_pos (a b:Int) (h:0 ≤ a∧a < 4611686018427387904) (hb:0 < b):IntKind.wrap .i64 (a.tdiv b) = a / b:=by
 rw [Int.tdiv_eq_ediv_of_nonneg h.1]
 have h1 := Int.ediv_nonneg h.1 (show 0 ≤ b by omega)
 have h2 := Int.ediv_le_self b h.1
 exact wrap64 (by omega) (by omega)
theorem tmod_pos (a b:Int) (h:0 ≤ a):a.tmod b = a % b := Int.tmod_eq_emod_of_nonneg h
theorem vidfit (p h:Int) (m:List Int) (hp:0 ≤ p∧p < 2560) (hh:0 ≤ h∧h < 2) (hm:m.length = 32):FnE Tryz.prog 133 [dev [p,h] m] [] (.tup [I p,I h,.psl 0 1 0 32]) [memB m]:=by
 refine N.fnC Tryz.func133 k133 fun Q hQ hQN => ?_
 have e1:p.tmod 2560 = p := by rw [tmod_pos _ _ hp.1]; omega
 have e2:(p + 2560).tmod 2560 = p := by rw [tmod_pos _ _ (by omega)]; omega
 have e3:List.take 32 (bcells m) ++ List.drop (min (bcells m).length 32) (List.replicate 32 [V.c (.int .u8 0)]) = bcells m:=by
  rw [bcells_len,hm,bcells_take,List.take_of_length_le (by omega)]; simp
 repeat' (first | rw [e1] | rw [e2] | refine T.call0 e27 rfl (low_in _ 1 1 rfl (by decide) (by omega)) ?_ | exact ⟨⟩ | intro (K:KT) hK | intro hcd | (refine go1 ?_ ?_ <;> try clear hK K) | fail)
 rw [e3]
 exact WS.gc [1] 1 rfl (by simp [outH,outB,bcells_out]) .rfl
theorem vidmade (p h:Int) (m:List Int):FnE Tryz.prog 107 [I p,I h,.psl 0 1 0 32] [memB m] (.agg [.psl 1 1 0 2,.psl 0 1 0 32]) [memB m,⟨1,1,cells [p,h]⟩]:=by
 refine N.fnC Tryz.func107 k107 fun Q hQ hQN => ?_
 repeat' (first | exact ⟨⟩ | intro (K:KT) hK | intro hcd | (refine go1 ?_ ?_ <;> try clear hK K) | fail)
 exact WS.gc [0,2] 1 rfl (by simp [outH,outB,bcells_out]; rfl) .rfl
theorem vidnew_ok:FnE Tryz.prog 53 [] [] (dev [2559,0] (List.replicate 32 0)) []:=by
 refine N.fnC Tryz.func53 k53 fun Q hQ hQN => ?_
 repeat' (first | refine T.cP [1] e107 (vidmade _ _ (List.replicate 32 0)) ?_ | exact ⟨⟩ | intro (K:KT) hK | intro hcd | (refine go1 ?_ ?_ <;> try clear hK K) | fail)
 exact WS.dev2 rfl rfl (by decide) rfl (by decide)
def vvis (p:Int):Prop := p % 64 < 48∧p / 64 < 32
instance (p:Int):Decidable (vvis p) := by unfold vvis; exact inferInstance
def vcell (m:List Int) (p:Int):Int := m.getD (8 + p / 64 / 8 * 6 + p % 64 / 8).toNat 0 % 16
def vspr (m:List Int) (p:Int):Prop := 0 ≤ p % 64 - m.getD 1 0∧p % 64 - m.getD 1 0 < 8∧0 ≤ p / 64 - m.getD 2 0∧p / 64 - m.getD 2 0 < 8∧m.getD 4 0 / 2 ^ (7 - (p % 64 - m.getD 1 0)).toNat % 2 = 1
instance (m:List Int) (p:Int):Decidable (vspr m p) := by unfold vspr; exact inferInstance
def vcol (m:List Int) (p:Int):Int := if ¬ vvis p then m.getD 0 0 % 16 else if vspr m p then m.getD 3 0 % 16 else vcell m p
def vhit (m:List Int) (p:Int):Prop := vvis p∧vspr m p∧vcell m p ≠ 0
instance (m:List Int) (p:Int):Decidable (vhit m p) := by unfold vhit; exact inferInstance
theorem vidvis_ok (p:Int) (hp:0 ≤ p∧p < 2560):FnE Tryz.prog 190 [I p] [] (.c (.bool (decide (vvis p)))) []:=by
 refine N.fnC Tryz.func190 k190 fun Q hQ hQN => ?_
 have e1 := tmod_pos p 64 hp.1
 have e2 := tdiv_pos p 64 (by omega) (by decide)
 repeat' (first | rw [e1] | rw [e2] | exact ⟨⟩ | intro (K:KT) hK | intro hcd | (refine go1 ?_ ?_ <;> try clear hK K) | fail)
 all_goals (refine WS.bool rfl ?_; simp only [decide_eq_true_eq,Bool.false_eq_true,false_iff]; unfold vvis; omega)
theorem and15 (a:Int):bits .and .i64 a 15 = a % 16 := BA.low_eq a 4 (by decide)
theorem vidcell_ok (m:List Int) (p:Int) (hp:0 ≤ p∧p < 2560) (hv:vvis p) (hm:m.length = 32) (hB:Bytes m):FnE Tryz.prog 192 [.psl 0 1 0 32,I p] [memB m] (I (vcell m p)) [memB m]:=by
 unfold vvis at hv
 refine N.fnC Tryz.func192 k192 fun Q hQ hQN => ?_
 have e1 := tmod_pos p 64 hp.1
 have e2 := tdiv_pos p 64 (by omega) (by decide)
 have e3 := tdiv_pos (p / 64) 8 (by omega) (by decide)
 have e4 := tdiv_pos (p % 64) 8 (by omega) (by decide)
 have hi:(8 + p / 64 / 8 * 6 + p % 64 / 8).toNat < m.length := by omega
 have hg := bget hi
 have hb := hB (8 + p / 64 / 8 * 6 + p % 64 / 8).toNat
 have hw:IntKind.wrap .i64 (m.getD (8 + p / 64 / 8 * 6 + p % 64 / 8).toNat 0) = m.getD (8 + p / 64 / 8 * 6 + p % 64 / 8).toNat 0 := wrap64 (by omega) (by omega)
 repeat' (first | rw [e1] | rw [e2] | rw [e3] | rw [e4] | (show WOpsT _ (⟨_,.ld _ _,none⟩ :: _) _ _ _ _; refine T.ld rfl rfl rfl hg rfl ?_) | rw [hw] | rw [and15] | exact ⟨⟩ | intro (K:KT) hK | intro hcd | (refine go1 ?_ ?_ <;> try clear hK K) | fail)
 exact WS.gc [0] 1 rfl (by simp [outH,outB,bcells_out]) .rfl
theorem and_u8 (a:Int) (h:0 ≤ a∧a < 256):bits .and .u8 a 1 = a % 2:=by
 obtain ⟨n,rfl⟩:∃ n:Nat,a = n := ⟨a.toNat,by omega⟩
 have:∀ n:Fin 256,bits .and .u8 ((n.val:Nat):Int) 1 = (n.val:Int) % 2 := by decide +kernel
 exact this ⟨n,by omega⟩
theorem vidspr_ok (m:List Int) (p:Int) (hp:0 ≤ p∧p < 2560) (hm:m.length = 32) (hB:Bytes m):FnE Tryz.prog 191 [.psl 0 1 0 32,I p] [memB m] (.c (.bool (decide (vspr m p)))) [memB m]:=by
 refine N.fnC Tryz.func191 k191 fun Q hQ hQN => ?_
 have e1 := tmod_pos p 64 hp.1
 have e2 := tdiv_pos p 64 (by omega) (by decide)
 have g1 := bget (m := m) (i := 1) (by omega)
 have g2 := bget (m := m) (i := 2) (by omega)
 have g4 := bget (m := m) (i := 4) (by omega)
 have b1 := hB 1
 have b2 := hB 2
 have b4 := hB 4
 have w1:IntKind.wrap .i64 (m.getD 1 0) = m.getD 1 0 := wrap64 (by omega) (by omega)
 have w2:IntKind.wrap .i64 (m.getD 2 0) = m.getD 2 0 := wrap64 (by omega) (by omega)
 have hs:0 ≤ p % 64 - m.getD 1 0∧p % 64 - m.getD 1 0 < 8→bits .and .u8 (m.getD 4 0 / 2 ^ min (7 - (p % 64 - m.getD 1 0)).toNat IntKind.u8.bits) 1 = m.getD 4 0 / 2 ^ (7 - (p % 64 - m.getD 1 0)).toNat % 2:=by
  intro hx
  have:min (7 - (p % 64 - m.getD 1 0)).toNat IntKind.u8.bits = (7 - (p % 64 - m.getD 1 0)).toNat:=by
   have:IntKind.u8.bits = 8 := rfl
   omega
  rw [this]
  refine and_u8 _ ⟨Int.ediv_nonneg b4.1 (Int.le_of_lt (Int.pow_pos (by decide))),?_⟩
  exact Int.lt_of_le_of_lt (Int.ediv_le_self _ b4.1) b4.2
 repeat' (first | rw [e1] | rw [e2] | (show WOpsT _ (⟨_,.ld _ _,none⟩ :: _) _ _ _ _; refine T.ld rfl rfl rfl g1 rfl ?_) | (show WOpsT _ (⟨_,.ld _ _,none⟩ :: _) _ _ _ _; refine T.ld rfl rfl rfl g2 rfl ?_) | (show WOpsT _ (⟨_,.ld _ _,none⟩ :: _) _ _ _ _; refine T.ld rfl rfl rfl g4 rfl ?_) | rw [w1] | rw [w2] | rw [hs (by omega)] | exact ⟨⟩ | intro (K:KT) hK | intro hcd | (refine go1 ?_ ?_ <;> try clear hK K) | fail)
 all_goals (refine WS.gc [0] 1 rfl (by simp [outH,outB,bcells_out]) ?_; refine Sub.b ?_; simp only [decide_eq_true_eq,Bool.false_eq_true,false_iff]; unfold vspr; omega)
theorem vidcol_ok (m:List Int) (p:Int) (hp:0 ≤ p∧p < 2560) (hm:m.length = 32) (hB:Bytes m):FnE Tryz.prog 172 [.psl 0 1 0 32,I p] [memB m] (I (vcol m p)) [memB m]:=by
 refine N.fnC Tryz.func172 k172 fun Q hQ hQN => ?_
 have g0 := bget (m := m) (i := 0) (by omega)
 have g3 := bget (m := m) (i := 3) (by omega)
 have b0 := hB 0
 have b3 := hB 3
 have w0:IntKind.wrap .i64 (m.getD 0 0) = m.getD 0 0 := wrap64 (by omega) (by omega)
 have w3:IntKind.wrap .i64 (m.getD 3 0) = m.getD 3 0 := wrap64 (by omega) (by omega)
 by_cases hv:vvis p
 ·by_cases hs:vspr m p
  ·skip
   repeat' (first | (show WOpsT _ (⟨_,.ld _ _,none⟩ :: _) _ _ _ _; refine T.ld rfl rfl rfl g3 rfl ?_) | rw [w3] | rw [and15] | refine N.cF rfl (fun h => h hv) ?_ | refine N.cT rfl hs ?_ | (show WC _ _ _ _ _ _ _ _ _; first | refine T.call0 e190 rfl (vidvis_ok p hp) ?_ | refine T.cP [0] e191 (vidspr_ok m p hp hm hB) ?_) | exact ⟨⟩ | intro (K:KT) hK | intro hcd | (refine go1 ?_ ?_ <;> try clear hK K) | fail)
   exact WS.gc [0] 1 rfl (by simp [outH,outB,bcells_out]) (by rw [vcol,if_neg (fun h => h hv),if_pos hs]; exact .rfl)
  ·skip
   repeat' (first | refine N.cF rfl (fun h => h hv) ?_ | refine N.cF rfl hs ?_ | (show WC _ _ _ _ _ _ _ _ _; first | refine T.call0 e190 rfl (vidvis_ok p hp) ?_ | refine T.cP [0] e191 (vidspr_ok m p hp hm hB) ?_ | refine T.cP [0] e192 (vidcell_ok m p hp hv hm hB) ?_) | exact ⟨⟩ | intro (K:KT) hK | intro hcd | (refine go1 ?_ ?_ <;> try clear hK K) | fail)
   exact WS.gc [0] 1 rfl (by simp [outH,outB,bcells_out]) (by rw [vcol,if_neg (fun h => h hv),if_neg hs]; exact .rfl)
 ·skip
  repeat' (first | (show WOpsT _ (⟨_,.ld _ _,none⟩ :: _) _ _ _ _; refine T.ld rfl rfl rfl g0 rfl ?_) | rw [w0] | rw [and15] | refine N.cT rfl hv ?_ | refine T.call0 e190 rfl (vidvis_ok p hp) ?_ | exact ⟨⟩ | intro (K:KT) hK | intro hcd | (refine go1 ?_ ?_ <;> try clear hK K) | fail)
  exact WS.gc [0] 1 rfl (by simp [outH,outB,bcells_out]) (by rw [vcol,if_pos hv]; exact .rfl)
theorem vidhit_ok (m:List Int) (p:Int) (hp:0 ≤ p∧p < 2560) (hm:m.length = 32) (hB:Bytes m):FnE Tryz.prog 186 [.psl 0 1 0 32,I p] [memB m] (.c (.bool (decide (vhit m p)))) [memB m]:=by
 refine N.fnC Tryz.func186 k186 fun Q hQ hQN => ?_
 by_cases hv:vvis p
 ·by_cases hs:vspr m p
  ·skip
   repeat' (first | refine T.goT rfl hv ?_ | refine T.goT rfl hs ?_ | refine T.pkT rfl hv ?_ | refine T.pkT rfl hs ?_ | (show WC _ _ _ _ _ _ _ _ _; first | refine T.call0 e190 rfl (vidvis_ok p hp) ?_ | refine T.cP [0] e191 (vidspr_ok m p hp hm hB) ?_ | refine T.cP [0] e192 (vidcell_ok m p hp hv hm hB) ?_) | exact ⟨⟩ | intro (K:KT) hK | intro hcd | (refine go1 ?_ ?_ <;> try clear hK K) | fail)
   refine WS.gc [0] 1 rfl (by simp [outH,outB,bcells_out]) (Sub.b ?_)
   simp only [decide_eq_true_eq]; unfold vhit
   exact ⟨fun h => ⟨hv,hs,h⟩,fun h => h.2.2⟩
  ·skip
   repeat' (first | refine T.goT rfl hv ?_ | refine T.paT rfl hs ?_ | refine T.pkT rfl hv ?_ | refine T.pkF rfl hs ?_ | (show WC _ _ _ _ _ _ _ _ _; first | refine T.call0 e190 rfl (vidvis_ok p hp) ?_ | refine T.cP [0] e191 (vidspr_ok m p hp hm hB) ?_) | exact ⟨⟩ | intro (K:KT) hK | intro hcd | (refine go1 ?_ ?_ <;> try clear hK K) | fail)
   refine WS.gc [0] 1 rfl (by simp [outH,outB,bcells_out]) (Sub.b ?_)
   simp only [decide_eq_true_eq,Bool.false_eq_true,false_iff]; unfold vhit
   exact fun h => hs h.2.1
 ·skip
  repeat' (first | refine T.paT rfl hv ?_ | refine T.pkF rfl hv ?_ | refine T.call0 e190 rfl (vidvis_ok p hp) ?_ | exact ⟨⟩ | intro (K:KT) hK | intro hcd | (refine go1 ?_ ?_ <;> try clear hK K) | fail)
  refine WS.gc [0] 1 rfl (by simp [outH,outB,bcells_out]) (Sub.b ?_)
  simp only [decide_eq_true_eq,Bool.false_eq_true,false_iff]; unfold vhit
  exact fun h => hv h.1
structure VidOk (p h:Int) (m:List Int):Prop where
 pos:0 ≤ p∧p < 2560
 hit:0 ≤ h∧h < 2
 len:m.length = 32
 mem:Bytes m
theorem vidout_ok (p h:Int) (m:List Int) (H:VidOk p h m):FnE Tryz.prog 124 [dev [p,h] m] [] (I (vcol m p)) []:=by
 refine N.fnC Tryz.func124 k124 fun Q hQ hQN => ?_
 repeat' (first | (show WC _ _ _ _ _ _ _ _ _; first | refine T.callN e133 rfl (vidfit p h m H.pos H.hit H.len) (by simp) ?_ | refine T.cP [1] e172 (vidcol_ok m p H.pos H.len H.mem) ?_) | exact ⟨⟩ | intro (K:KT) hK | intro hcd | (refine go1 ?_ ?_ <;> try clear hK K) | fail)
 exact WS.c rfl rfl
def vpos (p:Int) (i:Nat):Int := (p + i) % 2560
def vhitN (m:List Int) (p h:Int):Nat→Int
 | 0 => h
 | i + 1 => if vhit m (vpos p (i + 1)) then 1 else vhitN m p h i
theorem vhitN_lt (m:List Int) (p h:Int) (hh:0 ≤ h∧h < 2) (i:Nat):0 ≤ vhitN m p h i∧vhitN m p h i < 2:=by
 induction i with
 | zero => exact hh
 | succ i ih =>
  simp only [vhitN]
  split
  ·decide
  ·exact ih
theorem vpos_lt (p:Int) (i:Nat):0 ≤ vpos p i∧vpos p i < 2560 := by unfold vpos; omega
theorem vpos_step (p:Int) (i:Nat):(vpos p i + 1).tmod 2560 = vpos p (i + 1):=by
 have := vpos_lt p i
 rw [tmod_pos _ _ (by omega)]
 unfold vpos; omega
def vrounds (k:Int):Nat := (if k > 5120 then 2560 + k % 2560 else k).toNat
theorem vidskip_ok (p h k:Int) (m:List Int) (H:VidOk p h m):FnE Tryz.prog 169 [dev [p,h] m,I k] [] (dev [vpos p (vrounds k),vhitN m p h (vrounds k)] m) []:=by
 refine N.fnC Tryz.func169 k169 fun Q hQ hQN => ?_
 have ek (hk:k > 5120):k.tmod 2560 = k % 2560 := tmod_pos k 2560 (by omega)
 by_cases hk:k > 5120
 ·have hr:vrounds k = (2560 + k % 2560).toNat := by unfold vrounds; rw [if_pos hk]
  repeat' (first | rw [ek (by assumption)] | refine T.callN e133 rfl (vidfit p h m H.pos H.hit H.len) (by simp) ?_ | exact ⟨⟩ | intro (K:KT) hK | intro hcd | (refine go1 ?_ ?_ <;> try clear hK K) | fail)
  refine N.loop (σ := Nat) (fun i => [(4,.ptr 1 1 0 0),(5,I (vpos p i)),(6,I (vhitN m p h i)),(7,.psl 2 1 0 32),(19,I (2560 + k % 2560)),(20,I i)]) (fun i => [⟨1,2,[[.sl 1 (cells [p,h]),.sl 1 (bcells m)]]⟩,⟨1,2,[[.c (.slice none 0 0),.c (.slice none 0 0)]]⟩,memB m]) (fun i => i ≤ (2560 + k % 2560).toNat) (fun i => (2560 + k % 2560).toNat - i) 0 (Nat.zero_le _) (Weaks.sel (by rw [show vpos p 0 = p by have := H.pos; unfold vpos; omega]; exact (by exact sB)) rfl) fun i hi C hC => ?_
  have hs := vpos_step p i
  have hl := vpos_lt p i
  have hl1 := vpos_lt p (i + 1)
  by_cases hv:vhit m (vpos p (i + 1))
  ·skip
   repeat' (first | rw [hs] | refine N.cT rfl hv ?_ | refine T.cP [2] e186 (vidhit_ok m _ hl1 H.len H.mem) ?_ | exact ⟨⟩ | intro (K:KT) hK | intro hcd | (refine go1 ?_ ?_ <;> try clear hK K) | fail)
   ·refine hC _ _ (i + 1) (by omega) (by omega) (Weaks.sel (by rw [show vhitN m p h (i + 1) = 1 by simp only [vhitN]; rw [if_pos hv]]; exact (by exact sB)) rfl)
   ·obtain rfl:i = (2560 + k % 2560).toNat := by omega
    rw [← hr]
    repeat' (first | refine T.cP [2] e107 (vidmade _ _ m) ?_ | exact ⟨⟩ | intro (K:KT) hK | intro hcd | (refine go1 ?_ ?_ <;> try clear hK K) | fail)
    exact WS.dev2 rfl rfl (Nat.le_refl _) rfl (Nat.le_of_eq H.len)
  ·skip
   repeat' (first | rw [hs] | refine N.cF rfl hv ?_ | refine T.cP [2] e186 (vidhit_ok m _ hl1 H.len H.mem) ?_ | exact ⟨⟩ | intro (K:KT) hK | intro hcd | (refine go1 ?_ ?_ <;> try clear hK K) | fail)
   ·refine hC _ _ (i + 1) (by omega) (by omega) (Weaks.sel (by rw [show vhitN m p h (i + 1) = vhitN m p h i by simp only [vhitN]; rw [if_neg hv]]; exact (by exact sB)) rfl)
   ·obtain rfl:i = (2560 + k % 2560).toNat := by omega
    rw [← hr]
    repeat' (first | refine T.cP [2] e107 (vidmade _ _ m) ?_ | exact ⟨⟩ | intro (K:KT) hK | intro hcd | (refine go1 ?_ ?_ <;> try clear hK K) | fail)
    exact WS.dev2 rfl rfl (Nat.le_refl _) rfl (Nat.le_of_eq H.len)
 ·have hr:vrounds k = (k).toNat := by unfold vrounds; rw [if_neg hk]
  repeat' (first | rw [ek (by assumption)] | refine T.callN e133 rfl (vidfit p h m H.pos H.hit H.len) (by simp) ?_ | exact ⟨⟩ | intro (K:KT) hK | intro hcd | (refine go1 ?_ ?_ <;> try clear hK K) | fail)
  refine N.loop (σ := Nat) (fun i => [(4,.ptr 1 1 0 0),(5,I (vpos p i)),(6,I (vhitN m p h i)),(7,.psl 2 1 0 32),(19,I (k)),(20,I i)]) (fun i => [⟨1,2,[[.sl 1 (cells [p,h]),.sl 1 (bcells m)]]⟩,⟨1,2,[[.c (.slice none 0 0),.c (.slice none 0 0)]]⟩,memB m]) (fun i => i ≤ (k).toNat) (fun i => (k).toNat - i) 0 (Nat.zero_le _) (Weaks.sel (by rw [show vpos p 0 = p by have := H.pos; unfold vpos; omega]; exact (by exact sB)) rfl) fun i hi C hC => ?_
  have hs := vpos_step p i
  have hl := vpos_lt p i
  have hl1 := vpos_lt p (i + 1)
  by_cases hv:vhit m (vpos p (i + 1))
  ·skip
   repeat' (first | rw [hs] | refine N.cT rfl hv ?_ | refine T.cP [2] e186 (vidhit_ok m _ hl1 H.len H.mem) ?_ | exact ⟨⟩ | intro (K:KT) hK | intro hcd | (refine go1 ?_ ?_ <;> try clear hK K) | fail)
   ·refine hC _ _ (i + 1) (by omega) (by omega) (Weaks.sel (by rw [show vhitN m p h (i + 1) = 1 by simp only [vhitN]; rw [if_pos hv]]; exact (by exact sB)) rfl)
   ·obtain rfl:i = (k).toNat := by omega
    rw [← hr]
    repeat' (first | refine T.cP [2] e107 (vidmade _ _ m) ?_ | exact ⟨⟩ | intro (K:KT) hK | intro hcd | (refine go1 ?_ ?_ <;> try clear hK K) | fail)
    exact WS.dev2 rfl rfl (Nat.le_refl _) rfl (Nat.le_of_eq H.len)
  ·skip
   repeat' (first | rw [hs] | refine N.cF rfl hv ?_ | refine T.cP [2] e186 (vidhit_ok m _ hl1 H.len H.mem) ?_ | exact ⟨⟩ | intro (K:KT) hK | intro hcd | (refine go1 ?_ ?_ <;> try clear hK K) | fail)
   ·refine hC _ _ (i + 1) (by omega) (by omega) (Weaks.sel (by rw [show vhitN m p h (i + 1) = vhitN m p h i by simp only [vhitN]; rw [if_neg hv]]; exact (by exact sB)) rfl)
   ·obtain rfl:i = (k).toNat := by omega
    rw [← hr]
    repeat' (first | refine T.cP [2] e107 (vidmade _ _ m) ?_ | exact ⟨⟩ | intro (K:KT) hK | intro hcd | (refine go1 ?_ ?_ <;> try clear hK K) | fail)
    exact WS.dev2 rfl rfl (Nat.le_refl _) rfl (Nat.le_of_eq H.len)
def NextOf (m:List Int) (p n:Int):Prop := (n = 100000∧∀ j:Nat,j < 2560→vcol m (vpos p (j + 1)) = vcol m p)∨(0 ≤ n∧n < 2560∧(∀ j:Nat,(j:Int) < n→vcol m (vpos p (j + 1)) = vcol m p)∧vcol m (vpos p (n.toNat + 1)) ≠ vcol m p)
theorem nextOf (m:List Int) (p:Int):∃ n,NextOf m p n:=by
 classical
 by_cases h:∃ j:Nat,j < 2560∧vcol m (vpos p (j + 1)) ≠ vcol m p
 ·obtain ⟨j,hj⟩ := h
  have:∀ j:Nat,(j < 2560∧vcol m (vpos p (j + 1)) ≠ vcol m p)→∃ n,NextOf m p n:=by
   intro j
   induction j using Nat.strongRecOn with
   | _ j ih =>
    intro hj
    by_cases h2:∃ i:Nat,i < j∧vcol m (vpos p (i + 1)) ≠ vcol m p
    ·obtain ⟨i,hi,h3⟩ := h2
     exact ih i hi ⟨by omega,h3⟩
    ·refine ⟨j,.inr ⟨by omega,by omega,fun i hi => ?_,hj.2⟩⟩
     by_cases h3:vcol m (vpos p (i + 1)) = vcol m p
     ·exact h3
     ·exact absurd ⟨i,by omega,h3⟩ h2
  exact this j hj
 ·refine ⟨100000,.inl ⟨rfl,fun j hj => ?_⟩⟩
  by_cases h3:vcol m (vpos p (j + 1)) = vcol m p
  ·exact h3
  ·exact absurd ⟨j,hj,h3⟩ h
theorem vidwrite_ok (p h a v:Int) (m:List Int) (H:VidOk p h m):FnE Tryz.prog 74 [dev [p,h] m,I a,I v] [] (dev [p,h] (if 0 ≤ a∧a < 32∧(a < 5∨7 < a) then m.set a.toNat (v % 2 ^ 8) else m)) []:=by
 refine N.fnC Tryz.func74 k74 fun Q hQ hQN => ?_
 have hl := H.len
 have hw:IntKind.wrap .u8 (v % 2 ^ 8) = v % 2 ^ 8:=by
  exact wrap_u8 _ (by omega)
 by_cases ha:0 ≤ a∧a < 32∧(a < 5∨7 < a)
 ·have hg:(bcells m)[0 + a.toNat]? = some [.c (.int .u8 (m.getD (0 + a.toNat) 0))] := bget (by omega)
  have hset:(bcells m).set (0 + a.toNat) (spl [.c (.int .u8 (m.getD (0 + a.toNat) 0))] 0 [.c (.int .u8 (v % 2 ^ 8))]) = bcells (m.set a.toNat (v % 2 ^ 8)):=by
   rw [Nat.zero_add]; exact bcells_set m _ _
  rw [if_pos ha] at hQ
  repeat' (first | rw [hw] | (show WOpsT _ (⟨_,.st _ _ _,none⟩ :: _) _ _ _ _; refine T.st rfl rfl rfl ⟨rfl,rfl⟩ hg (Nat.le_of_ble_eq_true rfl) ?_) | rw [hset] | (show WC _ _ _ _ _ _ _ _ _; first | refine T.callN e133 rfl (vidfit p h m H.pos H.hit H.len) (by simp) ?_ | refine T.call0 e27 rfl (low_lit _ 8 8 rfl (by decide)) ?_ | refine T.cP [2] e107 (vidmade _ _ (m.set a.toNat (v % 2 ^ 8))) ?_) | exact ⟨⟩ | intro (K:KT) hK | intro hcd | (refine go1 ?_ ?_ <;> try clear hK K) | fail)
  all_goals exact WS.dev2 rfl rfl (Nat.le_refl _) rfl (by simp [hl])
 ·rw [if_neg ha] at hQ
  repeat' (first | (show WC _ _ _ _ _ _ _ _ _; first | refine T.callN e133 rfl (vidfit p h m H.pos H.hit H.len) (by simp) ?_ | refine T.cP [2] e107 (vidmade _ _ m) ?_) | exact ⟨⟩ | intro (K:KT) hK | intro hcd | (refine go1 ?_ ?_ <;> try clear hK K) | fail)
  all_goals exact WS.dev2 rfl rfl (Nat.le_refl _) rfl (Nat.le_of_eq hl)
def vread (p h:Int) (m:List Int) (a:Int):Int := if a = 5 then p / 64 else if a = 6 then p % 64 else if a = 7 then h else m.getD a.toNat 0
theorem vidread_ok (p h a:Int) (m:List Int) (H:VidOk p h m) (ha:0 ≤ a∧a < 32):FnE Tryz.prog 81 [dev [p,h] m,I a] [] (.tup [dev [p,if a = 7 then 0 else h] m,I (vread p h m a)]) []:=by
 refine N.fnC Tryz.func81 k81 fun Q hQ hQN => ?_
 have hl := H.len
 have hp := H.pos
 have e1 := tmod_pos p 64 hp.1
 have e2 := tdiv_pos p 64 (by omega) (by decide)
 have hg:(bcells m)[0 + a.toNat]? = some [.c (.int .u8 (m.getD a.toNat 0))] := by rw [Nat.zero_add]; exact bget (by omega)
 have hb := H.mem a.toNat
 have hw:IntKind.wrap .i64 (m.getD a.toNat 0) = m.getD a.toNat 0 := wrap64 (by omega) (by omega)
 repeat' (first | rw [e1] | rw [e2] | (show WOpsT _ (⟨_,.ld _ _,none⟩ :: _) _ _ _ _; refine T.ld rfl rfl rfl hg rfl ?_) | rw [hw] | (show WC _ _ _ _ _ _ _ _ _; first | refine T.callN e133 rfl (vidfit p h m H.pos H.hit H.len) (by simp) ?_ | refine T.cP [2] e107 (vidmade _ _ m) ?_) | exact ⟨⟩ | intro (K:KT) hK | intro hcd | (refine go1 ?_ ?_ <;> try clear hK K) | fail)
 all_goals (simp only [vread]; (repeat' split) <;> first | omega | exact WS.dev2t rfl rfl (Nat.le_refl _) rfl (Nat.le_of_eq hl))
end Go.Proofs.YtonhglhdlgbcnabGreat.Calc
namespace Go.Proofs.YtonhglhdlgbcnabGreat.Calc
structure Vo where
 p:Int
 v:Int
 r:Int
 c:Int
 f:Int
 w:Int
def Vo.list (x:Vo):List Int := [x.p,x.v,x.r,x.c,x.f,x.w]
def Vo.Ok (x:Vo):Prop := (0 ≤ x.p∧x.p < 4096)∧(0 ≤ x.v∧x.v < 16)∧(0 ≤ x.r∧x.r < 256)∧(0 ≤ x.c∧x.c < 4096)∧(0 ≤ x.f∧x.f < 2)∧(0 ≤ x.w∧x.w < 16384)
def Vo.pass (x:Vo) (k:Int):Vo where
 p := x.p
 v := if 0 < x.r∧0 < x.v then (if x.r * 64 ≤ x.w + k then x.v - 1 else x.v) else x.v
 r := x.r
 c := if 0 < x.p then (if x.p ≤ x.c + k then 0 else x.c + k) else x.c
 f := if 0 < x.p then (if x.p ≤ x.c + k then 1 - x.f else x.f) else x.f
 w := if 0 < x.r∧0 < x.v then (if x.r * 64 ≤ x.w + k then 0 else x.w + k) else x.w
def Vo.quiet (x:Vo):Int :=
 let a := if 0 < x.p then min 100000 (max 1 (x.p - x.c) - 1) else 100000
 if 0 < x.r∧0 < x.v then min a (max 1 (x.r * 64 - x.w) - 1) else a
def Vo.ticks:Nat→Vo→Vo
 | 0,x => x
 | n + 1,x => Vo.ticks n (x.pass 1)
theorem Vo.ticks_succ (n:Nat):∀ x:Vo,Vo.ticks (n + 1) x = (Vo.ticks n x).pass 1:=by
 induction n with
 | zero => intro x; rfl
 | succ n ih => intro x; rw [Vo.ticks,ih]; rfl
theorem Vo.ticks_add (m n:Nat):∀ x:Vo,Vo.ticks (m + n) x = Vo.ticks n (Vo.ticks m x):=by
 induction m with
 | zero => intro x; rw [Nat.zero_add]; rfl
 | succ m ih => intro x; rw [show m + 1 + n = m + n + 1 by omega,Vo.ticks,ih]; rfl
theorem Vo.quiet_le (x:Vo) (h:x.Ok):0 ≤ x.quiet∧x.quiet ≤ 100000:=by
 unfold Vo.quiet Vo.Ok at *
 dsimp only
 split <;> split <;> omega
theorem Vo.pass_ok (x:Vo) (h:x.Ok) (k:Int) (h0:0 ≤ k):(x.pass k).Ok:=by
 unfold Vo.Ok Vo.pass at *
 dsimp only
 obtain ⟨h1,h2,h3,h4,h5,h6⟩ := h
 refine ⟨h1,?_,h3,?_,?_,?_⟩ <;> (repeat' split) <;> omega
theorem Vo.pass_succ (x:Vo) (k:Int) (h0:0 < k) (hk:k ≤ x.quiet):(x.pass k).pass 1 = x.pass (k + 1):=by
 obtain ⟨p,v,r,c,f,w⟩ := x
 unfold Vo.quiet at hk
 unfold Vo.pass
 dsimp only at *
 by_cases hp:0 < p
 ·have a1:¬ p ≤ c + k:=by
   rw [if_pos hp] at hk
   split at hk <;> omega
  by_cases hr:0 < r∧0 < v
  ·have a2:¬ r * 64 ≤ w + k:=by
    rw [if_pos hr] at hk
    omega
   simp only [if_pos hp,if_pos hr,if_neg a1,if_neg a2,Int.add_assoc]
  ·simp only [if_pos hp,if_neg hr,if_neg a1,Int.add_assoc]
 ·by_cases hr:0 < r∧0 < v
  ·have a2:¬ r * 64 ≤ w + k:=by
    rw [if_pos hr] at hk
    omega
   simp only [if_neg hp,if_pos hr,if_neg a2,Int.add_assoc]
  ·simp only [if_neg hp,if_neg hr]
theorem Vo.pass_ticks (x:Vo) (n:Nat) (hn:(n:Int) ≤ x.quiet):x.pass (n + 1) = Vo.ticks (n + 1) x:=by
 induction n with
 | zero => rfl
 | succ n ih =>
  rw [Vo.ticks_succ,← ih (by omega)]
  exact (x.pass_succ (n + 1) (by omega) (by omega)).symm
theorem Vo.idle (x:Vo) (h:x.Ok) (hq:x.quiet = 100000) (k:Int):x.pass k = x:=by
 obtain ⟨p,v,r,c,f,w⟩ := x
 unfold Vo.quiet at hq
 unfold Vo.pass Vo.Ok at *
 dsimp only at *
 by_cases hp:0 < p
 ·rw [if_pos hp] at hq
  split at hq <;> omega
 ·by_cases hr:0 < r∧0 < v
  ·rw [if_pos hr] at hq
   omega
  ·simp only [if_neg hp,if_neg hr]
theorem Vo.idle_ticks (x:Vo) (h:x.Ok) (hq:x.quiet = 100000) (n:Nat):Vo.ticks n x = x:=by
 induction n with
 | zero => rfl
 | succ n ih => rw [Vo.ticks_succ,ih,x.idle h hq]
theorem Vo.ticks_ok (x:Vo) (h:x.Ok) (n:Nat):(Vo.ticks n x).Ok:=by
 induction n with
 | zero => exact h
 | succ n ih => rw [Vo.ticks_succ]; exact Vo.pass_ok _ ih 1 (by decide)
theorem Vo.turns (P v:Int) (hP:0 < P∧P < 4096) (n:Nat):Vo.ticks n ⟨P,v,0,0,0,0⟩ = ⟨P,v,0,n % P,n / P % 2,0⟩:=by
 induction n with
 | zero => simp [Vo.ticks]
 | succ n ih =>
  rw [Vo.ticks_succ,ih]
  unfold Vo.pass
  dsimp only
  have h1 := Int.emod_nonneg (n:Int) (show P ≠ 0 by omega)
  have h2 := Int.emod_lt_of_pos (n:Int) hP.1
  have h3 := Int.emod_add_mul_ediv (n:Int) P
  have h4:((n + 1:Nat):Int) = (n:Int) % P + 1 + P * ((n:Int) / P) := by omega
  by_cases h:P ≤ (n:Int) % P + 1
  ·have e:((n + 1:Nat):Int) = P * ((n:Int) / P + 1) := by rw [h4,Int.mul_add]; omega
   have d1:((n + 1:Nat):Int) % P = 0 := by rw [e]; exact Int.mul_emod_right _ _
   have d2:((n + 1:Nat):Int) / P = (n:Int) / P + 1 := by rw [e]; exact Int.mul_ediv_cancel_left _ (by omega)
   rw [d1,d2]
   simp only [if_pos hP.1,if_pos h]
   congr 1
   omega
  ·have d1:((n + 1:Nat):Int) % P = (n:Int) % P + 1:=by
    rw [h4,Int.add_mul_emod_self_left]; exact Int.emod_eq_of_lt (by omega) (by omega)
   have d2:((n + 1:Nat):Int) / P = (n:Int) / P:=by
    rw [h4,Int.add_mul_ediv_left _ _ (by omega),Int.ediv_eq_zero_of_lt (by omega) (by omega)]; omega
   rw [d1,d2]
   simp only [if_pos hP.1,if_neg h]
   rfl
theorem Vo.fades (R:Int) (hR:0 < R∧R < 256):∀ (n:Nat) (v:Int),0 ≤ v→(n:Int) ≤ 64 * R * v→Vo.ticks n ⟨0,v,R,0,0,0⟩ = ⟨0,v - n / (64 * R),R,0,0,n % (64 * R)⟩:=by
 intro n v hv hn
 induction n with
 | zero => simp [Vo.ticks]
 | succ n ih =>
  rw [Vo.ticks_succ,ih (by omega)]
  unfold Vo.pass
  dsimp only
  obtain ⟨D,hD⟩:∃ D,64 * R = D := ⟨_,rfl⟩
  have hD1:0 < D := by omega
  rw [hD] at hn ⊢
  have h1 := Int.emod_nonneg (n:Int) (show D ≠ 0 by omega)
  have h2 := Int.emod_lt_of_pos (n:Int) hD1
  have h3 := Int.emod_add_mul_ediv (n:Int) D
  have h4:((n + 1:Nat):Int) = (n:Int) % D + 1 + D * ((n:Int) / D) := by omega
  have hv1:0 < v - (n:Int) / D:=by
   have:(n:Int) / D < v := Int.ediv_lt_of_lt_mul hD1 (by rw [Int.mul_comm]; omega)
   omega
  by_cases h:D ≤ (n:Int) % D + 1
  ·have e:((n + 1:Nat):Int) = D * ((n:Int) / D + 1) := by rw [h4,Int.mul_add]; omega
   have d1:((n + 1:Nat):Int) % D = 0 := by rw [e]; exact Int.mul_emod_right _ _
   have d2:((n + 1:Nat):Int) / D = (n:Int) / D + 1 := by rw [e]; exact Int.mul_ediv_cancel_left _ (by omega)
   rw [d1,d2]
   have q0:¬ ((0:Int) < 0) := by decide
   have q1:0 < R∧0 < v - (n:Int) / D := ⟨hR.1,hv1⟩
   have q2:R * 64 ≤ (n:Int) % D + 1 := by omega
   simp only [if_neg q0,if_pos q1,if_pos q2]
   congr 1
   omega
  ·have d1:((n + 1:Nat):Int) % D = (n:Int) % D + 1:=by
    rw [h4,Int.add_mul_emod_self_left]; exact Int.emod_eq_of_lt (by omega) (by omega)
   have d2:((n + 1:Nat):Int) / D = (n:Int) / D:=by
    rw [h4,Int.add_mul_ediv_left _ _ (by omega),Int.ediv_eq_zero_of_lt (by omega) (by omega)]; omega
   rw [d1,d2]
   have q0:¬ ((0:Int) < 0) := by decide
   have q1:0 < R∧0 < v - (n:Int) / D := ⟨hR.1,hv1⟩
   have q2:¬ R * 64 ≤ (n:Int) % D + 1 := by omega
   simp only [if_neg q0,if_pos q1,if_neg q2]
end Go.Proofs.YtonhglhdlgbcnabGreat.Calc
namespace Go.Proofs.YtonhglhdlgbcnabGreat.Calc
open Go Code
set_option linter.unusedSimpArgs false
set_option linter.unusedVariables false
set_option maxRecDepth 20000
set_option maxHeartbeats 8000000
attribute [local irreducible] WOpsT AW AK RK AKW UK UC
abbrev vo2 (x y:Vo):List Int := [x.p,x.v,x.r,x.c,x.f,x.w,y.p,y.v,y.r,y.c,y.f,y.w]
abbrev vo2B (x y:Vo):Blk := ⟨1,1,cells (vo2 x y)⟩
theorem sndfit (x y:Vo) (m:List Int) (hx:x.Ok) (hy:y.Ok):FnE Tryz.prog 134 [dev (vo2 x y) m] [] (.psl 0 1 0 12) [vo2B x y]:=by
 unfold Vo.Ok at hx hy
 refine N.fnC Tryz.func134 k134 fun Q hQ hQN => ?_
 repeat' (first | (show AK _ _ (.loop _) _ _ _ _; refine N.unroll 7 ?_) | (show WC _ _ _ _ _ _ _ _ _; first | refine T.call0 e27 rfl (low_in _ 12 12 rfl (by decide) (by omega)) ?_ | refine T.call0 e27 rfl (low_in _ 4 4 rfl (by decide) (by omega)) ?_ | refine T.call0 e27 rfl (low_in _ 8 8 rfl (by decide) (by omega)) ?_ | refine T.call0 e27 rfl (low_in _ 1 1 rfl (by decide) (by omega)) ?_ | refine T.call0 e27 rfl (low_in _ 14 14 rfl (by decide) (by omega)) ?_) | exact ⟨⟩ | intro (K:KT) hK | intro hcd | (refine go1 ?_ ?_ <;> try clear hK K) | fail)
 exact WS.gc [1] 1 rfl rfl .rfl
theorem sndnew_ok:FnE Tryz.prog 54 [] [] (dev [0,0,0,0,0,0,0,0,0,0,0,0] []) []:=by
 refine N.fnC Tryz.func54 k54 fun Q hQ hQN => ?_
 repeat' (first | exact ⟨⟩ | intro (K:KT) hK | intro hcd | (refine go1 ?_ ?_ <;> try clear hK K) | fail)
 exact WS.devN (m := 1) rfl rfl
theorem quiet_eq (x:Vo):x.quiet = (if 0 < x.r∧0 < x.v then min (if 0 < x.p then min 100000 (max 1 (x.p - x.c) - 1) else 100000) (max 1 (x.r * 64 - x.w) - 1) else (if 0 < x.p then min 100000 (max 1 (x.p - x.c) - 1) else 100000)) := rfl
theorem quiet0_ok (x y:Vo) (hx:x.Ok):FnE Tryz.prog 187 [.psl 0 1 0 6] [vo2B x y] (I x.quiet) [vo2B x y]:=by
 unfold Vo.Ok at hx
 rw [quiet_eq]
 refine N.fnC Tryz.func187 k187 fun Q hQ hQN => ?_
 repeat' (first | exact ⟨⟩ | intro (K:KT) hK | intro hcd | (refine go1 ?_ ?_ <;> try clear hK K) | fail)
 all_goals (refine WS.gc [0] 1 rfl rfl (Sub.c ?_); (repeat' split) <;> first | rfl | (exfalso; omega))
theorem quiet1_ok (x y:Vo) (hx:x.Ok):FnE Tryz.prog 187 [.psl 0 1 6 6] [vo2B y x] (I x.quiet) [vo2B y x]:=by
 unfold Vo.Ok at hx
 rw [quiet_eq]
 refine N.fnC Tryz.func187 k187 fun Q hQ hQN => ?_
 repeat' (first | exact ⟨⟩ | intro (K:KT) hK | intro hcd | (refine go1 ?_ ?_ <;> try clear hK K) | fail)
 all_goals (refine WS.gc [0] 1 rfl rfl (Sub.c ?_); (repeat' split) <;> first | rfl | (exfalso; omega))
theorem pass0_ok (x y:Vo) (k:Int) (hx:x.Ok) (hk:0 ≤ k∧k < 1000000000):FnE Tryz.prog 188 [.psl 0 1 0 6,I k] [vo2B x y] (.tup []) [vo2B (x.pass k) y]:=by
 unfold Vo.Ok at hx
 refine N.fnC Tryz.func188 k188 fun Q hQ hQN => ?_
 repeat' (first | exact ⟨⟩ | intro (K:KT) hK | intro hcd | (refine go1 ?_ ?_ <;> try clear hK K) | fail)
 all_goals (refine WS.gc [0] 1 rfl ?_ .rfl; simp only [vo2B,vo2,Vo.pass]; (repeat' split) <;> first | rfl | (exfalso; omega))
theorem pass1_ok (x y:Vo) (k:Int) (hx:x.Ok) (hk:0 ≤ k∧k < 1000000000):FnE Tryz.prog 188 [.psl 0 1 6 6,I k] [vo2B y x] (.tup []) [vo2B y (x.pass k)]:=by
 unfold Vo.Ok at hx
 refine N.fnC Tryz.func188 k188 fun Q hQ hQN => ?_
 repeat' (first | exact ⟨⟩ | intro (K:KT) hK | intro hcd | (refine go1 ?_ ?_ <;> try clear hK K) | fail)
 all_goals (refine WS.gc [0] 1 rfl ?_ .rfl; simp only [vo2B,vo2,Vo.pass]; (repeat' split) <;> first | rfl | (exfalso; omega))
theorem sndskip_ok (x y:Vo) (k:Int) (m:List Int) (hx:x.Ok) (hy:y.Ok):FnE Tryz.prog 170 [dev (vo2 x y) m,I k] [] (dev (vo2 (Vo.ticks (min k 10000000).toNat x) (Vo.ticks (min k 10000000).toNat y)) []) []:=by
 refine N.fnC Tryz.func170 k170 fun Q hQ hQN => ?_
 obtain ⟨K,hK⟩:∃ K,min k 10000000 = K := ⟨_,rfl⟩
 have hK1:K ≤ 10000000 := by omega
 rw [hK] at hQ hQN
 repeat' (first | rw [hK] | refine T.callN e134 rfl (sndfit x y m hx hy) (by simp) ?_ | exact ⟨⟩ | intro (K:KT) hK | intro hcd | (refine goB ?_ ?_ <;> try clear hK K) | fail)
 refine N.block (N.unroll 3 (N.round ?_))
 repeat' (first | exact ⟨⟩ | intro (K:KT) hK | intro hcd | (refine goB ?_ ?_ <;> try clear hK K) | fail)
 refine N.block ?_
 repeat' (first | exact ⟨⟩ | intro (K:KT) hK | intro hcd | (refine goB ?_ ?_ <;> try clear hK K) | fail)
 refine N.blockC [(4,.ptr 1 1 0 0),(1,I K),(5,.psl 2 1 0 12),(14,I 0)] [⟨1,2,[[.sl 1 (cells (vo2 x y)),.sl 1 (bcells m)]]⟩,⟨1,2,[[.c (.slice none 0 0),.c (.slice none 0 0)]]⟩,vo2B (Vo.ticks K.toNat x) y] rfl (fun C hC => ?_) ?_
 ·refine N.loop (σ := Nat) (fun s => [(4,.ptr 1 1 0 0),(1,I K),(5,.psl 2 1 0 12),(7,.psl 2 1 0 6),(8,I (K - s)),(14,I 0)]) (fun s => [⟨1,2,[[.sl 1 (cells (vo2 x y)),.sl 1 (bcells m)]]⟩,⟨1,2,[[.c (.slice none 0 0),.c (.slice none 0 0)]]⟩,vo2B (Vo.ticks s x) y]) (fun s => s ≤ K.toNat) (fun s => K.toNat - s) 0 (Nat.zero_le _) (Weaks.sel (by rw [show K - ((0:Nat):Int) = K by omega]; exact (by exact sB)) rfl) fun s hs C' hC' => ?_
  have hvo:(Vo.ticks s x).Ok := Vo.ticks_ok x hx s
  have hq := Vo.quiet_le _ hvo
  have hqo := quiet0_ok (Vo.ticks s x) y hvo
  have hpass1 (n:Nat) := Vo.pass_ticks (Vo.ticks s x) n
  have hidle := Vo.idle (Vo.ticks s x) hvo
  have hidleN := Vo.idle_ticks (Vo.ticks s x) hvo
  have hadd (n:Nat) := Vo.ticks_add s n x
  obtain ⟨q,hqe⟩:∃ q,(Vo.ticks s x).quiet = q := ⟨_,rfl⟩
  rw [hqe] at hq hqo hpass1 hidle hidleN
  by_cases hl:K - s > 0
  ·by_cases hb:q ≥ K - s∨q = 100000
   ·have hend:(Vo.ticks s x).pass (K - s) = Vo.ticks K.toNat x:=by
     rw [show K.toNat = s + (K - s).toNat by omega,hadd]
     by_cases h1:q = 100000
     ·rw [hidle h1,hidleN h1]
     ·obtain ⟨n,hn⟩:∃ n:Nat,K - s = n + 1 := ⟨(K - s).toNat - 1,by omega⟩
      rw [hn,hpass1 n (by omega),show ((n:Int) + 1).toNat = n + 1 by omega]
    have hp := pass0_ok (Vo.ticks s x) y (K - s) hvo (by omega)
    rw [hend] at hp
    repeat' (first | (show WC _ _ _ _ _ _ _ _ _; first | refine T.cP [2] e187 (hqo) ?_ | refine T.cP [2] e188 (hp) ?_) | exact ⟨⟩ | intro (K:KT) hK | intro hcd | (refine go1 ?_ ?_ <;> try clear hK K) | fail)
    all_goals exact hC _ _ (Weaks.sel (by exact sB) rfl)
   ·have hp := pass0_ok (Vo.ticks s x) y (q + 1) hvo (by omega)
    obtain ⟨n,hn⟩:∃ n:Nat,q = n := ⟨q.toNat,by omega⟩
    have hend:(Vo.ticks s x).pass (q + 1) = Vo.ticks (s + (n + 1)) x:=by
     rw [hadd,hn,hpass1 n (by omega)]
    rw [hend] at hp
    repeat' (first | (show WC _ _ _ _ _ _ _ _ _; first | refine T.cP [2] e187 (hqo) ?_ | refine T.cP [2] e188 (hp) ?_) | exact ⟨⟩ | intro (K:KT) hK | intro hcd | (refine go1 ?_ ?_ <;> try clear hK K) | fail)
    refine hC' _ _ (s + (n + 1)) (by omega) (by omega) (Weaks.sel (by rw [show K - ((s + (n + 1):Nat):Int) = K - s - (q + 1) by omega]; exact (by exact sB)) rfl)
  ·obtain rfl:s = K.toNat := by omega
   repeat' (first | exact ⟨⟩ | intro (K:KT) hK | intro hcd | (refine go1 ?_ ?_ <;> try clear hK K) | fail)
   exact hC _ _ (Weaks.sel (by exact sB) rfl)
 repeat' (first | exact ⟨⟩ | intro (K:KT) hK | intro hcd | (refine goB ?_ ?_ <;> try clear hK K) | fail)
 refine N.block ?_
 repeat' (first | exact ⟨⟩ | intro (K:KT) hK | intro hcd | (refine goB ?_ ?_ <;> try clear hK K) | fail)
 refine N.blockC [(4,.ptr 1 1 0 0),(1,I K),(5,.psl 2 1 0 12),(14,I 1)] [⟨1,2,[[.sl 1 (cells (vo2 x y)),.sl 1 (bcells m)]]⟩,⟨1,2,[[.c (.slice none 0 0),.c (.slice none 0 0)]]⟩,vo2B (Vo.ticks K.toNat x) (Vo.ticks K.toNat y)] rfl (fun C hC => ?_) ?_
 ·refine N.loop (σ := Nat) (fun s => [(4,.ptr 1 1 0 0),(1,I K),(5,.psl 2 1 0 12),(7,.psl 2 1 6 6),(8,I (K - s)),(14,I 1)]) (fun s => [⟨1,2,[[.sl 1 (cells (vo2 x y)),.sl 1 (bcells m)]]⟩,⟨1,2,[[.c (.slice none 0 0),.c (.slice none 0 0)]]⟩,vo2B (Vo.ticks K.toNat x) (Vo.ticks s y)]) (fun s => s ≤ K.toNat) (fun s => K.toNat - s) 0 (Nat.zero_le _) (Weaks.sel (by rw [show K - ((0:Nat):Int) = K by omega]; exact (by exact sB)) rfl) fun s hs C' hC' => ?_
  have hvo:(Vo.ticks s y).Ok := Vo.ticks_ok y hy s
  have hq := Vo.quiet_le _ hvo
  have hqo := quiet1_ok (Vo.ticks s y) (Vo.ticks K.toNat x) hvo
  have hpass1 (n:Nat) := Vo.pass_ticks (Vo.ticks s y) n
  have hidle := Vo.idle (Vo.ticks s y) hvo
  have hidleN := Vo.idle_ticks (Vo.ticks s y) hvo
  have hadd (n:Nat) := Vo.ticks_add s n y
  obtain ⟨q,hqe⟩:∃ q,(Vo.ticks s y).quiet = q := ⟨_,rfl⟩
  rw [hqe] at hq hqo hpass1 hidle hidleN
  by_cases hl:K - s > 0
  ·by_cases hb:q ≥ K - s∨q = 100000
   ·have hend:(Vo.ticks s y).pass (K - s) = Vo.ticks K.toNat y:=by
     rw [show K.toNat = s + (K - s).toNat by omega,hadd]
     by_cases h1:q = 100000
     ·rw [hidle h1,hidleN h1]
     ·obtain ⟨n,hn⟩:∃ n:Nat,K - s = n + 1 := ⟨(K - s).toNat - 1,by omega⟩
      rw [hn,hpass1 n (by omega),show ((n:Int) + 1).toNat = n + 1 by omega]
    have hp := pass1_ok (Vo.ticks s y) (Vo.ticks K.toNat x) (K - s) hvo (by omega)
    rw [hend] at hp
    repeat' (first | (show WC _ _ _ _ _ _ _ _ _; first | refine T.cP [2] e187 (hqo) ?_ | refine T.cP [2] e188 (hp) ?_) | exact ⟨⟩ | intro (K:KT) hK | intro hcd | (refine go1 ?_ ?_ <;> try clear hK K) | fail)
    all_goals exact hC _ _ (Weaks.sel (by exact sB) rfl)
   ·have hp := pass1_ok (Vo.ticks s y) (Vo.ticks K.toNat x) (q + 1) hvo (by omega)
    obtain ⟨n,hn⟩:∃ n:Nat,q = n := ⟨q.toNat,by omega⟩
    have hend:(Vo.ticks s y).pass (q + 1) = Vo.ticks (s + (n + 1)) y:=by
     rw [hadd,hn,hpass1 n (by omega)]
    rw [hend] at hp
    repeat' (first | (show WC _ _ _ _ _ _ _ _ _; first | refine T.cP [2] e187 (hqo) ?_ | refine T.cP [2] e188 (hp) ?_) | exact ⟨⟩ | intro (K:KT) hK | intro hcd | (refine go1 ?_ ?_ <;> try clear hK K) | fail)
    refine hC' _ _ (s + (n + 1)) (by omega) (by omega) (Weaks.sel (by rw [show K - ((s + (n + 1):Nat):Int) = K - s - (q + 1) by omega]; exact (by exact sB)) rfl)
  ·obtain rfl:s = K.toNat := by omega
   repeat' (first | exact ⟨⟩ | intro (K:KT) hK | intro hcd | (refine go1 ?_ ?_ <;> try clear hK K) | fail)
   exact hC _ _ (Weaks.sel (by exact sB) rfl)
 repeat' (first | exact ⟨⟩ | intro (K:KT) hK | intro hcd | (refine go1 ?_ ?_ <;> try clear hK K) | fail)
 exact WS.devN (m := 1) rfl rfl
theorem drvw0 (a:Dr) (m:List Int) (nd:Nat) (k:Int) (H:a.Ok m nd):FnE Tryz.prog 76 [dev (dr10 a) m,I 0,I k] [] (dev (dr10 (a.begin (k % 2 ^ 8))) m) []:=by
 refine N.fnC Tryz.func76 k76 fun Q hQ hQN => ?_
 repeat' (first | (show WC _ _ _ _ _ _ _ _ _; first | refine T.callN e136 rfl (drvfit a m nd H) (by simp) ?_ | refine T.call0 e27 rfl (low_lit _ 8 8 rfl (by decide)) ?_ | refine T.cP [2] e137 (drvbegin a (k % 2 ^ 8)) ?_) | exact ⟨⟩ | intro (K:KT) hK | intro hcd | (refine go1 ?_ ?_ <;> try clear hK K) | fail)
 exact WS.dev2 rfl rfl (Nat.le_refl _) rfl (Nat.le_refl _)
theorem drvw1 (a:Dr) (m:List Int) (nd:Nat) (k:Int) (H:a.Ok m nd):FnE Tryz.prog 76 [dev (dr10 a) m,I 1,I k] [] (dev (dr10 { a with d := k % 2 ^ 8,r := if a.c = 4 then 0 else a.r }) m) []:=by
 refine N.fnC Tryz.func76 k76 fun Q hQ hQN => ?_
 repeat' (first | (show WC _ _ _ _ _ _ _ _ _; first | refine T.callN e136 rfl (drvfit a m nd H) (by simp) ?_ | refine T.call0 e27 rfl (low_lit _ 8 8 rfl (by decide)) ?_) | exact ⟨⟩ | intro (K:KT) hK | intro hcd | (refine go1 ?_ ?_ <;> try clear hK K) | fail)
 all_goals ((repeat' split) <;> first | (exfalso; omega) | exact WS.dev2 rfl rfl (Nat.le_refl _) rfl (Nat.le_refl _))
theorem status4 (b r o z:Int) (hb:0 ≤ b∧b < 2) (hr:0 ≤ r∧r < 2) (ho:0 ≤ o∧o < 2) (hz:z = 0∨z = 8):bits .or .i64 (bits .or .i64 (bits .or .i64 b (IntKind.wrap .i64 (r * 2 ^ min 1 IntKind.i64.bits))) (IntKind.wrap .i64 (o * 2 ^ min 2 IntKind.i64.bits))) z = b + 2 * r + 4 * o + z:=by
 have h1:b = 0∨b = 1 := by omega
 have h2:r = 0∨r = 1 := by omega
 have h3:o = 0∨o = 1 := by omega
 rcases h1 with rfl | rfl <;> rcases h2 with rfl | rfl <;> rcases h3 with rfl | rfl <;> rcases hz with rfl | rfl <;> decide +kernel
theorem drvr0 (a:Dr) (m:List Int) (nd:Nat) (H:a.Ok m nd):FnE Tryz.prog 83 [dev (dr10 a) m,I 0] [] (.tup [dev (dr10 { a with o := 0 }) m,I (min 1 a.c + 2 * a.r + 4 * a.o + if a.k = 0 then 8 else 0)]) []:=by
 have hc := H.c
 have e (z:Int) (hz:z = 0∨z = 8) := status4 (min 1 a.c) a.r a.o z (by omega) H.r H.o hz
 have e0 := e 0 (.inl rfl)
 have e8 := e 8 (.inr rfl)
 refine N.fnC Tryz.func83 k83 fun Q hQ hQN => ?_
 repeat' (first | rw [e0] | rw [e8] | (show WC _ _ _ _ _ _ _ _ _; first | refine T.callN e136 rfl (drvfit a m nd H) (by simp) ?_ | refine T.callQ [2] e140 rfl (drvbusy a hc.1) (by exact pA) rfl rfl rfl (by exact rN) ?_) | exact ⟨⟩ | intro (K:KT) hK | intro hcd | (refine go1 ?_ ?_ <;> try clear hK K) | fail)
 all_goals ((repeat' split) <;> first | (exfalso; omega) | exact WS.dev2t rfl rfl (Nat.le_refl _) rfl (Nat.le_refl _))
theorem drvr1 (a:Dr) (m:List Int) (nd:Nat) (H:a.Ok m nd):FnE Tryz.prog 83 [dev (dr10 a) m,I 1] [] (.tup [dev (dr10 { a with r := if a.c = 4 then a.r else 0 }) m,I a.d]) []:=by
 refine N.fnC Tryz.func83 k83 fun Q hQ hQN => ?_
 repeat' (first | refine T.callN e136 rfl (drvfit a m nd H) (by simp) ?_ | exact ⟨⟩ | intro (K:KT) hK | intro hcd | (refine go1 ?_ ?_ <;> try clear hK K) | fail)
 all_goals ((repeat' split) <;> first | (exfalso; omega) | exact WS.dev2t rfl rfl (Nat.le_refl _) rfl (Nat.le_refl _))
theorem drvr2 (a:Dr) (m:List Int) (nd:Nat) (H:a.Ok m nd):FnE Tryz.prog 83 [dev (dr10 a) m,I 2] [] (.tup [dev (dr10 a) m,I a.t]) []:=by
 refine N.fnC Tryz.func83 k83 fun Q hQ hQN => ?_
 repeat' (first | refine T.callN e136 rfl (drvfit a m nd H) (by simp) ?_ | exact ⟨⟩ | intro (K:KT) hK | intro hcd | (refine go1 ?_ ?_ <;> try clear hK K) | fail)
 exact WS.dev2t rfl rfl (Nat.le_refl _) rfl (Nat.le_refl _)
end Go.Proofs.YtonhglhdlgbcnabGreat.Calc
