/- Several texts in one (FnDrive, FnDriveB, FnDriveD, FnRom, PureBoard, FnMem, FnTimer), for the proof of LawMachParts. No condition beyond those in each lemma. -/
import Derived.Test.YtonhglhdlgbcnabGreatPLawMachPartsE
import Derived.Test.YtonhglhdlgbcnabGreatPLawMachPartsH
import Derived.Test.YtonhglhdlgbcnabGreatPLawMachPartsD
namespace Go.Proofs.YtonhglhdlgbcnabGreat.Calc
open Go Code
set_option linter.unusedSimpArgs false
set_option linter.unusedVariables false
set_option maxRecDepth 20000
set_option maxHeartbeats 8000000
attribute [local irreducible] WOpsT AW AK RK AKW UK UC
structure Dr where
 k:Int
 t:Int
 c:Int
 s:Int
 i:Int
 l:Int
 d:Int
 r:Int
 o:Int
 x:Int
abbrev dr10 (a:Dr):List Int := [a.k,a.t,a.c,a.s,a.i,a.l,a.d,a.r,a.o,a.x]
abbrev drB (a:Dr):Blk := ⟨1,1,cells (dr10 a)⟩
structure Dr.Ok (a:Dr) (m:List Int) (nd:Nat):Prop where
 k:0 ≤ a.k∧a.k ≤ nd
 t:0 ≤ a.t∧a.t < 4
 c:0 ≤ a.c∧a.c ≤ 4
 s:0 ≤ a.s∧a.s < 4
 i:0 ≤ a.i∧a.i < 16
 l:0 ≤ a.l∧a.l < 64
 d:0 ≤ a.d∧a.d < 256
 r:0 ≤ a.r∧a.r < 2
 o:0 ≤ a.o∧a.o < 2
 x:0 ≤ a.x∧a.x < 2
 len:m.length = 256 * nd
 nd:nd ≤ 255
 mem:Bytes m
theorem drvfit (a:Dr) (m:List Int) (nd:Nat) (H:a.Ok m nd):FnE Tryz.prog 136 [dev (dr10 a) m] [] (.tup [.psl 0 1 0 10,.psl 1 1 0 m.length]) [drB a,memB m]:=by
 obtain ⟨hk,ht,hc,hs,hi,hl,hd,hr,ho,hx,hm,hnd,hB⟩ := H
 refine N.fnC Tryz.func136 k136 fun Q hQ hQN => ?_
 have e0:((bcells m).length:Int) = 256 * nd := by rw [bcells_len,hm]; omega
 have e1:IntKind.wrap .i64 ((256 * (nd:Int)).tdiv 256) = nd:=by
  rw [Int.tdiv_eq_ediv_of_nonneg (by omega),show 256 * (nd:Int) / 256 = nd by omega]; exact wrap64 (by omega) (by omega)
 have e1':IntKind.wrap .i64 (((m.length:Nat):Int).tdiv 256) = nd := by rw [hm,show ((256 * nd:Nat):Int) = 256 * (nd:Int) by omega]; exact e1
 have e2:((nd:Int) * 256).toNat = m.length := by omega
 have e3:List.take m.length (bcells m) ++ List.drop (min (bcells m).length m.length) (List.replicate m.length [V.c (.int .u8 0)]) = bcells m:=by
  rw [bcells_len,bcells_take,List.take_of_length_le (Nat.le_refl _),Nat.min_self]; simp
 repeat' (first | (show AK _ _ (.loop _) _ _ _ _; refine N.unroll 11 ?_) | rw [e0] | rw [e1] | rw [e1'] | (show WOpsT _ (⟨_,.mksl _ _ _ _,none⟩ :: _) _ _ _ _; refine T.mksl rfl rfl ⟨by decide,by decide,by omega,by omega,by omega⟩ ?_) | rw [e2] | rw [e3] | (show WC _ _ _ _ _ _ _ _ _; first | refine T.call0 e27 rfl (low_in _ 8 8 rfl (by decide) (by omega)) ?_ | refine T.call0 e27 rfl (low_in _ 2 2 rfl (by decide) (by omega)) ?_ | refine T.call0 e27 rfl (low_in _ 3 3 rfl (by decide) (by omega)) ?_ | refine T.call0 e27 rfl (low_in _ 4 4 rfl (by decide) (by omega)) ?_ | refine T.call0 e27 rfl (low_in _ 6 6 rfl (by decide) (by omega)) ?_ | refine T.call0 e27 rfl (low_in _ 1 1 rfl (by decide) (by omega)) ?_) | exact ⟨⟩ | intro (K:KT) hK | intro hcd | (refine go1 ?_ ?_ <;> try clear hK K) | fail)
 exact WS.gc [1,2] 1 rfl (by symm; refine outH2 ?_ ?_; (· rfl); (· exact outB_bytes)) .rfl
theorem drvnew (m:List Int) (nd:Nat) (hm:m.length = 256 * nd) (hnd:nd ≤ 255):FnE Tryz.prog 55 [.sl 1 (bcells m)] [] (dev [0,0,0,0,0,0,0,0,0,0] m) []:=by
 refine N.fnC Tryz.func55 k55 fun Q hQ hQN => ?_
 have e0:((bcells m).length:Int) = 256 * nd := by rw [bcells_len,hm]; omega
 have e1:IntKind.wrap .i64 ((256 * (nd:Int)).tdiv 256) = nd:=by
  rw [Int.tdiv_eq_ediv_of_nonneg (by omega),show 256 * (nd:Int) / 256 = nd by omega]; exact wrap64 (by omega) (by omega)
 have e2:((nd:Int) * 256).toNat = m.length := by omega
 have e3:List.take m.length (bcells m) ++ List.drop (min (bcells m).length m.length) (List.replicate m.length [V.c (.int .u8 0)]) = bcells m:=by
  rw [bcells_len,bcells_take,List.take_of_length_le (Nat.le_refl _),Nat.min_self]; simp
 repeat' (first | rw [e0] | rw [e1] | (show WOpsT _ (⟨_,.mksl _ _ _ _,none⟩ :: _) _ _ _ _; refine T.mksl rfl rfl ⟨by decide,by decide,by omega,by omega,by omega⟩ ?_) | rw [e2] | rw [e3] | exact ⟨⟩ | intro (K:KT) hK | intro hcd | (refine go1 ?_ ?_ <;> try clear hK K) | fail)
 exact WS.dev2 rfl rfl (Nat.le_refl _) rfl (Nat.le_refl _)
theorem drvbusy (a:Dr) (hc:0 ≤ a.c):FnE Tryz.prog 140 [.psl 0 1 0 10] [drB a] (I (min 1 a.c)) [drB a]:=by
 refine N.fnC Tryz.func140 k140 fun Q hQ hQN => ?_
 repeat' (first | exact ⟨⟩ | intro (K:KT) hK | intro hcd | (refine go1 ?_ ?_ <;> try clear hK K) | fail)
 exact WS.gc [0] 1 rfl rfl .rfl
theorem and15' (n:Int):bits .and .i64 n 15 = n % 16 := BA.low_eq n 4 (by decide)
theorem and3 (n:Int):bits .and .i64 n 3 = n % 4 := BA.low_eq n 2 (by decide)
def Dr.begin (a:Dr) (k:Int):Dr := if 0 < a.c∨k % 16 < 1∨4 < k % 16∨(3 ≤ k % 16∧a.k = 0) then a else { a with c := k % 16,s := k / 16 % 4,i := 0,l := 30,r := if k % 16 = 4 then 1 else 0 }
theorem drvbegin (a:Dr) (k:Int):FnE Tryz.prog 137 [.psl 0 1 0 10,I k] [drB a] (.tup []) [drB (a.begin k)]:=by
 refine N.fnC Tryz.func137 k137 fun Q hQ hQN => ?_
 have e1:k / 2 ^ min (Int.toNat 4) IntKind.i64.bits = k / 16 := rfl
 repeat' (first | rw [and15'] | rw [and3] | rw [e1] | exact ⟨⟩ | intro (K:KT) hK | intro hcd | (refine go1 ?_ ?_ <;> try clear hK K) | fail)
 all_goals (refine WS.gc [0] 1 rfl ?_ .rfl; unfold Dr.begin; (repeat' split) <;> first | (exfalso; omega) | rfl)
def Dr.place (a:Dr):Int := (a.k - 1) * 256 + (a.t * 4 + a.s) * 16 + a.i
theorem drvplace (a:Dr) (m:List Int) (nd:Nat) (H:a.Ok m nd) (h0:1 ≤ a.k):FnE Tryz.prog 201 [.psl 0 1 0 10] [drB a] (I a.place) [drB a]:=by
 obtain ⟨hk,ht,hc,hs,hi,hl,hd,hr,ho,hx,hm,hnd,hB⟩ := H
 refine N.fnC Tryz.func201 k201 fun Q hQ hQN => ?_
 repeat' (first | exact ⟨⟩ | intro (K:KT) hK | intro hcd | (refine go1 ?_ ?_ <;> try clear hK K) | fail)
 exact WS.gc [0] 1 rfl rfl .rfl
theorem drvout (a:Dr) (m:List Int) (nd:Nat) (H:a.Ok m nd):FnE Tryz.prog 126 [dev (dr10 a) m] [] (I a.t) []:=by
 refine N.fnC Tryz.func126 k126 fun Q hQ hQN => ?_
 repeat' (first | refine T.callN e136 rfl (drvfit a m nd H) (by simp) ?_ | exact ⟨⟩ | intro (K:KT) hK | intro hcd | (refine go1 ?_ ?_ <;> try clear hK K) | fail)
 exact WS.c rfl rfl
def Dr.change (a:Dr) (nd:Nat) (k:Int):Dr := if a.c = 0 then (if 0 < k∧k ≤ nd then { a with k := k } else { a with k := 0 }) else a
theorem drvchange (a:Dr) (m:List Int) (nd:Nat) (k:Int) (H:a.Ok m nd):FnE Tryz.prog 149 [dev (dr10 a) m,I k] [] (dev (dr10 (a.change nd k)) m) []:=by
 refine N.fnC Tryz.func149 k149 fun Q hQ hQN => ?_
 have hm := H.len
 have hnd := H.nd
 have e1:IntKind.wrap .i64 (((m.length:Nat):Int).tdiv 256) = nd:=by
  rw [Int.tdiv_eq_ediv_of_nonneg (by omega),show ((m.length:Nat):Int) / 256 = nd by omega]; exact wrap64 (by omega) (by omega)
 have e2 (h:0 < k∧k ≤ (nd:Int)):k.tmod 256 = k := by rw [Int.tmod_eq_emod_of_nonneg (by omega)]; omega
 repeat' (first | rw [e1] | rw [e2 (by omega)] | refine T.callN e136 rfl (drvfit a m nd H) (by simp) ?_ | exact ⟨⟩ | intro (K:KT) hK | intro hcd | (refine go1 ?_ ?_ <;> try clear hK K) | fail)
 all_goals (unfold Dr.change; (repeat' split) <;> first | (exfalso; omega) | exact WS.dev2 rfl rfl (Nat.le_refl _) rfl (Nat.le_refl _))
def Dr.next (a:Dr):Dr := if a.i + 1 = 16 then { a with r := if a.c = 4 then 0 else a.r,c := 0,i := 0,l := 0 } else { a with l := 20,i := a.i + 1 }
def Dr.done (a:Dr) (m:List Int):Dr :=
 if a.c = 1∨a.c = 2 then { a with t := max 0 (min (a.t + 3 - 2 * a.c) 3),c := 0 }
 else Dr.next { a with o := max a.o a.r,d := if a.c = 3 then m.getD a.place.toNat 0 else a.d,r := 1 }
def Dr.doneM (a:Dr) (m:List Int):List Int := if a.c = 4 then m.set a.place.toNat a.d else m
theorem or01 (a b:Int) (ha:0 ≤ a∧a < 2) (hb:0 ≤ b∧b < 2):bits .or .i64 a b = max a b:=by
 have h1:a = 0∨a = 1 := by omega
 have h2:b = 0∨b = 1 := by omega
 rcases h1 with rfl | rfl <;> rcases h2 with rfl | rfl <;> decide +kernel
theorem place_lt (a:Dr) (m:List Int) (nd:Nat) (H:a.Ok m nd) (h0:1 ≤ a.k):0 ≤ a.place∧a.place < m.length:=by
 obtain ⟨hk,ht,hc,hs,hi,hl,hd,hr,ho,hx,hm,hnd,hB⟩ := H
 unfold Dr.place
 omega
theorem drvdone (a:Dr) (m:List Int) (nd:Nat) (H:a.Ok m nd) (hc1:1 ≤ a.c) (h0:3 ≤ a.c→1 ≤ a.k):FnE Tryz.prog 189 [.psl 0 1 0 10,.psl 1 1 0 m.length] [drB a,memB m] (.tup []) [drB (a.done m),memB (a.doneM m)]:=by
 have hp := fun h => place_lt a m nd H h
 have hpl := fun h => drvplace a m nd H h
 obtain ⟨hk,ht,hc,hs,hi,hl,hd,hr,ho,hx,hm,hnd,hB⟩ := id H
 have eor := or01 a.o a.r ho hr
 have hcs:a.c = 1∨a.c = 2∨a.c = 3∨a.c = 4 := by omega
 rcases hcs with h | h | h | h
 ·skip
  refine N.fnC Tryz.func189 k189 fun Q hQ hQN => ?_
  repeat' (first | exact ⟨⟩ | intro (K:KT) hK | intro hcd | (refine go1 ?_ ?_ <;> try clear hK K) | fail)
  exact WS.gc [0,1] 1 rfl (by symm; refine outH2 ?_ ?_; (· unfold Dr.done; rw [if_pos (.inl h)]; rfl); (· unfold Dr.doneM; rw [if_neg (by omega)]; exact outB_bytes)) .rfl
 ·skip
  refine N.fnC Tryz.func189 k189 fun Q hQ hQN => ?_
  repeat' (first | exact ⟨⟩ | intro (K:KT) hK | intro hcd | (refine go1 ?_ ?_ <;> try clear hK K) | fail)
  exact WS.gc [0,1] 1 rfl (by symm; refine outH2 ?_ ?_; (· unfold Dr.done; rw [if_pos (.inr h)]; rfl); (· unfold Dr.doneM; rw [if_neg (by omega)]; exact outB_bytes)) .rfl
 ·have hp := hp (h0 (by omega))
  have H1:({ a with o := max a.o a.r }:Dr).Ok m nd := { H with o := by dsimp only; omega }
  have hpl := drvplace _ m nd H1 (h0 (by omega))
  have hg:(bcells m)[0 + a.place.toNat]? = some [.c (.int .u8 (m.getD a.place.toNat 0))] := by rw [Nat.zero_add]; exact bget (by omega)
  have hb := hB a.place.toNat
  have hw:IntKind.wrap .i64 (m.getD a.place.toNat 0) = m.getD a.place.toNat 0 := wrap64 (by omega) (by omega)
  have hpe:({ a with o := max a.o a.r }:Dr).place = a.place := rfl
  rw [hpe] at hpl
  refine N.fnC Tryz.func189 k189 fun Q hQ hQN => ?_
  repeat' (first | (show WOpsT _ (⟨_,.ld _ _,none⟩ :: _) _ _ _ _; refine T.ld rfl rfl rfl hg rfl ?_) | rw [hw] | rw [eor] | refine T.callQ [0] e201 rfl (hpl) (by exact pA) rfl rfl rfl (by exact rN) ?_ | exact ⟨⟩ | intro (K:KT) hK | intro hcd | (refine go1 ?_ ?_ <;> try clear hK K) | fail)
  all_goals (refine WS.gc [0,1] 1 rfl ?_ .rfl; symm; refine outH2 ?_ ?_; (· unfold Dr.done Dr.next; rw [if_neg (by omega)]; dsimp only; (repeat' split) <;> first | (exfalso; omega) | rfl); (· unfold Dr.doneM; rw [if_neg (by omega)]; exact outB_bytes))
 ·have hp := hp (h0 (by omega))
  have H1:({ a with o := max a.o a.r }:Dr).Ok m nd := { H with o := by dsimp only; omega }
  have hpl := drvplace _ m nd H1 (h0 (by omega))
  have hg:(bcells m)[0 + a.place.toNat]? = some [.c (.int .u8 (m.getD a.place.toNat 0))] := by rw [Nat.zero_add]; exact bget (by omega)
  have hset:(bcells m).set a.place.toNat (spl [.c (.int .u8 (m.getD a.place.toNat 0))] 0 [.c (.int .u8 a.d)]) = bcells (m.set a.place.toNat a.d) := bcells_set m _ _
  have hw:IntKind.wrap .u8 a.d = a.d := wrap_u8 _ hd
  have hpe:({ a with o := max a.o a.r }:Dr).place = a.place := rfl
  rw [hpe] at hpl
  refine N.fnC Tryz.func189 k189 fun Q hQ hQN => ?_
  repeat' (first | (show WOpsT _ (⟨_,.st _ _ _,none⟩ :: _) _ _ _ _; refine T.st rfl rfl rfl ⟨rfl,rfl⟩ hg (Nat.le_of_ble_eq_true rfl) ?_) | rw [hset] | rw [hw] | rw [eor] | refine T.callQ [0] e201 rfl (hpl) (by exact pA) rfl rfl rfl (by exact rN) ?_ | exact ⟨⟩ | intro (K:KT) hK | intro hcd | (refine go1 ?_ ?_ <;> try clear hK K) | fail)
  all_goals (refine WS.gc [0,1] 1 rfl ?_ .rfl; symm; refine outH2 ?_ ?_; (· unfold Dr.done Dr.next; rw [if_neg (by omega)]; dsimp only; (repeat' split) <;> first | (exfalso; omega) | rfl); (· unfold Dr.doneM; rw [if_pos h]; exact outB_bytes))
def Dr.skip:Nat→Int→Dr→List Int→Dr×List Int
 | 0,_,a,m => (a,m)
 | f + 1,k,a,m => if k ≤ 0∨a.c ≤ 0 then (a,m) else if 3 ≤ a.c∧a.k = 0 then ({ a with c := 0 },m) else if k < a.l then ({ a with l := a.l - k },m)
   else Dr.skip f (k - max 1 a.l) (Dr.done { a with l := 0 } m) (Dr.doneM { a with l := 0 } m)
theorem Dr.skip_fuel:∀ (f g:Nat) (k:Int) (a:Dr) (m:List Int),k.toNat ≤ f→k.toNat ≤ g→Dr.skip f k a m = Dr.skip g k a m:=by
 intro f
 induction f with
 | zero =>
  intro g k a m h1 h2
  cases g with
  | zero => rfl
  | succ g => simp only [Dr.skip]; rw [if_pos (by omega)]
 | succ f ih =>
  intro g k a m h1 h2
  cases g with
  | zero => simp only [Dr.skip]; rw [if_pos (by omega)]
  | succ g =>
   simp only [Dr.skip]
   split
   ·rfl
   ·rename_i h
    split
    ·rfl
    ·split
     ·rfl
     ·exact ih g _ _ _ (by omega) (by omega)
theorem getD_set (m:List Int) (i j:Nat) (d:Int):(m.set i d).getD j 0 = if i = j∧i < m.length then d else m.getD j 0:=by
 rw [List.getD_eq_getElem?_getD,List.getD_eq_getElem?_getD,List.getElem?_set]
 by_cases h:i = j
 ·subst h
  by_cases h2:i < m.length
  ·rw [if_pos rfl,if_pos h2,if_pos ⟨rfl,h2⟩]; rfl
  ·rw [if_pos rfl,if_neg h2,if_neg (fun h => h2 h.2),List.getElem?_eq_none (by omega)]
 ·rw [if_neg h,if_neg (fun h' => h h'.1)]
theorem Bytes.set {m:List Int} (h:Bytes m) (i:Nat) (d:Int) (hd:0 ≤ d∧d < 256):Bytes (m.set i d):=by
 intro j
 rw [getD_set]
 split
 ·exact hd
 ·exact h j
theorem Dr.done_ok (a:Dr) (m:List Int) (nd:Nat) (H:a.Ok m nd) (h1:1 ≤ a.c) (h3:3 ≤ a.c→1 ≤ a.k):(a.done m).Ok (a.doneM m) nd:=by
 obtain ⟨hk,ht,hc,hs,hi,hl,hd,hr,ho,hx,hm,hnd,hB⟩ := H
 have hg := hB a.place.toNat
 unfold Dr.done Dr.doneM Dr.next
 constructor <;> (try dsimp only) <;> (repeat' split) <;> first | omega | (rw [List.length_set]; omega) | exact hB | exact hB.set _ _ hd | (dsimp only; omega) | skip
theorem drvskip (a:Dr) (m:List Int) (nd:Nat) (k:Int) (H:a.Ok m nd) (hk:k ≤ 4611686018427387904):FnE Tryz.prog 171 [dev (dr10 a) m,I k] [] (dev (dr10 (Dr.skip k.toNat k a m).1) (Dr.skip k.toNat k a m).2) []:=by
 refine N.fnC Tryz.func171 k171 fun Q hQ hQN => ?_
 obtain ⟨A,M,hAM⟩:∃ A M,Dr.skip k.toNat k a m = (A,M) := ⟨_,_,rfl⟩
 rw [hAM] at hQ hQN
 have hML:M.length = m.length:=by
  have key:∀ (f:Nat) (k:Int) (a:Dr) (m:List Int),(Dr.skip f k a m).2.length = m.length:=by
   intro f
   induction f with
   | zero => intro k a m; rfl
   | succ f ih =>
    intro k a m
    simp only [Dr.skip]
    (repeat' split) <;> first | rfl | (rw [ih]; unfold Dr.doneM; split <;> first | rw [List.length_set] | rfl)
  have := key k.toNat k a m
  rw [hAM] at this
  exact this
 repeat' (first | refine T.callN e136 rfl (drvfit a m nd H) (by simp) ?_ | exact ⟨⟩ | intro (K:KT) hK | intro hcd | (refine goB ?_ ?_ <;> try clear hK K) | fail)
 refine N.blockC [(4,.ptr 1 1 0 0),(5,.psl 2 1 0 10),(6,.psl 3 1 0 m.length)] [⟨1,2,[[.sl 1 (cells (dr10 a)),.sl 1 (bcells m)]]⟩,⟨1,2,[[.c (.slice none 0 0),.c (.slice none 0 0)]]⟩,drB A,memB M] rfl (fun C hC => ?_) ?_
 ·refine N.loop (σ := Int×Dr×List Int) (fun s => [(1,I s.1),(4,.ptr 1 1 0 0),(5,.psl 2 1 0 10),(6,.psl 3 1 0 m.length)]) (fun s => [⟨1,2,[[.sl 1 (cells (dr10 a)),.sl 1 (bcells m)]]⟩,⟨1,2,[[.c (.slice none 0 0),.c (.slice none 0 0)]]⟩,drB s.2.1,memB s.2.2])
   (fun s => s.2.1.Ok s.2.2 nd∧s.1 ≤ k∧Dr.skip s.1.toNat s.1 s.2.1 s.2.2 = (A,M)) (fun s => s.1.toNat) (k,a,m) ⟨H,Int.le_refl _,hAM⟩ (Weaks.sel (by exact sB) rfl) fun s hs C' hC' => ?_
  obtain ⟨q,b,M1⟩ := s
  obtain ⟨Hb,hq,hA⟩ := hs
  dsimp only at Hb hq hA ⊢
  have hNl:M1.length = m.length := by rw [Hb.len,H.len]
  have hl := Hb.l
  have hbc := Hb.c
  by_cases h1:0 < q∧0 < b.c
  ·obtain ⟨f,hf⟩:∃ f,q.toNat = f + 1 := ⟨q.toNat - 1,by omega⟩
   rw [hf] at hA
   simp only [Dr.skip] at hA
   rw [if_neg (by omega)] at hA
   by_cases h2:3 ≤ b.c∧b.k = 0
   ·rw [if_pos h2] at hA
    obtain ⟨rfl,rfl⟩ := Prod.mk.inj hA
    repeat' (first | exact ⟨⟩ | intro (K:KT) hK | intro hcd | (refine go1 ?_ ?_ <;> try clear hK K) | fail)
    exact hC _ _ (Weaks.sel (by exact sB) rfl)
   ·rw [if_neg h2] at hA
    by_cases h3:q < b.l
    ·rw [if_pos h3] at hA
     obtain ⟨rfl,rfl⟩ := Prod.mk.inj hA
     repeat' (first | exact ⟨⟩ | intro (K:KT) hK | intro hcd | (refine go1 ?_ ?_ <;> try clear hK K) | fail)
     all_goals exact hC _ _ (Weaks.sel (by exact sB) rfl)
    ·rw [if_neg h3] at hA
     have H0:({ b with l := 0 }:Dr).Ok M1 nd := { Hb with l := by dsimp only; omega }
     have hkk := Hb.k
     have hd := drvdone { b with l := 0 } M1 nd H0 (by dsimp only; omega) (by dsimp only; omega)
     have hdo := Dr.done_ok { b with l := 0 } M1 nd H0 (by dsimp only; omega) (by dsimp only; omega)
     rw [hNl] at hd
     repeat' (first | refine T.cP [2,3] e189 (hd) ?_ | exact ⟨⟩ | intro (K:KT) hK | intro hcd | (refine go1 ?_ ?_ <;> try clear hK K) | fail)
     all_goals exact hC' _ _ (q - max 1 b.l,Dr.done { b with l := 0 } M1,Dr.doneM { b with l := 0 } M1) ⟨hdo,by dsimp only; omega,by dsimp only; rw [← hA]; exact Dr.skip_fuel _ _ _ _ _ (by omega) (by omega)⟩ (by dsimp only; omega) (Weaks.sel (by exact sB) rfl)
  ·have hA2:(b,M1) = (A,M):=by
    rw [← hA]
    cases hf:q.toNat with
    | zero => rfl
    | succ f => simp only [Dr.skip]; rw [if_pos (by omega)]
   obtain ⟨rfl,rfl⟩ := Prod.mk.inj hA2
   by_cases h2:0 < q
   ·skip
    repeat' (first | exact ⟨⟩ | intro (K:KT) hK | intro hcd | (refine go1 ?_ ?_ <;> try clear hK K) | fail)
    exact hC _ _ (Weaks.sel (by exact sB) rfl)
   ·skip
    repeat' (first | exact ⟨⟩ | intro (K:KT) hK | intro hcd | (refine go1 ?_ ?_ <;> try clear hK K) | fail)
    exact hC _ _ (Weaks.sel (by exact sB) rfl)
 repeat' (first | exact ⟨⟩ | intro (K:KT) hK | intro hcd | (refine go1 ?_ ?_ <;> try clear hK K) | fail)
 exact WS.dev2 rfl rfl (Nat.le_refl _) rfl (by omega)
end Go.Proofs.YtonhglhdlgbcnabGreat.Calc
namespace Go.Proofs.YtonhglhdlgbcnabGreat.Calc
open Go Code
set_option linter.unusedSimpArgs false
set_option linter.unusedVariables false
set_option maxRecDepth 20000
set_option maxHeartbeats 4000000
attribute [local irreducible] WOpsT AW AK RK AKW UK UC
def cpy (z b:List Int) (o:Nat):List Int := (List.range z.length).map fun j => if o ≤ j∧j < o + b.length then b.getD (j - o) 0 else z.getD j 0
theorem cpy_len (z b:List Int) (o:Nat):(cpy z b o).length = z.length := by simp [cpy]
theorem cpy_bytes {z b:List Int} (hz:Bytes z) (hb:Bytes b) (o:Nat):Bytes (cpy z b o):=by
 intro i
 rw [List.getD_eq_getElem?_getD]
 unfold cpy
 rw [List.getElem?_map]
 by_cases hi:i < z.length
 ·rw [List.getElem?_range hi]
  simp only [Option.map_some,Option.getD_some]
  split
  ·exact hb _
  ·exact hz _
 ·rw [List.getElem?_eq_none (by simp; omega)]
  exact ⟨Int.le_refl 0,by show (0:Int) < 256; decide⟩
theorem cpy_eq (z b:List Int) (o:Nat) (h:o + b.length ≤ z.length):cpy z b o = z.take o ++ b ++ z.drop (o + b.length):=by
 apply List.ext_getElem?
 intro j
 unfold cpy
 rw [List.getElem?_map]
 have e1:(z.take o).length = o := by rw [List.length_take]; omega
 by_cases hj:j < z.length
 ·rw [List.getElem?_range hj]
  simp only [Option.map_some,List.getD_eq_getElem?_getD]
  by_cases h1:j < o
  ·rw [if_neg (by omega),List.append_assoc,List.getElem?_append_left (by omega),List.getElem?_take_of_lt h1,List.getElem?_eq_getElem hj]; rfl
  ·by_cases h2:j < o + b.length
   ·rw [if_pos (by omega),List.append_assoc,List.getElem?_append_right (by omega),e1,List.getElem?_append_left (by omega),List.getElem?_eq_getElem (show j - o < b.length by omega)]; rfl
   ·rw [if_neg (by omega),List.getElem?_append_right (by rw [List.length_append,e1]; omega),List.length_append,e1,List.getElem?_drop,show o + b.length + (j - (o + b.length)) = j by omega,List.getElem?_eq_getElem hj]; rfl
 ·rw [List.getElem?_eq_none (by simp; omega),List.getElem?_eq_none (by simp [e1]; omega)]; rfl
theorem bcells_app (a b:List Int):bcells a ++ bcells b = bcells (a ++ b) := by simp [bcells]
section
variable {P:Program} {rest:List AOper} {tr:Tr} {fr:Fr} {h:List Blk} {K:KT} {d:Option Nat}
theorem T.copyB {t s:AO} {b ver off len:Nat} {zs ys:List Int} (ht:t.ev (lk fr) = .psl b ver off len) (hb:h[b]? = some ⟨ver,1,bcells zs⟩) (hs:rowsOf (fun b => h[b]?) (s.ev (lk fr)) = some (1,bcells ys)) (hl:ys.length ≤ len∧off + len ≤ zs.length)
  (hK:WOpsT P rest (tr ++ [(b :: vlook (s.ev (lk fr)),[b])]) (put fr d (I ys.length)) (h.set b ⟨ver,1,bcells (cpy zs ys off)⟩) K):WOpsT P (⟨d,.copy 1 t s,none⟩ :: rest) tr fr h K :=
 T.copy ht hb hs ⟨rfl,rfl⟩ (by
  have e1:min (bcells ys).length len = ys.length := by rw [bcells_len]; omega
  have e2:(bcells zs).take off ++ (bcells ys).take len ++ (bcells zs).drop (off + ys.length) = bcells (cpy zs ys off):=by
   rw [cpy_eq zs ys off (by omega),bcells_take,bcells_take,bcells_drop,List.take_of_length_le hl.1,bcells_app,bcells_app]
  dsimp only
  rw [e1,e2]; exact hK)
end
theorem rows_b {bl:Nat→Option Blk} {b ver len:Nat} {ys:List Int} (hb:bl b = some ⟨ver,1,bcells ys⟩) (hl:ys.length ≤ len):rowsOf bl (.psl b ver 0 len) = some (1,bcells ys):=by
 unfold rowsOf
 simp only [hb]
 rw [if_pos trivial,List.drop_zero,List.take_of_length_le (by rw [bcells_len]; exact hl)]
theorem WS.bytes {h:List Blk} {b v len:Nat} {m:List Int} (hb:h[b]? = some ⟨v,1,bcells m⟩) (hl:m.length ≤ len):WeakS 0 (.psl b v 0 len) h (.sl 1 (bcells m)) [] :=
 WS.gc [] 1 rfl rfl (by rw [out_bytesK rfl hb hl]; exact .rfl)
theorem zerosB (n:Nat):List.replicate n [V.c (.int .u8 0)] = bcells (List.replicate n 0) := by simp [bcells]
theorem Bytes.zeros (n:Nat):Bytes (List.replicate n 0):=by
 intro i
 rw [List.getD_eq_getElem?_getD,List.getElem?_replicate]
 split <;> exact ⟨Int.le_refl 0,by show (0:Int) < 256; decide⟩
theorem bsetv (m:List Int) (k:Nat) (x v:Int):(bcells m).set k (spl [V.c (.int .u8 x)] 0 [V.c (.int .u8 v)]) = bcells (m.set k v) := by rw [← bcells_set]; rfl
theorem browv (m:List Int) (k:Nat) (hk:k < m.length):(bcells m)[k]? = some [.c (.int .u8 m[k])]:=by
 rw [bcells_get,List.getElem?_eq_getElem hk]; rfl
def ansL:List Int := [namV ⟨#[112,104,112]⟩,namV ⟨#[112,104,97]⟩,opV ⟨#[105,110,99]⟩ 2,9,opV ⟨#[108,100,97]⟩ 4,3,224,opV ⟨#[108,100,97]⟩ 4,16,224,namV ⟨#[112,108,97]⟩,namV ⟨#[112,108,112]⟩,namV ⟨#[114,116,105]⟩]
theorem ansL_bytes:Bytes ansL:=by
 have h := namV_range
 have k := opV_range
 unfold ansL
 refine .cons (.cons (.cons (.cons (.cons (.cons (.cons (.cons (.cons (.cons (.cons (.cons (.cons .nil ?_) ?_) ?_) ?_) ?_) ?_) ?_) ?_) ?_) ?_) ?_) ?_) ?_ <;> first | exact h _ | exact k _ _ | decide
def romOf (b:List Int):List Int := (((((((((cpy (((cpy (List.replicate 256 0) b 0).set b.length (namV ⟨#[106,109,112]⟩)).set (b.length + 1) 0 |>.set (b.length + 2) 255) ansL 180).set 250 180).set 251 255).set 254 180).set 255 255).set 252 0).set 253 255)))
theorem romOf_len (b:List Int):(romOf b).length = 256 := by unfold romOf; simp only [List.length_set,cpy_len,List.length_replicate]
theorem romOf_bytes (b:List Int) (hb:Bytes b):Bytes (romOf b):=by
 unfold romOf
 refine Bytes.set (Bytes.set (Bytes.set (Bytes.set (Bytes.set (Bytes.set (cpy_bytes (Bytes.set (Bytes.set (Bytes.set (cpy_bytes (Bytes.zeros _) hb _) _ _ (namV_range _)) _ _ (by decide)) _ _ (by decide)) ansL_bytes _) _ _ (by decide)) _ _ (by decide)) _ _ (by decide)) _ _ (by decide)) _ _ (by decide)) _ _ (by decide)
theorem rom_ex (l:List Int):∃ m:List Int,m.length = 256∧Bytes m∧FnE Tryz.prog 19 [.sl 1 (cells l)] [] (.sl 1 (bcells m)) []:=by
 obtain ⟨⟨bs,l2⟩,h1,h2,h3,hp⟩ := program_ex l 160 (by decide)
 dsimp only at h1 h2 h3 hp
 have n3 := next_ok l2 3 (by decide)
 have e3:∀ k:Nat,((k:Int) + 1).toNat = k + 1 := fun k => by omega
 have e4:∀ k:Nat,((k:Int) + 2).toNat = k + 2 := fun k => by omega
 have e5:((250:Int) + 1).toNat = 251 := rfl
 have e6:((254:Int) + 1).toNat = 255 := rfl
 have o1 := named_m ⟨#[112,104,112]⟩
 have o2 := named_m ⟨#[112,104,97]⟩
 have o3 := op_ok ⟨#[105,110,99]⟩ 2
 have o4 := op_ok ⟨#[108,100,97]⟩ 4
 have o5 := named_m ⟨#[112,108,97]⟩
 have o6 := named_m ⟨#[112,108,112]⟩
 have o7 := named_m ⟨#[114,116,105]⟩
 have o8 := named_m ⟨#[106,109,112]⟩
 have o9 := named_m ⟨#[99,108,105]⟩
 have hzl:(List.replicate 256 (0:Int)).length = 256 := List.length_replicate
 by_cases hc:0 < sval l2 3
 ·refine ⟨romOf (namV ⟨#[99,108,105]⟩ :: bs),romOf_len _,romOf_bytes _ (h2.cons (namV_range _)),?_⟩
  unfold romOf
  rw [List.length_cons]
  obtain ⟨c,hc9⟩:∃ c,namV ⟨#[99,108,105]⟩ = c := ⟨_,rfl⟩
  obtain ⟨q,hq⟩:∃ q,c :: bs = q := ⟨_,rfl⟩
  have hql:q.length = bs.length + 1 := by rw [← hq]; rfl
  rw [hc9] at o9 ⊢
  rw [hq,← hql]
  refine N.fnC Tryz.func19 k19 fun Q hQ hQN => ?_
  repeat' (first | rw [zerosB] | refine T.appBs (xs := [c]) (ys := bs) rfl rfl rfl rfl ⟨by decide,by omega⟩ ?_ | refine T.copyB (ys := q) rfl rfl (by rw [← hq]; exact rows_b rfl (by rw [List.length_cons]; omega)) ⟨by omega,by rw [hzl]; decide⟩ ?_ | rw [e3] | rw [e4] | rw [Int.toNat_natCast] | (show WOpsT _ (⟨_,.st _ _ _,none⟩ :: _) _ _ _ _; refine T.st rfl rfl rfl ⟨rfl,rfl⟩ (browv _ _ (by simp only [List.length_set,cpy_len,List.length_replicate]; omega)) lb ?_) | rw [bsetv] | (show AK _ _ (.loop _) _ _ _ _; refine N.unroll 3 ?_) | rw [e5] | rw [e6] | refine T.copyB (ys := ansL) rfl rfl (rows_b rfl lb) ⟨lb,by simp only [List.length_set,cpy_len,List.length_replicate]; decide⟩ ?_ | (show WC _ _ _ _ _ _ _ _ _; first | refine T.cP [0] e41 (hp) ?_ | refine T.call1 0 e17 rfl rfl (n3) ?_ | refine T.call0 e42 rfl o1 ?_ | refine T.call0 e42 rfl o2 ?_ | refine T.call0 e43 rfl o3 ?_ | refine T.call0 e43 rfl o4 ?_ | refine T.call0 e42 rfl o5 ?_ | refine T.call0 e42 rfl o6 ?_ | refine T.call0 e42 rfl o7 ?_ | refine T.call0 e42 rfl o8 ?_ | refine T.call0 e42 rfl o9 ?_) | exact ⟨⟩ | intro (K:KT) hK | intro hcd | (refine go1 ?_ ?_ <;> try clear hK K) | fail)
  exact WS.bytes rfl (by simp only [List.length_set,cpy_len,List.length_replicate]; exact Nat.le_refl _)
 ·refine ⟨romOf bs,romOf_len _,romOf_bytes _ h2,?_⟩
  unfold romOf
  refine N.fnC Tryz.func19 k19 fun Q hQ hQN => ?_
  repeat' (first | rw [zerosB] | refine T.copyB (ys := bs) rfl rfl rfl ⟨by omega,by rw [hzl]; decide⟩ ?_ | rw [e3] | rw [e4] | rw [Int.toNat_natCast] | (show WOpsT _ (⟨_,.st _ _ _,none⟩ :: _) _ _ _ _; refine T.st rfl rfl rfl ⟨rfl,rfl⟩ (browv _ _ (by simp only [List.length_set,cpy_len,List.length_replicate]; omega)) lb ?_) | rw [bsetv] | (show AK _ _ (.loop _) _ _ _ _; refine N.unroll 3 ?_) | rw [e5] | rw [e6] | refine T.copyB (ys := ansL) rfl rfl (rows_b rfl lb) ⟨lb,by simp only [List.length_set,cpy_len,List.length_replicate]; decide⟩ ?_ | (show WC _ _ _ _ _ _ _ _ _; first | refine T.cP [0] e41 (hp) ?_ | refine T.call1 0 e17 rfl rfl (n3) ?_ | refine T.call0 e42 rfl o1 ?_ | refine T.call0 e42 rfl o2 ?_ | refine T.call0 e43 rfl o3 ?_ | refine T.call0 e43 rfl o4 ?_ | refine T.call0 e42 rfl o5 ?_ | refine T.call0 e42 rfl o6 ?_ | refine T.call0 e42 rfl o7 ?_ | refine T.call0 e42 rfl o8 ?_ | refine T.call0 e42 rfl o9 ?_) | exact ⟨⟩ | intro (K:KT) hK | intro hcd | (refine go1 ?_ ?_ <;> try clear hK K) | fail)
  exact WS.bytes rfl (by simp only [List.length_set,cpy_len,List.length_replicate]; exact Nat.le_refl _)
end Go.Proofs.YtonhglhdlgbcnabGreat.Calc
namespace Go.Proofs.YtonhglhdlgbcnabGreat.Calc
open Go
set_option linter.unusedVariables false
set_option linter.unusedSimpArgs false
structure Chp where
 name:ByteArray
 kind:Int
 base:Int
 size:Int
 data:List Int
structure Wir where
 src:ByteArray
 dst:ByteArray
structure Brd where
 name:ByteArray
 cpu:Cpu
 chips:List Chp
 wires:List Wir
def chV (c:Chp):List V := [.c (.string c.name),I c.kind,I c.base,I c.size,.sl 1 (bcells c.data)]
def wiV (w:Wir):List V := [.c (.string w.src),.c (.string w.dst)]
def boV (b:Brd):List V := .c (.string b.name) :: cpC b.cpu ++ [.sl 5 (b.chips.map chV),.sl 2 (b.wires.map wiV)]
def daV (l:List Int):V := match l with
 | [] => .c (.slice none 0 0)
 | a :: l => .sl 1 (bcells (a :: l))
def chQ (c:Chp):List V := [.c (.string c.name),I c.kind,I c.base,I c.size,daV c.data]
instance:Flat chV := ⟨fun a x hx => by simp [chV] at hx; rcases hx with rfl | rfl | rfl | rfl | rfl <;> first | exact .inl ⟨_,rfl⟩ | exact .inr ⟨_,_,rfl⟩⟩
instance:Flat wiV := ⟨fun a x hx => by simp [wiV] at hx; rcases hx with rfl | rfl <;> exact .inl ⟨_,rfl⟩⟩
instance:Flat chQ := ⟨fun a x hx => by
 obtain ⟨n,k,b,s,d⟩ := a
 cases d with
 | nil => simp [chQ,daV] at hx; rcases hx with rfl | rfl | rfl | rfl | rfl <;> exact .inl ⟨_,rfl⟩
 | cons v d => simp [chQ,daV] at hx; rcases hx with rfl | rfl | rfl | rfl | rfl <;> first | exact .inl ⟨_,rfl⟩ | exact .inr ⟨_,_,rfl⟩⟩
theorem sub_daV (l:List Int):Sub (daV l) (.sl 1 (bcells l)) := by cases l <;> first | exact .nil | exact .rfl
def sIrq:ByteArray := ⟨#[46,105,114,113]⟩
def sCpuIrq:ByteArray := ⟨#[99,112,117,46,105,114,113]⟩
def sChip:ByteArray := ⟨#[99,104,105,112,45]⟩
def kdN (m:Nat):Nat := [3,5,4,6,7,8,2,3].getD m 0
def szN (k:Nat):Nat := [0,0,9,4,2,3,32,8,4].getD k 0
def chipN (i:Nat):ByteArray := sChip ++ Utf8.encode (97 + (i:Int))
def drvD (i n k:Nat):List Int := (List.range n).map fun j => if j < k then IntKind.wrap .u8 ((j:Int) * 7 + i) else 0
def datB (k i:Nat) (l:List Int):List Int×List Int :=
 if k = 8 then (drvD i (256 * (1 + (sval l 2).toNat)) (256 * (1 + (sval l 2).toNat)),srest l 2)
 else if k = 2 then (bytesOf [sval l 256,sval (srest l 256) 256] (8 + 8 * (sval (srest (srest l 256) 256) 3).toNat),srest (srest (srest l 256) 256) 3)
 else ([],l)
def wirB (k:Nat) (n:ByteArray) (l:List Int):List Wir×List Int :=
 if k = 3∨k = 5∨k = 8 then (if 0 < sval l 3 then [⟨n ++ sIrq,sCpuIrq⟩] else [],srest l 3) else ([],l)
def mkChp (k i:Nat) (a:Int) (d:List Int):Chp := ⟨chipN i,k,a,szN k,d⟩
def stepBd (k i:Nat) (a:Int) (l:List Int):Chp×List Wir×List Int :=
 (mkChp k i a (datB k i l).1,wirB k (chipN i) (datB k i l).2)
def goBd:Nat→Nat→Int→List Chp→List Wir→List Int→List Chp×List Wir×List Int
 | 0,_,_,cs,ws,l => (cs,ws,l)
 | n + 1,i,a,cs,ws,l =>
  goBd n (i + 1) (a + ((szN (kdN (sval l 8).toNat):Int) + 15) / 16 * 16) (cs ++ [(stepBd (kdN (sval l 8).toNat) i a (srest l 8)).1]) (ws ++ (stepBd (kdN (sval l 8).toNat) i a (srest l 8)).2.1) (stepBd (kdN (sval l 8).toNat) i a (srest l 8)).2.2
def ramC:Chp := ⟨⟨#[114,97,109]⟩,0,0,768,[]⟩
noncomputable def romD (l:List Int):List Int := (rom_ex l).choose
noncomputable def romC (l:List Int):Chp := ⟨⟨#[114,111,109]⟩,1,65280,256,romD l⟩
def bdOf (l:List Int):List Chp×List Wir×List Int := goBd (sval l 5).toNat 0 57344 [ramC] [] (srest l 5)
noncomputable def mkBrd (l:List Int):Brd := ⟨⟨#[98,111,97,114,100]⟩,stdM,(bdOf l).1 ++ [romC (bdOf l).2.2],(bdOf l).2.1⟩
theorem romD_ok (l:List Int):(romD l).length = 256∧Bytes (romD l)∧FnE Tryz.prog 19 [.sl 1 (cells l)] [] (.sl 1 (bcells (romD l))) [] := (rom_ex l).choose_spec
theorem drvD_len (i n k:Nat):(drvD i n k).length = n := by simp [drvD]
theorem drvD_zero (i n:Nat):drvD i n 0 = List.replicate n 0:=by
 apply List.ext_getElem?
 intro j
 simp only [drvD,List.getElem?_map,List.getElem?_replicate,Nat.not_lt_zero,if_false]
 by_cases hj:j < n
 ·rw [if_pos hj,List.getElem?_range hj]; rfl
 ·rw [if_neg hj,List.getElem?_eq_none (by simp; omega)]; rfl
theorem drvD_set (i n k:Nat) (hk:k < n):(drvD i n k).set k (IntKind.wrap .u8 ((k:Int) * 7 + i)) = drvD i n (k + 1):=by
 apply List.ext_getElem?
 intro j
 simp only [drvD]
 by_cases hij:k = j
 ·subst hij
  rw [List.getElem?_set_self (by simpa using hk),List.getElem?_map,List.getElem?_range hk]
  simp
 ·rw [List.getElem?_set_ne hij,List.getElem?_map,List.getElem?_map]
  by_cases hj:j < n
  ·rw [List.getElem?_range hj]
   simp only [Option.map_some]
   by_cases h2:j < k
   ·rw [if_pos h2,if_pos (by omega)]
   ·rw [if_neg h2,if_neg (by omega)]
  ·rw [List.getElem?_eq_none (by simp; omega)]; rfl
theorem drvD_bytes (i n k:Nat):Bytes (drvD i n k):=by
 intro j
 simp only [drvD,List.getD_eq_getElem?_getD,List.getElem?_map]
 by_cases hi:j < n
 ·rw [List.getElem?_range hi]
  simp only [Option.map_some,Option.getD_some]
  split
  ·exact wrapB _
  ·exact ⟨Int.le_refl 0,by decide⟩
 ·rw [List.getElem?_eq_none (by simp; omega)]
  exact ⟨Int.le_refl 0,by show (0:Int) < 256; decide⟩
theorem kdN_r (m:Nat) (h:m < 8):2 ≤ kdN m∧kdN m ≤ 8:=by
 match m with
 | 0 => decide
 | 1 => decide
 | 2 => decide
 | 3 => decide
 | 4 => decide
 | 5 => decide
 | 6 => decide
 | 7 => decide
theorem szN_r (k:Nat):szN k ≤ 32:=by
 match k with
 | 0 => decide
 | 1 => decide
 | 2 => decide
 | 3 => decide
 | 4 => decide
 | 5 => decide
 | 6 => decide
 | 7 => decide
 | 8 => decide
 | k + 9 => exact Nat.zero_le _
theorem kd_rows (m:Nat) (h:m < 8):([[I 3],[I 5],[I 4],[I 6],[I 7],[I 8],[I 2],[I 3]]:List (List V))[m]? = some [I (kdN m:Nat)]:=by
 match m with
 | 0 => rfl
 | 1 => rfl
 | 2 => rfl
 | 3 => rfl
 | 4 => rfl
 | 5 => rfl
 | 6 => rfl
 | 7 => rfl
theorem sz_rows (k:Nat) (h:k < 9):([[I 0],[I 0],[I 9],[I 4],[I 2],[I 3],[I 32],[I 8],[I 4]]:List (List V))[k]? = some [I (szN k:Nat)]:=by
 match k with
 | 0 => rfl
 | 1 => rfl
 | 2 => rfl
 | 3 => rfl
 | 4 => rfl
 | 5 => rfl
 | 6 => rfl
 | 7 => rfl
 | 8 => rfl
theorem wrapi32 (n:Int) (h:0 ≤ n∧n < 1000):IntKind.wrap .i32 n = n:=by
 simp [IntKind.wrap,IntKind.signed,IntKind.bits]; omega
theorem encSize:∀ v:Nat,v < 26→(Utf8.encode (97 + (v:Int))).size = 1 := by decide +kernel
theorem chipN_size (i:Nat) (h:i < 26):(chipN i).size = 6:=by
 unfold chipN
 rw [ByteArray.size_append,encSize i h]; rfl
theorem catV (a b:ByteArray) (ha:a.size ≤ 1000∧b.size ≤ 1000):binV .add (.string a) (.string b) = some (.string (a ++ b)):=by
 simp only [binV]
 rw [if_pos (by omega)]
end Go.Proofs.YtonhglhdlgbcnabGreat.Calc
namespace Go.Proofs.YtonhglhdlgbcnabGreat.Calc
open Go Code
set_option linter.unusedSimpArgs false
set_option linter.unusedVariables false
set_option maxRecDepth 20000
set_option maxHeartbeats 4000000
attribute [local irreducible] WOpsT AW AK RK AKW UK UC
def cR (nm:ByteArray) (k b s:Int) (d:List Int):List V := [.c (.string nm),I k,I b,I s,.sl 1 (bcells d)]
theorem Sub.devR (m:List Int):Sub (.agg [.c (.slice none 0 0),.sl 1 (bcells m)]) (dev [] m):=by
 refine .agg (Eq.refl _) fun i x y hx hy => ?_
 match i with
 | 0 => cases hx; cases hy; exact .nil
 | 1 => cases hx; cases hy; exact .rfl
 | i + 2 => cases hx
theorem WS.devR {h:List Blk} {b v len:Nat} {m:List Int} (h1:h[b]? = some ⟨v,1,bcells m⟩) (hl:m.length ≤ len):WeakS 0 (.agg [.c (.slice none 0 0),.psl b v 0 len]) h (dev [] m) [] :=
 WS.gc [] 1 rfl rfl (by rw [out_agg]; simp only [List.map]; rw [out_bytes h1 hl]; exact Sub.devR m)
theorem WS.devRt {h:List Blk} {b v len:Nat} {m:List Int} {x:Value} (h1:h[b]? = some ⟨v,1,bcells m⟩) (hl:m.length ≤ len):WeakS 0 (.tup [.agg [.c (.slice none 0 0),.psl b v 0 len],.c x]) h (.tup [dev [] m,.c x]) [] :=
 WS.gc [] 1 rfl rfl (by rw [out_tup]; simp only [List.map]; rw [out_agg]; simp only [List.map]; rw [out_bytes h1 hl]; exact Sub.tup2 (Sub.devR m) .rfl)
theorem cpy_full (z m:List Int) (h:m.length = z.length):cpy z m 0 = m:=by
 rw [cpy_eq z m 0 (by omega),List.take_zero,List.nil_append,Nat.zero_add,List.drop_of_length_le (by omega),List.append_nil]
theorem wrapU8 (d:Int):IntKind.wrap .u8 (d % 2 ^ 8) = d % 256:=by
 rw [show (2:Int) ^ 8 = 256 by decide]; exact wrap_u8 _ ⟨by omega,by omega⟩
section
variable (nm:ByteArray) (b:Int) (d:List Int)
theorem bytes_m (k:Int) (s:Nat) (hk:k = 0∨k = 1) (hs:s ≤ 4096):FnE Tryz.prog 49 [.agg (cR nm k b s d)] [] (I s) []:=by
 have e:max (0:Int) (min (s:Int) 65536) = s := by omega
 rcases hk with rfl | rfl
 all_goals
  refine N.fnC Tryz.func49 k49 fun Q hQ hQN => ?_
  repeat' (first | exact ⟨⟩ | intro (K:KT) hK | intro hcd | (refine go1 ?_ ?_ <;> try clear hK K) | fail)
  exact WS.c rfl (by rw [e])
theorem new_m (k:Int) (s:Nat) (hk:k = 0∨k = 1) (hs:s ≤ 4096) (hd:d.length ≤ s):FnE Tryz.prog 22 [.agg (cR nm k b s d)] [] (dev [] (cpy (List.replicate s 0) d 0)) []:=by
 have hb := bytes_m nm b d k s hk hs
 have e:((s:Nat):Int).toNat = s := by omega
 rcases hk with rfl | rfl
 all_goals
  refine N.fnC Tryz.func22 k22 fun Q hQ hQN => ?_
  repeat' (first | (show WOpsT _ (⟨_,.mksl _ _ _ _,none⟩ :: _) _ _ _ _; refine T.mksl rfl rfl ⟨by decide,by decide,by omega,by omega,by omega⟩ ?_) | rw [e] | rw [zerosB] | refine T.copyB rfl rfl rfl ⟨hd,by rw [List.length_replicate]; omega⟩ ?_ | refine T.call0 e49 rfl hb ?_ | exact ⟨⟩ | intro (K:KT) hK | intro hcd | (refine go1 ?_ ?_ <;> try clear hK K) | fail)
  exact WS.devR rfl (by rw [cpy_len,List.length_replicate]; exact Nat.le_refl _)
theorem fit_m (k:Int) (s:Nat) (hk:k = 0∨k = 1) (hs:s ≤ 4096) (m:List Int) (hm:m.length = s):FnE Tryz.prog 127 [.agg (cR nm k b s d),dev [] m] [] (.agg [.c (.slice none 0 0),.psl 0 1 0 s]) [⟨1,1,bcells m⟩]:=by
 have hb := bytes_m nm b d k s hk hs
 have e:((s:Nat):Int).toNat = s := by omega
 have ec:cpy (List.replicate s 0) m 0 = m := cpy_full _ _ (by rw [List.length_replicate]; exact hm)
 rcases hk with rfl | rfl
 all_goals
  refine N.fnC Tryz.func127 k127 fun Q hQ hQN => ?_
  repeat' (first | (show WOpsT _ (⟨_,.mksl _ _ _ _,none⟩ :: _) _ _ _ _; refine T.mksl rfl rfl ⟨by decide,by decide,by omega,by omega,by omega⟩ ?_) | rw [e] | rw [zerosB] | refine T.copyB (ys := m) rfl rfl rfl ⟨by omega,by rw [List.length_replicate]; omega⟩ ?_ | rw [ec] | refine T.call0 e49 rfl hb ?_ | exact ⟨⟩ | intro (K:KT) hK | intro hcd | (refine go1 ?_ ?_ <;> try clear hK K) | fail)
  exact WS.gc [3] 0 rfl (by show [_] = [outB _ _ _ ⟨1,1,bcells m⟩]; rw [outB_bytes]) .rfl
theorem place_m (k:Int) (s:Nat) (hk:k = 0∨k = 1) (m:List Int) (hm:m.length = s) (a:Int) (ha:0 ≤ a∧a < s):FnE Tryz.prog 128 [.agg (cR nm k b s d),.agg [.c (.slice none 0 0),.psl 0 1 0 s],I a] [⟨1,1,bcells m⟩] (I a) [⟨1,1,bcells m⟩]:=by
 rcases hk with rfl | rfl
 all_goals
  refine N.fnC Tryz.func128 k128 fun Q hQ hQN => ?_
  repeat' (first | exact ⟨⟩ | intro (K:KT) hK | intro hcd | (refine go1 ?_ ?_ <;> try clear hK K) | fail)
  all_goals first | exact WS.gc [0] 0 rfl (by exact oO) .rfl | (exfalso; omega)
theorem read_m (k:Int) (s:Nat) (hk:k = 0∨k = 1) (hs:s ≤ 4096) (m:List Int) (hm:m.length = s) (hb:Bytes m) (a:Int) (ha:0 ≤ a∧a < s):FnE Tryz.prog 77 [.agg (cR nm k b s d),dev [] m,I a] [] (.tup [dev [] m,I (m.getD a.toNat 0)]) []:=by
 have hf := fit_m nm b d k s hk hs m hm
 have hp := place_m nm b d k s hk m hm a ha
 have hl:a.toNat < m.length := by omega
 have hr := bget (m := m) hl
 have hb := hb a.toNat
 generalize m.getD a.toNat 0 = v at *
 have hw:IntKind.wrap .i64 v = v := wrap64 (by omega) (by omega)
 rcases hk with rfl | rfl
 all_goals
  refine N.fnC Tryz.func77 k77 fun Q hQ hQN => ?_
  repeat' (first | (show WOpsT _ (⟨_,.ld _ _,none⟩ :: _) _ _ _ _; refine T.ld rfl rfl rfl hr rfl ?_) | rw [hw] | (show WC _ _ _ _ _ _ _ _ _; first | refine T.callN e127 rfl (hf) (by simp) ?_ | refine T.cP [3] e128 (hp) ?_) | exact ⟨⟩ | intro (K:KT) hK | intro hcd | (refine go1 ?_ ?_ <;> try clear hK K) | fail)
  exact WS.devRt (m := m) rfl (by omega)
theorem write_m0 (s:Nat) (hs:s ≤ 4096) (m:List Int) (hm:m.length = s) (a:Int) (ha:0 ≤ a∧a < s) (v:Int):FnE Tryz.prog 70 [.agg (cR nm 0 b s d),dev [] m,I a,I v] [] (dev [] (m.set a.toNat (v % 256))) []:=by
 have hf := fit_m nm b d 0 s (.inl rfl) hs m hm
 have hp := place_m nm b d 0 s (.inl rfl) m hm a ha
 have hl:a.toNat < m.length := by omega
 have hr := bget (m := m) hl
 have hlo := low_lit v 8 8 rfl (by decide)
 have hw := wrapU8 v
 refine N.fnC Tryz.func70 k70 fun Q hQ hQN => ?_
 repeat' (first | rw [hw] | refine rS hr ?_ | rw [bsetv] | (show WC _ _ _ _ _ _ _ _ _; first | refine T.callN e127 rfl (hf) (by simp) ?_ | refine T.cP [3] e128 (hp) ?_ | refine T.call0 e27 rfl hlo ?_) | exact ⟨⟩ | intro (K:KT) hK | intro hcd | (refine go1 ?_ ?_ <;> try clear hK K) | fail)
 exact WS.devR (m := m.set a.toNat (v % 256)) rfl (by rw [List.length_set]; omega)
theorem write_m1 (s:Nat) (hs:s ≤ 4096) (m:List Int) (hm:m.length = s) (a:Int) (ha:0 ≤ a∧a < s) (v:Int):FnE Tryz.prog 70 [.agg (cR nm 1 b s d),dev [] m,I a,I v] [] (dev [] m) []:=by
 have hf := fit_m nm b d 1 s (.inr rfl) hs m hm
 have hp := place_m nm b d 1 s (.inr rfl) m hm a ha
 refine N.fnC Tryz.func70 k70 fun Q hQ hQN => ?_
 repeat' (first | (show WC _ _ _ _ _ _ _ _ _; first | refine T.callN e127 rfl (hf) (by simp) ?_ | refine T.cP [3] e128 (hp) ?_) | exact ⟨⟩ | intro (K:KT) hK | intro hcd | (refine go1 ?_ ?_ <;> try clear hK K) | fail)
 exact WS.devR (m := m) rfl (by omega)
theorem window_k:FnE Tryz.prog 106 [.agg (cR nm 2 b 9 d)] [] (I 8) []:=by
 refine N.fnC Tryz.func106 k106 fun Q hQ hQN => ?_
 repeat' (first | exact ⟨⟩ | intro (K:KT) hK | intro hcd | (refine go1 ?_ ?_ <;> try clear hK K) | fail)
 exact WS.c rfl rfl
theorem banks_k (nb:Nat) (h1:1 ≤ nb∧nb ≤ 3) (hd:d.length = 8 * nb):FnE Tryz.prog 105 [.agg (cR nm 2 b 9 d)] [] (I nb) []:=by
 have hw := window_k nm b d
 have e0:((bcells d).length:Int) = 8 * nb := by rw [bcells_len,hd]; omega
 have e1:IntKind.wrap .i64 ((8 * (nb:Int) + 8 - 1).tdiv 8) = nb:=by
  rw [Int.tdiv_eq_ediv_of_nonneg (by omega),show (8 * (nb:Int) + 8 - 1) / 8 = nb by omega]; exact wrap64 (by omega) (by omega)
 have e2:max (1:Int) nb = nb := by omega
 refine N.fnC Tryz.func105 k105 fun Q hQ hQN => ?_
 repeat' (first | rw [e0] | rw [e1] | refine T.call0 e106 rfl hw ?_ | exact ⟨⟩ | intro (K:KT) hK | intro hcd | (refine go1 ?_ ?_ <;> try clear hK K) | fail)
 exact WS.c rfl (by rw [e2])
theorem bytes_k (nb:Nat) (h1:1 ≤ nb∧nb ≤ 3) (hd:d.length = 8 * nb):FnE Tryz.prog 49 [.agg (cR nm 2 b 9 d)] [] (I ((nb:Int) * 8)) []:=by
 have hw := window_k nm b d
 have hb := banks_k nm b d nb h1 hd
 refine N.fnC Tryz.func49 k49 fun Q hQ hQN => ?_
 repeat' (first | (show WC _ _ _ _ _ _ _ _ _; first | refine T.call0 e106 rfl hw ?_ | refine T.call0 e105 rfl hb ?_) | exact ⟨⟩ | intro (K:KT) hK | intro hcd | (refine go1 ?_ ?_ <;> try clear hK K) | fail)
 exact WS.c rfl rfl
theorem new_k (nb:Nat) (h1:1 ≤ nb∧nb ≤ 3) (hd:d.length = 8 * nb):FnE Tryz.prog 22 [.agg (cR nm 2 b 9 d)] [] (dev [0] d) []:=by
 have hb := bytes_k nm b d nb h1 hd
 have e:((nb:Int) * 8).toNat = d.length := by omega
 have ec:cpy (List.replicate d.length 0) d 0 = d := cpy_full _ _ (by rw [List.length_replicate])
 refine N.fnC Tryz.func22 k22 fun Q hQ hQN => ?_
 repeat' (first | (show WOpsT _ (⟨_,.mksl _ _ _ _,none⟩ :: _) _ _ _ _; refine T.mksl rfl rfl ⟨by decide,by decide,by omega,by omega,by omega⟩ ?_) | rw [e] | rw [zerosB] | refine T.copyB (ys := d) rfl rfl rfl ⟨Nat.le_refl _,by rw [List.length_replicate]; omega⟩ ?_ | rw [ec] | refine T.call0 e49 rfl hb ?_ | exact ⟨⟩ | intro (K:KT) hK | intro hcd | (refine go1 ?_ ?_ <;> try clear hK K) | fail)
 exact WS.dev2 (n := [0]) (m := d) rfl rfl lb rfl (Nat.le_refl _)
theorem fit_k (nb:Nat) (h1:1 ≤ nb∧nb ≤ 3) (hd:d.length = 8 * nb) (n:Int) (hn:0 ≤ n∧n < nb) (m:List Int) (hm:m.length = 8 * nb):FnE Tryz.prog 127 [.agg (cR nm 2 b 9 d),dev [n] m] [] (.agg [.psl 0 1 0 1,.psl 1 1 0 m.length]) [⟨1,1,cells [n]⟩,⟨1,1,bcells m⟩]:=by
 have hb := bytes_k nm b d nb h1 hd
 have hk := banks_k nm b d nb h1 hd
 have e:((nb:Int) * 8).toNat = m.length := by omega
 have ec:cpy (List.replicate m.length 0) m 0 = m := cpy_full _ _ (by rw [List.length_replicate])
 have t1:n.tmod nb = n := by rw [Int.tmod_eq_emod_of_nonneg hn.1,Int.emod_eq_of_lt hn.1 hn.2]
 have t2:(n + nb).tmod nb = n := by rw [Int.tmod_eq_emod_of_nonneg (by omega),Int.add_emod_right,Int.emod_eq_of_lt hn.1 hn.2]
 refine N.fnC Tryz.func127 k127 fun Q hQ hQN => ?_
 repeat' (first | (show WOpsT _ (⟨_,.mksl _ _ _ _,none⟩ :: _) _ _ _ _; refine T.mksl rfl rfl ⟨by decide,by decide,by omega,by omega,by omega⟩ ?_) | rw [e] | rw [zerosB] | refine T.copyB (ys := m) rfl rfl rfl ⟨Nat.le_refl _,by rw [List.length_replicate]; omega⟩ ?_ | rw [ec] | rw [t1] | rw [t2] | (show WC _ _ _ _ _ _ _ _ _; first | refine T.call0 e49 rfl hb ?_ | refine T.call0 e105 rfl hk ?_) | exact ⟨⟩ | intro (K:KT) hK | intro hcd | (refine go1 ?_ ?_ <;> try clear hK K) | fail)
 exact WS.gc [5,3] 0 rfl (by show [_,_] = [_,outB _ _ _ ⟨1,1,bcells m⟩]; rw [outB_bytes]; rfl) .rfl
theorem place_k (n:Int) (m:List Int) (hn:0 ≤ n∧n < 3) (a:Int) (ha:0 ≤ a∧a < 9):FnE Tryz.prog 128 [.agg (cR nm 2 b 9 d),.agg [.psl 0 1 0 1,.psl 1 1 0 m.length],I a] [⟨1,1,cells [n]⟩,⟨1,1,bcells m⟩] (I (if a = 0 then -1 else n * 8 + a - 1)) [⟨1,1,cells [n]⟩,⟨1,1,bcells m⟩]:=by
 have hw := window_k nm b d
 by_cases h0:a = 0
 ·rw [if_pos h0]; subst h0
  refine N.fnC Tryz.func128 k128 fun Q hQ hQN => ?_
  repeat' (first | refine T.call0 e106 rfl hw ?_ | exact ⟨⟩ | intro (K:KT) hK | intro hcd | (refine go1 ?_ ?_ <;> try clear hK K) | fail)
  exact WS.gc [0,1] 0 rfl (by exact oO) .rfl
 ·rw [if_neg h0]
  refine N.fnC Tryz.func128 k128 fun Q hQ hQN => ?_
  repeat' (first | refine T.call0 e106 rfl hw ?_ | exact ⟨⟩ | intro (K:KT) hK | intro hcd | (refine go1 ?_ ?_ <;> try clear hK K) | fail)
  all_goals first | exact WS.gc [0,1] 0 rfl (by exact oO) .rfl | (exfalso; omega)
def rdK (n:Int) (m:List Int) (a:Int):Int := if a = 0 then n else m.getD (n * 8 + a - 1).toNat 0
theorem read_k (nb:Nat) (h1:1 ≤ nb∧nb ≤ 3) (hd:d.length = 8 * nb) (n:Int) (hn:0 ≤ n∧n < nb) (m:List Int) (hm:m.length = 8 * nb) (hb:Bytes m) (a:Int) (ha:0 ≤ a∧a < 9):FnE Tryz.prog 77 [.agg (cR nm 2 b 9 d),dev [n] m,I a] [] (.tup [dev [n] m,I (rdK n m a)]) []:=by
 have hf := fit_k nm b d nb h1 hd n hn m hm
 have hp := place_k nm b d n m (by omega) a ha
 unfold rdK
 by_cases h0:a = 0
 ·rw [if_pos h0] at hp ⊢; subst h0
  refine N.fnC Tryz.func77 k77 fun Q hQ hQN => ?_
  repeat' (first | (show WC _ _ _ _ _ _ _ _ _; first | refine T.callN e127 rfl (hf) (by simp) ?_ | refine T.cP [3,4] e128 (hp) ?_) | exact ⟨⟩ | intro (K:KT) hK | intro hcd | (refine go1 ?_ ?_ <;> try clear hK K) | fail)
  exact WS.dev2t (n := [n]) (m := m) rfl rfl lb rfl (Nat.le_refl _)
 ·rw [if_neg h0] at hp ⊢
  have hl:(n * 8 + a - 1).toNat < m.length := by omega
  have hr := bget (m := m) hl
  have hb := hb (n * 8 + a - 1).toNat
  generalize m.getD (n * 8 + a - 1).toNat 0 = v at *
  have hw:IntKind.wrap .i64 v = v := wrap64 (by omega) (by omega)
  refine N.fnC Tryz.func77 k77 fun Q hQ hQN => ?_
  repeat' (first | (show WOpsT _ (⟨_,.ld _ _,none⟩ :: _) _ _ _ _; refine T.ld rfl rfl rfl hr rfl ?_) | rw [hw] | (show WC _ _ _ _ _ _ _ _ _; first | refine T.callN e127 rfl (hf) (by simp) ?_ | refine T.cP [3,4] e128 (hp) ?_) | exact ⟨⟩ | intro (K:KT) hK | intro hcd | (refine go1 ?_ ?_ <;> try clear hK K) | fail)
  exact WS.dev2t (n := [n]) (m := m) rfl rfl lb rfl (Nat.le_refl _)
theorem write_k (nb:Nat) (h1:1 ≤ nb∧nb ≤ 3) (hd:d.length = 8 * nb) (n:Int) (hn:0 ≤ n∧n < nb) (m:List Int) (hm:m.length = 8 * nb) (a:Int) (ha:0 ≤ a∧a < 9) (v:Int):FnE Tryz.prog 70 [.agg (cR nm 2 b 9 d),dev [n] m,I a,I v] [] (if a = 0 then dev [v % 256 % nb] m else dev [n] (m.set (n * 8 + a - 1).toNat (v % 256))) []:=by
 have hf := fit_k nm b d nb h1 hd n hn m hm
 have hk := banks_k nm b d nb h1 hd
 have hp := place_k nm b d n m (by omega) a ha
 have hlo := low_lit v 8 8 rfl (by decide)
 have hw := wrapU8 v
 by_cases h0:a = 0
 ·rw [if_pos h0] at hp ⊢; subst h0
  have t:(v % 2 ^ 8).tmod nb = v % 256 % nb := by rw [Int.tmod_eq_emod_of_nonneg (by omega)]; rfl
  refine N.fnC Tryz.func70 k70 fun Q hQ hQN => ?_
  repeat' (first | rw [t] | (show WC _ _ _ _ _ _ _ _ _; first | refine T.callN e127 rfl (hf) (by simp) ?_ | refine T.cP [3,4] e128 (hp) ?_ | refine T.call0 e27 rfl hlo ?_ | refine T.call0 e105 rfl hk ?_) | exact ⟨⟩ | intro (K:KT) hK | intro hcd | (refine go1 ?_ ?_ <;> try clear hK K) | fail)
  exact WS.dev2 (n := [v % 256 % nb]) (m := m) rfl rfl lb rfl (Nat.le_refl _)
 ·rw [if_neg h0] at hp ⊢
  have hl:(n * 8 + a - 1).toNat < m.length := by omega
  have hr := bget (m := m) hl
  refine N.fnC Tryz.func70 k70 fun Q hQ hQN => ?_
  repeat' (first | rw [hw] | refine rS hr ?_ | rw [bsetv] | (show WC _ _ _ _ _ _ _ _ _; first | refine T.callN e127 rfl (hf) (by simp) ?_ | refine T.cP [3,4] e128 (hp) ?_ | refine T.call0 e27 rfl hlo ?_) | exact ⟨⟩ | intro (K:KT) hK | intro hcd | (refine go1 ?_ ?_ <;> try clear hK K) | fail)
  exact WS.dev2 (n := [n]) (m := m.set (n * 8 + a - 1).toNat (v % 256)) rfl rfl lb rfl (by rw [List.length_set]; exact Nat.le_refl _)
end
end Go.Proofs.YtonhglhdlgbcnabGreat.Calc
namespace Go.Proofs.YtonhglhdlgbcnabGreat.Calc
open Go Code
set_option linter.unusedSimpArgs false
set_option linter.unusedVariables false
set_option maxRecDepth 20000
attribute [local irreducible] WOpsT AW AK RK AKW
theorem timfit_ok (a b c f:Int) (m:List Int):FnE Tryz.prog 129 [dev [a,b,c,f] m] [] (.psl 0 1 0 4) [⟨1,1,cells [a % 2 ^ 16,b % 2 ^ 16,c % 2 ^ 3,f % 2 ^ 1]⟩]:=by
 refine N.fnC Tryz.func129 k129 fun Q hQ hQN => ?_
 repeat' (first | (show WC _ _ _ _ _ _ _ _ _; first | refine T.call0 e27 rfl (low_lit _ 16 16 rfl (by decide)) ?_ | refine T.call0 e27 rfl (low_lit _ 3 3 rfl (by decide)) ?_ | refine T.call0 e27 rfl (low_lit _ 1 1 rfl (by decide)) ?_) | exact ⟨⟩ | intro (K:KT) hK | intro hcd | (refine go1 ?_ ?_ <;> try clear hK K) | fail)
 exact WS.keep1 rfl rfl
abbrev TimOk (a b c f:Int):Prop := 0 ≤ a∧a < 65536∧0 ≤ b∧b < 65536∧0 ≤ c∧c < 8∧0 ≤ f∧f < 2
theorem timfit (a b c f:Int) (m:List Int) (h:TimOk a b c f):FnE Tryz.prog 129 [dev [a,b,c,f] m] [] (.psl 0 1 0 4) [⟨1,1,cells [a,b,c,f]⟩]:=by
 have := timfit_ok a b c f m
 rwa [show a % 2 ^ 16 = a by omega,show b % 2 ^ 16 = b by omega,show c % 2 ^ 3 = c by omega,show f % 2 ^ 1 = f by omega] at this
theorem timnew_ok:FnE Tryz.prog 50 [] [] (dev [0,0,0,0] []) []:=by
 refine N.fnC Tryz.func50 k50 fun Q hQ hQN => ?_
 repeat' (first | exact ⟨⟩ | intro (K:KT) hK | intro hcd | (refine go1 ?_ ?_ <;> try clear hK K) | fail)
 exact WS.devN (m := 1) rfl rfl
def skip4 (a b c f s:Int):List Int :=
 if s ≤ 0 then [a,b,c,f] else if c % 2 = 0 then [a,b,c,f] else if s ≤ a then [a - s,b,c,f]
 else if c / 2 % 2 = 1 then [b - (s - a - 1) % (b + 1),b,c,1] else [0,b,c - c % 2,1]
theorem ctl_bits (c:Int) (h:0 ≤ c∧c < 8):bits .and .i64 c 1 = c % 2∧bits .and .i64 c 2 = c / 2 % 2 * 2∧bits .and .i64 c 4 = c / 4 % 2 * 4∧bits .andNot .i64 c 1 = c - c % 2:=by
 have:c = 0∨c = 1∨c = 2∨c = 3∨c = 4∨c = 5∨c = 6∨c = 7 := by omega
 rcases this with rfl | rfl | rfl | rfl | rfl | rfl | rfl | rfl <;> decide +kernel
theorem timskip_ok (a b c f s:Int) (m:List Int) (h:TimOk a b c f) (hs:s ≤ 9223372036854775807):FnE Tryz.prog 166 [dev [a,b,c,f] m,I s] [] (dev (skip4 a b c f s) []) []:=by
 refine N.fnC Tryz.func166 k166 fun Q hQ hQN => ?_
 obtain ⟨g1,g2,g3,g4⟩ := ctl_bits c (by omega)
 have hr (h:¬ s ≤ a) := Int.tmod_eq_emod_of_nonneg (b := b + 1) (show 0 ≤ s - a - 1 by omega)
 have hr1 := Int.emod_nonneg (s - a - 1) (show b + 1 ≠ 0 by omega)
 have hr2 := Int.emod_lt_of_pos (s - a - 1) (show 0 < b + 1 by omega)
 repeat' (first | rw [g1] | rw [g2] | rw [g4] | rw [hr (by assumption)] | refine T.callN e129 rfl (timfit _ _ _ _ _ h) (by simp) ?_ | exact ⟨⟩ | intro (K:KT) hK | intro hcd | (refine go1 ?_ ?_ <;> try clear hK K) | fail)
 all_goals (refine WS.devN (m := 1) rfl ?_; simp only [skip4]; (repeat' split) <;> first | (exfalso; omega) | rfl)
theorem timirq_ok (a b c f:Int) (m:List Int) (h:TimOk a b c f):FnE Tryz.prog 154 [dev [a,b,c,f] m] [] (.c (.bool (decide (f = 1∧c / 4 % 2 = 1)))) []:=by
 refine N.fnC Tryz.func154 k154 fun Q hQ hQN => ?_
 obtain ⟨g1,g2,g3,g4⟩ := ctl_bits c (by omega)
 repeat' (first | rw [g3] | refine T.callN e129 rfl (timfit _ _ _ _ _ h) (by simp) ?_ | exact ⟨⟩ | intro (K:KT) hK | intro hcd | (refine go1 ?_ ?_ <;> try clear hK K) | fail)
 all_goals (refine WS.bool rfl ?_; simp only [decide_eq_true_eq,Bool.false_eq_true,false_iff] <;> omega)
theorem timread_ok (a b c f:Int) (m:List Int) (h:TimOk a b c f):FnE Tryz.prog 78 [dev [a,b,c,f] m,I 3] [] (.tup [dev [a,b,c,0] [],I f]) []:=by
 refine N.fnC Tryz.func78 k78 fun Q hQ hQN => ?_
 repeat' (first | refine T.callN e129 rfl (timfit _ _ _ _ _ h) (by simp) ?_ | exact ⟨⟩ | intro (K:KT) hK | intro hcd | (refine go1 ?_ ?_ <;> try clear hK K) | fail)
 exact WS.devN2 (m := 1) rfl rfl
theorem timw0_ok (a b c f v:Int) (m:List Int) (h:TimOk a b c f):FnE Tryz.prog 71 [dev [a,b,c,f] m,I 0,I v] [] (dev [a,putv b 0 8 v,c,f] []) []:=by
 refine N.fnC Tryz.func71 k71 fun Q hQ hQN => ?_
 repeat' (first | (show WC _ _ _ _ _ _ _ _ _; first | refine T.callN e129 rfl (timfit _ _ _ _ _ h) (by simp) ?_ | refine T.call0 e130 rfl (put_ok _ _ 0 8 (by decide)) ?_) | exact ⟨⟩ | intro (K:KT) hK | intro hcd | (refine go1 ?_ ?_ <;> try clear hK K) | fail)
 exact WS.devN (m := 1) rfl rfl
theorem timw1_ok (a b c f v:Int) (m:List Int) (h:TimOk a b c f):FnE Tryz.prog 71 [dev [a,b,c,f] m,I 1,I v] [] (dev [a,putv b 8 8 v,c,f] []) []:=by
 refine N.fnC Tryz.func71 k71 fun Q hQ hQN => ?_
 repeat' (first | (show WC _ _ _ _ _ _ _ _ _; first | refine T.callN e129 rfl (timfit _ _ _ _ _ h) (by simp) ?_ | refine T.call0 e130 rfl (put_ok _ _ 8 8 (by decide)) ?_) | exact ⟨⟩ | intro (K:KT) hK | intro hcd | (refine go1 ?_ ?_ <;> try clear hK K) | fail)
 exact WS.devN (m := 1) rfl rfl
theorem timw2_ok (a b c f v:Int) (m:List Int) (h:TimOk a b c f):FnE Tryz.prog 71 [dev [a,b,c,f] m,I 2,I v] [] (dev [if bits .and .i64 v 128 ≠ 0 then b else a,b,v % 2 ^ 3,f] []) []:=by
 refine N.fnC Tryz.func71 k71 fun Q hQ hQN => ?_
 repeat' (first | (show WC _ _ _ _ _ _ _ _ _; first | refine T.callN e129 rfl (timfit _ _ _ _ _ h) (by simp) ?_ | refine T.call0 e27 rfl (low_lit _ 3 3 rfl (by decide)) ?_) | exact ⟨⟩ | intro (K:KT) hK | intro hcd | (refine go1 ?_ ?_ <;> try clear hK K) | fail)
 all_goals (refine WS.devN (m := 1) rfl ?_; (repeat' split) <;> first | rfl | (exfalso; simp_all; done))
end Go.Proofs.YtonhglhdlgbcnabGreat.Calc
