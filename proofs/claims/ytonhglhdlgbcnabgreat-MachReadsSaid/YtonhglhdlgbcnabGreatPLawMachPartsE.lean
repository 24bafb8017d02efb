/- Several texts in one (FnKit, BitsA, FnBase, FnField, FnTable, FnTableB, FnTableC, FnTableD, FnTableE), for the proof of LawMachParts. No condition beyond those in each lemma. -/
import Derived.Test.YtonhglhdlgbcnabGreatPLawMachPartsC
import Derived.Laws.BitsLemmas
import Derived.Laws.Wrap64
import Derived.RowKit
import Derived.Test.YtonhglhdlgbcnabGreatPLawMachPartsD
namespace Go.Proofs.YtonhglhdlgbcnabGreat.Calc
open Go
set_option linter.unusedSimpArgs false
theorem out_pslK {h:List Blk} {ids:List Nat} {n b ver off len:Nat} {B:Blk} (hp:pos ids b = none) (hb:h[b]? = some B) (hv:B.ver = ver):out h ids (n + 1) (.psl b ver off len) = .sl B.esz (((B.rows.drop off).take len).map (·.map (frz h (fun b => (pos ids b).isSome) n))):=by
 rw [← frz_psl hb hv (show (fun b => (pos ids b).isSome) b = false by dsimp only; rw [hp]; rfl)]
 simp only [out,V.mapR,hp]
theorem out_intsK {h:List Blk} {ids:List Nat} {n b v len:Nat} {m:List Int} (hp:pos ids b = none) (hb:h[b]? = some ⟨v,1,cells m⟩) (hl:m.length ≤ len):out h ids (n + 1) (.psl b v 0 len) = .sl 1 (cells m):=by
 rw [out_pslK hp hb rfl,List.drop_zero,cells_take,List.take_of_length_le hl,cells_frz]
theorem out_bytesK {h:List Blk} {ids:List Nat} {n b v len:Nat} {m:List Int} (hp:pos ids b = none) (hb:h[b]? = some ⟨v,1,bcells m⟩) (hl:m.length ≤ len):out h ids (n + 1) (.psl b v 0 len) = .sl 1 (bcells m):=by
 rw [out_pslK hp hb rfl,List.drop_zero,bcells_take,List.take_of_length_le hl,bcells_frz]
end Go.Proofs.YtonhglhdlgbcnabGreat.Calc
namespace Go.Proofs.YtonhglhdlgbcnabGreat.BA
open Go Go.RowKit
theorem wrap_small (n:Int) (h0:-9223372036854775808 ≤ n) (h1:n < 9223372036854775808):IntKind.i64.wrap n = n:=by
 rw [IntKind.wrap_i64]; omega
theorem w63 (n:Int) (h0:0 ≤ n) (h1:n < 2 ^ 63):IntKind.i64.wrap n = n:=by
 apply wrap_small <;> omega
theorem or_nat (a b:Nat) (ha:a < 2 ^ 63) (hb:b < 2 ^ 63):bits .or .i64 a b = ((a ||| b:Nat):Int) :=
 (bits_nat .i64 63 (by decide) w63 a b ha hb).2
def andn (a b:Nat):Nat := a ^^^ (a &&& b)
theorem andn_bit (a b i:Nat):(andn a b).testBit i = (a.testBit i && !b.testBit i):=by
 simp only [andn,Nat.testBit_xor,Nat.testBit_and]
 cases a.testBit i <;> cases b.testBit i <;> rfl
theorem andn_le (a b:Nat) (n:Nat) (ha:a < 2 ^ n):andn a b < 2 ^ n:=by
 unfold andn; exact Nat.xor_lt_two_pow ha (Nat.lt_of_le_of_lt Nat.and_le_left ha)
theorem andn_nat (a b:Nat) (ha:a < 2 ^ 63) (_hb:b < 2 ^ 63):bits .andNot .i64 a b = ((andn a b:Nat):Int):=by
 have e:(BitVec.ofNat 64 a &&& ~~~ BitVec.ofNat 64 b).toNat = andn a b:=by
  apply Nat.eq_of_testBit_eq; intro i
  rw [andn_bit]
  rw [BitVec.testBit_toNat,BitVec.getLsbD_and,BitVec.getLsbD_not]
  simp only [BitVec.getLsbD_ofNat]
  by_cases h:i < 64
  ·simp [h]
  ·have:a.testBit i = false := Nat.testBit_lt_two_pow (Nat.lt_of_lt_of_le ha (Nat.pow_le_pow_right (by decide) (by omega)))
   simp [h,this]
 show IntKind.i64.wrap ((BitVec.ofInt 64 (a:Int) &&& ~~~ BitVec.ofInt 64 (b:Int)).toNat:Nat) = _
 rw [BitVec.ofInt_natCast,BitVec.ofInt_natCast,e]
 exact w63 _ (Int.natCast_nonneg _) (by exact_mod_cast andn_le a b 63 ha)
theorem low_eq (n:Int) (w:Nat) (hw:w ≤ 62):bits .and .i64 n (2 ^ w - 1) = n % 2 ^ w:=by
 have hpos:0 < 2 ^ w := Nat.two_pow_pos w
 have hlt:2 ^ w ≤ 2 ^ 62 := Nat.pow_le_pow_right (by decide) hw
 have hc:((2:Int) ^ w - 1) = ((2 ^ w - 1:Nat):Int) := by rw [Int.natCast_sub hpos]; simp
 rw [hc]
 have hm:(2 ^ w - 1) % 2 ^ 64 = 2 ^ w - 1 := Nat.mod_eq_of_lt (by omega)
 have hd:(2 ^ w:Nat) ∣ 2 ^ 64 := Nat.pow_dvd_pow 2 (by omega)
 show IntKind.i64.wrap ((BitVec.ofInt 64 n &&& BitVec.ofInt 64 ((2 ^ w - 1:Nat):Int)).toNat:Nat) = _
 rw [BitVec.ofInt_natCast,BitVec.toNat_and,BitVec.toNat_ofInt,BitVec.toNat_ofNat,hm,Nat.and_two_pow_sub_one_eq_mod]
 have e:(((n % ((2 ^ 64:Nat):Int)).toNat % 2 ^ w:Nat):Int) = n % 2 ^ w:=by
  rw [Int.natCast_emod,Int.toNat_of_nonneg (Int.emod_nonneg _ (by decide))]
  rw [Int.emod_emod_of_dvd _ (by exact_mod_cast hd)]
  simp
 rw [e]
 have h2:(0:Int) < 2 ^ w := by exact_mod_cast hpos
 have h3 := Int.emod_nonneg n (b := 2 ^ w) (by omega)
 have h4 := Int.emod_lt_of_pos n h2
 have h5:(2:Int) ^ w ≤ 2 ^ 62 := by exact_mod_cast hlt
 exact w63 _ h3 (by omega)
def bitAt (n:Int) (i:Nat):Nat := (n / 2 ^ i % 2).toNat
def rev:Nat→Int→Nat
 | 0,_ => 0
 | w + 1,n => 2 * rev w n + bitAt n w
def lo:Nat→Int→Nat
 | 0,_ => 0
 | w + 1,n => lo w n + bitAt n w * 2 ^ w
def pc:Nat→Int→Nat
 | 0,_ => 0
 | w + 1,n => pc w n + bitAt n w
end Go.Proofs.YtonhglhdlgbcnabGreat.BA
namespace Go.Proofs.YtonhglhdlgbcnabGreat.Calc
open Go Code
set_option linter.unusedSimpArgs false
set_option linter.unusedVariables false
set_option maxRecDepth 20000
attribute [local irreducible] WOpsT AW AK RK AKW UK UC
def wd (w:Int):Nat := (max 0 (min w 62)).toNat
theorem wd_le (w:Int):wd w ≤ 62 := by unfold wd; omega
theorem wd_cast (w:Int):max 0 (min w 62) = (wd w:Int) := by unfold wd; omega
theorem pow_le (w:Nat) (hw:w ≤ 62):(2:Int) ^ w ≤ 4611686018427387904:=by
 have:(2:Int) ^ w ≤ 2 ^ 62:=by
  have := Nat.pow_le_pow_right (n := 2) (by decide) hw
  exact_mod_cast this
 exact Int.le_trans this (by decide)
theorem pow_pos' (w:Nat):(1:Int) ≤ 2 ^ w:=by
 have := Nat.pow_pos (n := w) (a := 2) (by decide)
 exact_mod_cast this
theorem mod_lo (v:Int) (w:Nat):0 ≤ v % 2 ^ w∧v % 2 ^ w < 2 ^ w := ⟨Int.emod_nonneg _ (by have := pow_pos' w; omega),Int.emod_lt_of_pos _ (by have := pow_pos' w; omega)⟩
theorem min64 (w:Nat) (hw:w ≤ 62):min ((w:Int)).toNat IntKind.i64.bits = w:=by
 have:IntKind.i64.bits = 64 := rfl
 omega
theorem width_ok (w:Int):FnE Tryz.prog 69 [I w] [] (I (wd w)) []:=by
 refine fnI Tryz.func69 k69.1 lb k69.2 fun Q hQ => ?_
 rw [c69]
 repeat (first | refine AW.regS fun K hK => ?_ | refine AW.dregS fun K hK => ?_ | refine AW.regN fun K hK => ?_ | refine AW.dregN fun K hK => ?_ | simp only [T.mv,sm,AO.ev,put,lk,enter,reduceIte,Nat.reduceEqDiff,Nat.reduceAdd,Nat.reduceMul,Nat.reduceSub,Int.reduceNeg,Int.reduceToNat,upto,renB,setAll] | refine T.nil ?_ | (first | refine hK _ _ _ (by rfl) ?_ | refine hK _ _ _ ?_); simp only [keep,List.map,lk,reduceIte,Nat.reduceEqDiff,enter]; clear hK; clear K | refine T.add rfl rfl (by omega) (by omega) ?_ | refine T.sub rfl rfl (by omega) (by omega) ?_ | refine T.bin rfl rfl rfl ?_ | refine T.rem rfl rfl (by omega) ?_ | refine T.quo rfl rfl (by omega) ?_ | refine T.shl rfl rfl (by omega) ?_ | refine T.shr rfl rfl (by omega) ?_ | refine T.min2 rfl rfl rfl ?_ | refine T.max2 rfl rfl rfl ?_ | refine T.ext rfl rfl ?_ | refine T.lenc ?_ | refine T.eqnP rfl rfl ⟨rfl,by decide⟩ ?_ | refine T.eqnN rfl ?_ | refine T.neg rfl ?_ | refine T.xorn rfl ?_ | refine T.notD rfl ?_ | refine T.not rfl ?_ | refine T.eqb0 rfl rfl ?_ | refine T.eqb1 rfl rfl ?_ | refine T.cvt rfl ?_ | refine T.ld rfl rfl rfl rfl rfl ?_ | refine T.ldd rfl rfl ?_ | refine T.ldn rfl rfl rfl rfl lb ?_ | refine T.lddn rfl lb ?_ | refine T.fad rfl rfl rfl ?_ | refine T.fadd rfl ?_ | refine T.nilc rfl rfl rfl ?_ | refine T.nilcd rfl ?_ | refine T.st rfl rfl rfl ⟨rfl,rfl⟩ rfl lb ?_ | refine T.fld rfl rfl ?_ | refine T.new rfl ⟨rfl,by decide⟩ ?_ | refine T.zero (by decide) ?_ | refine T.build rfl ?_ | refine T.len rfl rfl rfl ?_ | refine T.lenS rfl ?_ | refine T.lenN rfl ?_ | refine T.mkf ?_ | refine T.mki ?_ | refine T.mksl rfl rfl (by decide) ?_ | refine T.copy rfl rfl rfl ⟨rfl,rfl⟩ ?_ | refine T.idx rfl rfl rfl ⟨rfl,rfl⟩ (by omega) ?_ | refine T.idxa rfl rfl rfl rfl (by omega) ?_ | refine T.idxd rfl rfl (by omega) ?_ | refine T.bsl rfl (by decide) ?_ | refine T.slc rfl rfl rfl rfl ⟨rfl,rfl⟩ (by omega) ?_ | refine T.go rfl rfl ?_ | refine T.pass rfl rfl ?_ | refine T.pickB rfl rfl rfl ?_ | refine AW.retI ?_)
 exact hQ _ _ _ rfl (WeakV.cE rfl (by rw [wd_cast]))
theorem low_ok (v w:Int):FnE Tryz.prog 27 [I v,I w] [] (I (v % 2 ^ wd w)) []:=by
 refine fnI Tryz.func27 k27.1 lb k27.2 fun Q hQ => ?_
 rw [c27]
 have h1 := pow_le (wd w) (wd_le w)
 have h2 := pow_pos' (wd w)
 have h3 := wd_le w
 repeat (first | refine T.call0 e69 rfl (width_ok _) ?_ | refine AW.regS fun K hK => ?_ | refine AW.dregS fun K hK => ?_ | refine AW.regN fun K hK => ?_ | refine AW.dregN fun K hK => ?_ | simp only [T.mv,sm,AO.ev,put,lk,enter,reduceIte,Nat.reduceEqDiff,Nat.reduceAdd,Nat.reduceMul,Nat.reduceSub,Int.reduceNeg,Int.reduceToNat,upto,renB,setAll] | refine T.nil ?_ | (first | refine hK _ _ _ (by rfl) ?_ | refine hK _ _ _ ?_); simp only [keep,List.map,lk,reduceIte,Nat.reduceEqDiff,enter]; clear hK; clear K | refine T.add rfl rfl (by omega) (by omega) ?_ | refine T.sub rfl rfl (by omega) (by omega) ?_ | refine T.bin rfl rfl rfl ?_ | refine T.rem rfl rfl (by omega) ?_ | refine T.quo rfl rfl (by omega) ?_ | refine T.shl rfl rfl (by omega) ?_ | refine T.shr rfl rfl (by omega) ?_ | refine T.min2 rfl rfl rfl ?_ | refine T.max2 rfl rfl rfl ?_ | refine T.ext rfl rfl ?_ | refine T.lenc ?_ | refine T.eqnP rfl rfl ⟨rfl,by decide⟩ ?_ | refine T.eqnN rfl ?_ | refine T.neg rfl ?_ | refine T.xorn rfl ?_ | refine T.notD rfl ?_ | refine T.not rfl ?_ | refine T.eqb0 rfl rfl ?_ | refine T.eqb1 rfl rfl ?_ | refine T.cvt rfl ?_ | refine T.ld rfl rfl rfl rfl rfl ?_ | refine T.ldd rfl rfl ?_ | refine T.ldn rfl rfl rfl rfl lb ?_ | refine T.lddn rfl lb ?_ | refine T.fad rfl rfl rfl ?_ | refine T.fadd rfl ?_ | refine T.nilc rfl rfl rfl ?_ | refine T.nilcd rfl ?_ | refine T.st rfl rfl rfl ⟨rfl,rfl⟩ rfl lb ?_ | refine T.fld rfl rfl ?_ | refine T.new rfl ⟨rfl,by decide⟩ ?_ | refine T.zero (by decide) ?_ | refine T.build rfl ?_ | refine T.len rfl rfl rfl ?_ | refine T.lenS rfl ?_ | refine T.lenN rfl ?_ | refine T.mkf ?_ | refine T.mki ?_ | refine T.mksl rfl rfl (by decide) ?_ | refine T.copy rfl rfl rfl ⟨rfl,rfl⟩ ?_ | refine T.idx rfl rfl rfl ⟨rfl,rfl⟩ (by omega) ?_ | refine T.idxa rfl rfl rfl rfl (by omega) ?_ | refine T.idxd rfl rfl (by omega) ?_ | refine T.bsl rfl (by decide) ?_ | refine T.slc rfl rfl rfl rfl ⟨rfl,rfl⟩ (by omega) ?_ | refine T.go rfl rfl ?_ | refine T.pass rfl rfl ?_ | refine T.pickB rfl rfl rfl ?_ | refine AW.retI ?_)
 refine hQ _ _ _ rfl (WeakV.cE rfl ?_)
 rw [min64 _ h3,Int.one_mul,wrap64 (n := 2 ^ wd w) (by omega) (by omega),wrap64 (by omega) (by omega),BA.low_eq _ _ h3]
theorem bits1 (n:Int):bits .and .i64 n 1 = n % 2:=by
 have := BA.low_eq n 1 (by decide)
 simpa using this
theorem lowN_ok (v:Int) (n:Nat) (hn:n ≤ 62):FnE Tryz.prog 27 [I v,I n] [] (I (v % 2 ^ n)) []:=by
 have := low_ok v n
 rwa [show wd (n:Int) = n by unfold wd; omega] at this
theorem below_ok (x n:Int) (hn:0 < n) (hn2:n < 4611686018427387904):FnE Tryz.prog 6 [I x,I n] [] (I (x % n)) []:=by
 refine fnI Tryz.func6 k6.1 lb k6.2 fun Q hQ => ?_
 rw [c6]
 repeat (first | refine AW.regS fun K hK => ?_ | refine AW.dregS fun K hK => ?_ | refine AW.regN fun K hK => ?_ | refine AW.dregN fun K hK => ?_ | simp only [T.mv,sm,AO.ev,put,lk,enter,reduceIte,Nat.reduceEqDiff,Nat.reduceAdd,Nat.reduceMul,Nat.reduceSub,Int.reduceNeg,Int.reduceToNat,upto,renB,setAll] | refine T.nil ?_ | (first | refine hK _ _ _ (by rfl) ?_ | refine hK _ _ _ ?_); simp only [keep,List.map,lk,reduceIte,Nat.reduceEqDiff,enter]; clear hK; clear K | refine T.add rfl rfl (by omega) (by omega) ?_ | refine T.sub rfl rfl (by omega) (by omega) ?_ | refine T.bin rfl rfl rfl ?_ | refine T.rem rfl rfl (by omega) ?_ | refine T.quo rfl rfl (by omega) ?_ | refine T.shl rfl rfl (by omega) ?_ | refine T.shr rfl rfl (by omega) ?_ | refine T.min2 rfl rfl rfl ?_ | refine T.max2 rfl rfl rfl ?_ | refine T.ext rfl rfl ?_ | refine T.lenc ?_ | refine T.eqnP rfl rfl ⟨rfl,by decide⟩ ?_ | refine T.eqnN rfl ?_ | refine T.neg rfl ?_ | refine T.xorn rfl ?_ | refine T.notD rfl ?_ | refine T.not rfl ?_ | refine T.eqb0 rfl rfl ?_ | refine T.eqb1 rfl rfl ?_ | refine T.cvt rfl ?_ | refine T.ld rfl rfl rfl rfl rfl ?_ | refine T.ldd rfl rfl ?_ | refine T.ldn rfl rfl rfl rfl lb ?_ | refine T.lddn rfl lb ?_ | refine T.fad rfl rfl rfl ?_ | refine T.fadd rfl ?_ | refine T.nilc rfl rfl rfl ?_ | refine T.nilcd rfl ?_ | refine T.st rfl rfl rfl ⟨rfl,rfl⟩ rfl lb ?_ | refine T.fld rfl rfl ?_ | refine T.new rfl ⟨rfl,by decide⟩ ?_ | refine T.zero (by decide) ?_ | refine T.build rfl ?_ | refine T.len rfl rfl rfl ?_ | refine T.lenS rfl ?_ | refine T.lenN rfl ?_ | refine T.mkf ?_ | refine T.mki ?_ | refine T.mksl rfl rfl (by decide) ?_ | refine T.copy rfl rfl rfl ⟨rfl,rfl⟩ ?_ | refine T.idx rfl rfl rfl ⟨rfl,rfl⟩ (by omega) ?_ | refine T.idxa rfl rfl rfl rfl (by omega) ?_ | refine T.idxd rfl rfl (by omega) ?_ | refine T.bsl rfl (by decide) ?_ | refine T.slc rfl rfl rfl rfl ⟨rfl,rfl⟩ (by omega) ?_ | refine T.go rfl rfl ?_ | refine T.pass rfl rfl ?_ | refine T.pickB rfl rfl rfl ?_ | refine AW.retI ?_)
 refine AW.seqI fun Q1 hN hX hR => ?_
 repeat (first | refine AW.regS fun K hK => ?_ | refine AW.dregS fun K hK => ?_ | refine AW.regN fun K hK => ?_ | refine AW.dregN fun K hK => ?_ | simp only [T.mv,sm,AO.ev,put,lk,enter,reduceIte,Nat.reduceEqDiff,Nat.reduceAdd,Nat.reduceMul,Nat.reduceSub,Int.reduceNeg,Int.reduceToNat,upto,renB,setAll] | refine T.nil ?_ | (first | refine hK _ _ _ (by rfl) ?_ | refine hK _ _ _ ?_); simp only [keep,List.map,lk,reduceIte,Nat.reduceEqDiff,enter]; clear hK; clear K | refine T.add rfl rfl (by omega) (by omega) ?_ | refine T.sub rfl rfl (by omega) (by omega) ?_ | refine T.bin rfl rfl rfl ?_ | refine T.rem rfl rfl (by omega) ?_ | refine T.quo rfl rfl (by omega) ?_ | refine T.shl rfl rfl (by omega) ?_ | refine T.shr rfl rfl (by omega) ?_ | refine T.min2 rfl rfl rfl ?_ | refine T.max2 rfl rfl rfl ?_ | refine T.ext rfl rfl ?_ | refine T.lenc ?_ | refine T.eqnP rfl rfl ⟨rfl,by decide⟩ ?_ | refine T.eqnN rfl ?_ | refine T.neg rfl ?_ | refine T.xorn rfl ?_ | refine T.notD rfl ?_ | refine T.not rfl ?_ | refine T.eqb0 rfl rfl ?_ | refine T.eqb1 rfl rfl ?_ | refine T.cvt rfl ?_ | refine T.ld rfl rfl rfl rfl rfl ?_ | refine T.ldd rfl rfl ?_ | refine T.ldn rfl rfl rfl rfl lb ?_ | refine T.lddn rfl lb ?_ | refine T.fad rfl rfl rfl ?_ | refine T.fadd rfl ?_ | refine T.nilc rfl rfl rfl ?_ | refine T.nilcd rfl ?_ | refine T.st rfl rfl rfl ⟨rfl,rfl⟩ rfl lb ?_ | refine T.fld rfl rfl ?_ | refine T.new rfl ⟨rfl,by decide⟩ ?_ | refine T.zero (by decide) ?_ | refine T.build rfl ?_ | refine T.len rfl rfl rfl ?_ | refine T.lenS rfl ?_ | refine T.lenN rfl ?_ | refine T.mkf ?_ | refine T.mki ?_ | refine T.mksl rfl rfl (by decide) ?_ | refine T.copy rfl rfl rfl ⟨rfl,rfl⟩ ?_ | refine T.idx rfl rfl rfl ⟨rfl,rfl⟩ (by omega) ?_ | refine T.idxa rfl rfl rfl rfl (by omega) ?_ | refine T.idxd rfl rfl (by omega) ?_ | refine T.bsl rfl (by decide) ?_ | refine T.slc rfl rfl rfl rfl ⟨rfl,rfl⟩ (by omega) ?_ | refine T.go rfl rfl ?_ | refine T.pass rfl rfl ?_ | refine T.pickB rfl rfl rfl ?_ | refine AW.retI ?_)
 have hm:x % n = if x.tmod n < 0 then x.tmod n + n else x.tmod n:=by
  rw [Int.tmod_eq_emod]
  have h0 := Int.emod_nonneg x (show n ≠ 0 by omega)
  have h1 := Int.emod_lt_of_pos x hn
  have h2:(n.natAbs:Int) = n := by omega
  split <;> split <;> omega
 have hlo:-n ≤ x.tmod n∧x.tmod n < n:=by
  have h0 := Int.emod_nonneg x (show n ≠ 0 by omega)
  have h1 := Int.emod_lt_of_pos x hn
  split at hm <;> omega
 refine AW.condB rfl (fun ht => ?_) (fun ht => ?_)
 ·have ht := of_decide_eq_true ht
  rw [if_pos ht] at hm
  repeat (first | refine AW.regS fun K hK => ?_ | refine AW.dregS fun K hK => ?_ | refine AW.regN fun K hK => ?_ | refine AW.dregN fun K hK => ?_ | simp only [T.mv,sm,AO.ev,put,lk,enter,reduceIte,Nat.reduceEqDiff,Nat.reduceAdd,Nat.reduceMul,Nat.reduceSub,Int.reduceNeg,Int.reduceToNat,upto,renB,setAll] | refine T.nil ?_ | (first | refine hK _ _ _ (by rfl) ?_ | refine hK _ _ _ ?_); simp only [keep,List.map,lk,reduceIte,Nat.reduceEqDiff,enter]; clear hK; clear K | refine T.add rfl rfl (by omega) (by omega) ?_ | refine T.sub rfl rfl (by omega) (by omega) ?_ | refine T.bin rfl rfl rfl ?_ | refine T.rem rfl rfl (by omega) ?_ | refine T.quo rfl rfl (by omega) ?_ | refine T.shl rfl rfl (by omega) ?_ | refine T.shr rfl rfl (by omega) ?_ | refine T.min2 rfl rfl rfl ?_ | refine T.max2 rfl rfl rfl ?_ | refine T.ext rfl rfl ?_ | refine T.lenc ?_ | refine T.eqnP rfl rfl ⟨rfl,by decide⟩ ?_ | refine T.eqnN rfl ?_ | refine T.neg rfl ?_ | refine T.xorn rfl ?_ | refine T.notD rfl ?_ | refine T.not rfl ?_ | refine T.eqb0 rfl rfl ?_ | refine T.eqb1 rfl rfl ?_ | refine T.cvt rfl ?_ | refine T.ld rfl rfl rfl rfl rfl ?_ | refine T.ldd rfl rfl ?_ | refine T.ldn rfl rfl rfl rfl lb ?_ | refine T.lddn rfl lb ?_ | refine T.fad rfl rfl rfl ?_ | refine T.fadd rfl ?_ | refine T.nilc rfl rfl rfl ?_ | refine T.nilcd rfl ?_ | refine T.st rfl rfl rfl ⟨rfl,rfl⟩ rfl lb ?_ | refine T.fld rfl rfl ?_ | refine T.new rfl ⟨rfl,by decide⟩ ?_ | refine T.zero (by decide) ?_ | refine T.build rfl ?_ | refine T.len rfl rfl rfl ?_ | refine T.lenS rfl ?_ | refine T.lenN rfl ?_ | refine T.mkf ?_ | refine T.mki ?_ | refine T.mksl rfl rfl (by decide) ?_ | refine T.copy rfl rfl rfl ⟨rfl,rfl⟩ ?_ | refine T.idx rfl rfl rfl ⟨rfl,rfl⟩ (by omega) ?_ | refine T.idxa rfl rfl rfl rfl (by omega) ?_ | refine T.idxd rfl rfl (by omega) ?_ | refine T.bsl rfl (by decide) ?_ | refine T.slc rfl rfl rfl rfl ⟨rfl,rfl⟩ (by omega) ?_ | refine T.go rfl rfl ?_ | refine T.pass rfl rfl ?_ | refine T.pickB rfl rfl rfl ?_ | refine AW.retI ?_)
  refine hN _ _ ?_
  repeat (first | refine AW.regS fun K hK => ?_ | refine AW.dregS fun K hK => ?_ | refine AW.regN fun K hK => ?_ | refine AW.dregN fun K hK => ?_ | simp only [T.mv,sm,AO.ev,put,lk,enter,reduceIte,Nat.reduceEqDiff,Nat.reduceAdd,Nat.reduceMul,Nat.reduceSub,Int.reduceNeg,Int.reduceToNat,upto,renB,setAll] | refine T.nil ?_ | (first | refine hK _ _ _ (by rfl) ?_ | refine hK _ _ _ ?_); simp only [keep,List.map,lk,reduceIte,Nat.reduceEqDiff,enter]; clear hK; clear K | refine T.add rfl rfl (by omega) (by omega) ?_ | refine T.sub rfl rfl (by omega) (by omega) ?_ | refine T.bin rfl rfl rfl ?_ | refine T.rem rfl rfl (by omega) ?_ | refine T.quo rfl rfl (by omega) ?_ | refine T.shl rfl rfl (by omega) ?_ | refine T.shr rfl rfl (by omega) ?_ | refine T.min2 rfl rfl rfl ?_ | refine T.max2 rfl rfl rfl ?_ | refine T.ext rfl rfl ?_ | refine T.lenc ?_ | refine T.eqnP rfl rfl ⟨rfl,by decide⟩ ?_ | refine T.eqnN rfl ?_ | refine T.neg rfl ?_ | refine T.xorn rfl ?_ | refine T.notD rfl ?_ | refine T.not rfl ?_ | refine T.eqb0 rfl rfl ?_ | refine T.eqb1 rfl rfl ?_ | refine T.cvt rfl ?_ | refine T.ld rfl rfl rfl rfl rfl ?_ | refine T.ldd rfl rfl ?_ | refine T.ldn rfl rfl rfl rfl lb ?_ | refine T.lddn rfl lb ?_ | refine T.fad rfl rfl rfl ?_ | refine T.fadd rfl ?_ | refine T.nilc rfl rfl rfl ?_ | refine T.nilcd rfl ?_ | refine T.st rfl rfl rfl ⟨rfl,rfl⟩ rfl lb ?_ | refine T.fld rfl rfl ?_ | refine T.new rfl ⟨rfl,by decide⟩ ?_ | refine T.zero (by decide) ?_ | refine T.build rfl ?_ | refine T.len rfl rfl rfl ?_ | refine T.lenS rfl ?_ | refine T.lenN rfl ?_ | refine T.mkf ?_ | refine T.mki ?_ | refine T.mksl rfl rfl (by decide) ?_ | refine T.copy rfl rfl rfl ⟨rfl,rfl⟩ ?_ | refine T.idx rfl rfl rfl ⟨rfl,rfl⟩ (by omega) ?_ | refine T.idxa rfl rfl rfl rfl (by omega) ?_ | refine T.idxd rfl rfl (by omega) ?_ | refine T.bsl rfl (by decide) ?_ | refine T.slc rfl rfl rfl rfl ⟨rfl,rfl⟩ (by omega) ?_ | refine T.go rfl rfl ?_ | refine T.pass rfl rfl ?_ | refine T.pickB rfl rfl rfl ?_ | refine AW.retI ?_)
  exact hQ _ _ _ rfl (WeakV.cE rfl (by rw [hm]))
 ·have ht := of_decide_eq_false ht
  rw [if_neg ht] at hm
  refine AW.skipI (hN _ _ ?_)
  repeat (first | refine AW.regS fun K hK => ?_ | refine AW.dregS fun K hK => ?_ | refine AW.regN fun K hK => ?_ | refine AW.dregN fun K hK => ?_ | simp only [T.mv,sm,AO.ev,put,lk,enter,reduceIte,Nat.reduceEqDiff,Nat.reduceAdd,Nat.reduceMul,Nat.reduceSub,Int.reduceNeg,Int.reduceToNat,upto,renB,setAll] | refine T.nil ?_ | (first | refine hK _ _ _ (by rfl) ?_ | refine hK _ _ _ ?_); simp only [keep,List.map,lk,reduceIte,Nat.reduceEqDiff,enter]; clear hK; clear K | refine T.add rfl rfl (by omega) (by omega) ?_ | refine T.sub rfl rfl (by omega) (by omega) ?_ | refine T.bin rfl rfl rfl ?_ | refine T.rem rfl rfl (by omega) ?_ | refine T.quo rfl rfl (by omega) ?_ | refine T.shl rfl rfl (by omega) ?_ | refine T.shr rfl rfl (by omega) ?_ | refine T.min2 rfl rfl rfl ?_ | refine T.max2 rfl rfl rfl ?_ | refine T.ext rfl rfl ?_ | refine T.lenc ?_ | refine T.eqnP rfl rfl ⟨rfl,by decide⟩ ?_ | refine T.eqnN rfl ?_ | refine T.neg rfl ?_ | refine T.xorn rfl ?_ | refine T.notD rfl ?_ | refine T.not rfl ?_ | refine T.eqb0 rfl rfl ?_ | refine T.eqb1 rfl rfl ?_ | refine T.cvt rfl ?_ | refine T.ld rfl rfl rfl rfl rfl ?_ | refine T.ldd rfl rfl ?_ | refine T.ldn rfl rfl rfl rfl lb ?_ | refine T.lddn rfl lb ?_ | refine T.fad rfl rfl rfl ?_ | refine T.fadd rfl ?_ | refine T.nilc rfl rfl rfl ?_ | refine T.nilcd rfl ?_ | refine T.st rfl rfl rfl ⟨rfl,rfl⟩ rfl lb ?_ | refine T.fld rfl rfl ?_ | refine T.new rfl ⟨rfl,by decide⟩ ?_ | refine T.zero (by decide) ?_ | refine T.build rfl ?_ | refine T.len rfl rfl rfl ?_ | refine T.lenS rfl ?_ | refine T.lenN rfl ?_ | refine T.mkf ?_ | refine T.mki ?_ | refine T.mksl rfl rfl (by decide) ?_ | refine T.copy rfl rfl rfl ⟨rfl,rfl⟩ ?_ | refine T.idx rfl rfl rfl ⟨rfl,rfl⟩ (by omega) ?_ | refine T.idxa rfl rfl rfl rfl (by omega) ?_ | refine T.idxd rfl rfl (by omega) ?_ | refine T.bsl rfl (by decide) ?_ | refine T.slc rfl rfl rfl rfl ⟨rfl,rfl⟩ (by omega) ?_ | refine T.go rfl rfl ?_ | refine T.pass rfl rfl ?_ | refine T.pickB rfl rfl rfl ?_ | refine AW.retI ?_)
  exact hQ _ _ _ rfl (WeakV.cE rfl (by rw [hm]))
theorem modN (v:Int) (n:Nat):∃ a:Nat,v % 2 ^ n = (a:Int)∧a < 2 ^ n:=by
 have h := mod_lo v n
 refine ⟨(v % 2 ^ n).toNat,by omega,?_⟩
 have:(((v % 2 ^ n).toNat:Nat):Int) < ((2 ^ n:Nat):Int) := by rw [Int.natCast_pow]; have := h.2; have := h.1; push_cast; omega
 exact_mod_cast this
theorem low_lit (v:Int) (n:Nat) (w:Int) (hw:w = n) (hn:n ≤ 62):FnE Tryz.prog 27 [I v,I w] [] (I (v % 2 ^ n)) [] := hw ▸ lowN_ok v n hn
theorem low_in (v:Int) (n:Nat) (w:Int) (hw:w = n) (hn:n ≤ 62) (h:0 ≤ v∧v < 2 ^ n):FnE Tryz.prog 27 [I v,I w] [] (I v) []:=by
 have := low_lit v n w hw hn
 rwa [Int.emod_eq_of_lt h.1 h.2] at this
end Go.Proofs.YtonhglhdlgbcnabGreat.Calc
namespace Go.Proofs.YtonhglhdlgbcnabGreat.Calc
open Go Code
set_option linter.unusedSimpArgs false
set_option linter.unusedVariables false
set_option maxRecDepth 20000
attribute [local irreducible] WOpsT AW AK RK AKW
theorem place_ok (i n:Nat) (h:i + n ≤ 62):FnE Tryz.prog 173 [I i,I n] [] (.tup [I i,I n]) []:=by
 refine N.fnC Tryz.func173 k173 fun Q hQ hQN => ?_
 have e:wd i = i := by unfold wd; omega
 have hw := width_ok i
 rw [e] at hw
 repeat' (first | refine T.call0 e69 rfl hw ?_ | exact ⟨⟩ | intro (K:KT) hK | intro hcd | (refine go1 ?_ ?_ <;> try clear hK K) | fail)
 exact WS.tup2 rfl rfl (by congr 1; omega)
theorem get_int (v:Int) (i n:Nat) (h:i + n ≤ 62):v % 2 ^ 62 / 2 ^ i % 2 ^ n = v / 2 ^ i % 2 ^ n:=by
 obtain ⟨k,hk⟩:∃ k,62 = i + (n + k) := ⟨62 - i - n,by omega⟩
 have h := Int.emod_add_mul_ediv v (2 ^ 62)
 have hp := pow_pos' i
 conv => rhs; rw [← h]
 rw [hk,Int.pow_add,Int.mul_assoc,Int.add_mul_ediv_left _ _ (by omega),Int.pow_add 2 n k,Int.mul_assoc (2 ^ n)]
 rw [Int.add_mul_emod_self_left]
theorem get_ok (v:Int) (i n:Nat) (h:i + n ≤ 62):FnE Tryz.prog 138 [I v,I i,I n] [] (I (v / 2 ^ i % 2 ^ n)) []:=by
 refine N.fnC Tryz.func138 k138 fun Q hQ hQN => ?_
 repeat' (first | (show WC _ _ _ _ _ _ _ _ _; first | refine T.call0 e173 rfl (place_ok _ _ h) ?_ | refine T.call0 e27 rfl (lowN_ok _ n (by omega)) ?_ | refine T.call0 e27 rfl (low_lit _ 62 62 rfl (by decide)) ?_) | exact ⟨⟩ | intro (K:KT) hK | intro hcd | (refine go1 ?_ ?_ <;> try clear hK K) | fail)
 refine WS.c rfl ?_
 rw [min64 i (by omega),get_int v i n h]
theorem put_nat (a x i n:Nat) (hx:x < 2 ^ n):BA.andn a ((2 ^ n - 1) * 2 ^ i) ||| x * 2 ^ i = a % 2 ^ i + x * 2 ^ i + a / 2 ^ (i + n) * 2 ^ (i + n):=by
 have h1:a % 2 ^ i < 2 ^ i := Nat.mod_lt _ (Nat.pow_pos (by decide))
 have h2:2 ^ i * x + a % 2 ^ i < 2 ^ (i + n):=by
  have:x + 1 ≤ 2 ^ n := hx
  have h3 := Nat.mul_le_mul_left (2 ^ i) this
  rw [Nat.pow_add,Nat.mul_add,Nat.mul_one] at *
  omega
 rw [show a % 2 ^ i + x * 2 ^ i + a / 2 ^ (i + n) * 2 ^ (i + n) = 2 ^ (i + n) * (a / 2 ^ (i + n)) + (2 ^ i * x + a % 2 ^ i) by rw [Nat.mul_comm x,Nat.mul_comm (a / _)]; omega]
 apply Nat.eq_of_testBit_eq
 intro j
 rw [Nat.testBit_two_pow_mul_add _ h2,Nat.testBit_two_pow_mul_add _ h1,Nat.testBit_or,BA.andn_bit]
 rw [Nat.mul_comm (2 ^ n - 1),Nat.mul_comm x,Nat.testBit_two_pow_mul,Nat.testBit_two_pow_mul,Nat.testBit_two_pow_sub_one,Nat.testBit_mod_two_pow,Nat.testBit_div_two_pow]
 by_cases hj:j < i
 ·simp [hj,show j < i + n by omega,show ¬ i ≤ j by omega]
 ·by_cases hj2:j < i + n
  ·simp [hj,hj2,show i ≤ j by omega,show j - i < n by omega]
  ·have hz:x.testBit (j - i) = false := Nat.testBit_lt_two_pow (Nat.lt_of_lt_of_le hx (Nat.pow_le_pow_right (by decide) (by omega)))
   simp [hj,hj2,show i ≤ j by omega,show ¬ j - i < n by omega,hz,show i + n + (j - (i + n)) = j by omega,show j - (i + n) + (i + n) = j by omega]
def putv (v:Int) (i n:Nat) (x:Int):Int := v % 2 ^ i + x % 2 ^ n * 2 ^ i + v % 2 ^ 62 / 2 ^ (i + n) * 2 ^ (i + n)
theorem put_int (v x:Int) (i n:Nat) (h:i + n ≤ 62):bits .or .i64 (bits .andNot .i64 (v % 2 ^ 62) ((2 ^ n - 1) * 2 ^ i)) (x % 2 ^ n * 2 ^ i) = putv v i n x:=by
 obtain ⟨a,ha,ha2⟩ := modN v 62
 obtain ⟨y,hy,hy2⟩ := modN x n
 have hv:v % 2 ^ i = ((a % 2 ^ i:Nat):Int):=by
  have:(a:Int) % 2 ^ i = v % 2 ^ i:=by
   rw [← ha]
   obtain ⟨k,hk⟩:∃ k,62 = i + k := ⟨62 - i,by omega⟩
   rw [hk,Int.pow_add]
   exact Int.emod_emod_of_dvd v (Int.dvd_mul_right _ _)
  rw [← this,Int.natCast_emod,Int.natCast_pow]; rfl
 have hp:2 ^ n * 2 ^ i ≤ 2 ^ 62 := by rw [← Nat.pow_add]; exact Nat.pow_le_pow_right (by decide) (by omega)
 have hn := Nat.pow_pos (n := n) (a := 2) (by decide)
 have hi := Nat.pow_pos (n := i) (a := 2) (by decide)
 have e1:((2:Int) ^ n - 1) * 2 ^ i = (((2 ^ n - 1) * 2 ^ i:Nat):Int):=by
  rw [Int.natCast_mul,Int.natCast_sub hn,Int.natCast_pow,Int.natCast_pow]; rfl
 have e2:(y:Int) * 2 ^ i = ((y * 2 ^ i:Nat):Int) := by rw [Int.natCast_mul,Int.natCast_pow]; rfl
 have b1:(2 ^ n - 1) * 2 ^ i < 2 ^ 62:=by
  have:(2 ^ n - 1) * 2 ^ i + 2 ^ i = 2 ^ n * 2 ^ i := by rw [Nat.sub_mul,Nat.one_mul,Nat.sub_add_cancel]; exact Nat.le_mul_of_pos_left _ hn
  omega
 have b2:y * 2 ^ i < 2 ^ 62:=by
  have := Nat.mul_le_mul_right (2 ^ i) hy2
  rw [Nat.succ_mul] at this
  omega
 unfold putv
 rw [hv,ha,hy,e1,e2,BA.andn_nat _ _ (by omega) (by omega),BA.or_nat _ _ (by have := BA.andn_le a ((2 ^ n - 1) * 2 ^ i) 62 ha2; omega) (by omega),put_nat _ _ _ _ hy2]
 have e3:(a:Int) / 2 ^ (i + n) * 2 ^ (i + n) = ((a / 2 ^ (i + n) * 2 ^ (i + n):Nat):Int):=by
  rw [Int.natCast_mul,Int.natCast_ediv,Int.natCast_pow]; rfl
 rw [e3]
 simp
theorem put_ok (v x:Int) (i n:Nat) (h:i + n ≤ 62):FnE Tryz.prog 130 [I v,I i,I n,I x] [] (I (putv v i n x)) []:=by
 refine N.fnC Tryz.func130 k130 fun Q hQ hQN => ?_
 have hp := pow_le n (by omega)
 have hp1 := pow_pos' n
 have hmul:2 ^ n * 2 ^ i ≤ (2:Int) ^ 62:=by
  rw [← Int.pow_add,Nat.add_comm]; exact_mod_cast Nat.pow_le_pow_right (n := 2) (by decide) h
 have hi1 := pow_pos' i
 have hx := mod_lo x n
 have w1:(2 ^ n - 1) * (2:Int) ^ i ≤ 4611686018427387904:=by
  rw [Int.sub_mul]; omega
 have w2:0 ≤ (2 ^ n - 1) * (2:Int) ^ i := Int.mul_nonneg (by omega) (by omega)
 have w3:x % 2 ^ n * (2:Int) ^ i ≤ 4611686018427387904:=by
  have := Int.mul_le_mul_of_nonneg_right (show x % 2 ^ n ≤ 2 ^ n by omega) (show (0:Int) ≤ 2 ^ i by omega)
  omega
 have w4:0 ≤ x % 2 ^ n * (2:Int) ^ i := Int.mul_nonneg (by omega) (by omega)
 have u1:IntKind.wrap .i64 (1 * 2 ^ min ((n:Int)).toNat IntKind.i64.bits) = 2 ^ n := by rw [min64 n (by omega),Int.one_mul,wrap64 (by omega) (by omega)]
 have u2:IntKind.wrap .i64 ((2 ^ n - 1) * 2 ^ min ((i:Int)).toNat IntKind.i64.bits) = (2 ^ n - 1) * 2 ^ i := by rw [min64 i (by omega),wrap64 (by omega) (by omega)]
 have u3:IntKind.wrap .i64 (x % 2 ^ n * 2 ^ min ((i:Int)).toNat IntKind.i64.bits) = x % 2 ^ n * 2 ^ i := by rw [min64 i (by omega),wrap64 (by omega) (by omega)]
 repeat' (first | rw [u1] | rw [u2] | rw [u3] | (show WC _ _ _ _ _ _ _ _ _; first | refine T.call0 e173 rfl (place_ok _ _ h) ?_ | refine T.call0 e27 rfl (lowN_ok _ n (by omega)) ?_ | refine T.call0 e27 rfl (low_lit _ 62 62 rfl (by decide)) ?_) | exact ⟨⟩ | intro (K:KT) hK | intro hcd | (refine go1 ?_ ?_ <;> try clear hK K) | fail)
 exact WS.c rfl (by rw [put_int v x i n h])
end Go.Proofs.YtonhglhdlgbcnabGreat.Calc
namespace Go.Proofs.YtonhglhdlgbcnabGreat.Calc
open Go Code
set_option linter.unusedSimpArgs false
set_option linter.unusedVariables false
set_option maxRecDepth 20000
set_option maxHeartbeats 4000000
attribute [local irreducible] WOpsT AW AK RK AKW UK UC
def sizeM (m:Int):Int := if m = 0 then 0 else if m = 4∨m = 5∨m = 6 then 2 else if m = 1∨m = 2∨m = 3∨m = 7∨m = 8 then 1 else -1
theorem size_ok (m:Int):FnE Tryz.prog 94 [I m] [] (I (sizeM m)) []:=by
 refine N.fnC Tryz.func94 k94 fun Q hQ hQN => ?_
 repeat' (first | exact ⟨⟩ | intro (K:KT) hK | intro hcd | (refine go1 ?_ ?_ <;> try clear hK K) | fail)
 all_goals (refine WS.c rfl ?_; congr 1; unfold sizeM; repeat' split) <;> omega
theorem wideT_ok (r:Int):FnE Tryz.prog 162 [I r] [] (.c (.bool (decide (r = 7∨r = 8)))) []:=by
 refine N.fnC Tryz.func162 k162 fun Q hQ hQN => ?_
 repeat' (first | exact ⟨⟩ | intro (K:KT) hK | intro hcd | (refine go1 ?_ ?_ <;> try clear hK K) | fail)
 all_goals (refine WS.bool rfl ?_; simp only [decide_eq_true_eq,Bool.false_eq_true,true_iff,false_iff,iff_true,iff_false] <;> omega)
theorem register_ok (r:Int):FnE Tryz.prog 175 [I r] [] (.c (.bool (decide (0 ≤ r∧r < 9)))) []:=by
 refine N.fnC Tryz.func175 k175 fun Q hQ hQN => ?_
 repeat' (first | exact ⟨⟩ | intro (K:KT) hK | intro hcd | (refine go1 ?_ ?_ <;> try clear hK K) | fail)
 all_goals (refine WS.bool rfl ?_; simp only [decide_eq_true_eq,Bool.false_eq_true,true_iff,false_iff,iff_true,iff_false] <;> omega)
def usesL:List (Int×Int×Bool) := [(0,0,false),(115,115,false),(97,0,true),(98,0,false),(98,98,false),(98,98,false),(98,98,false),(98,98,false),(98,98,false),(98,98,false),(97,0,false),(97,0,false),(98,0,false),(98,0,false),(98,0,false),(98,0,false),(0,0,true),(0,0,true),(119,98,false),(119,98,false),(98,119,false),(98,119,false),(119,98,false),(119,98,false)]
def usesT (d:Int):Int×Int×Bool := usesL.getD d.toNat (0,0,false)
theorem uses_ok (d:Int) (h:0 ≤ d∧d < 24):FnE Tryz.prog 193 [I d] [] (.tup [.c (.int .u8 (usesT d).1),.c (.int .u8 (usesT d).2.1),.c (.bool (usesT d).2.2)]) []:=by
  refine N.fnC Tryz.func193 k193 fun Q hQ hQN => ?_
  repeat' (first
  | exact ⟨⟩
  | intro (K:KT) hK
  | intro hcd
  | (refine go1 ?_ ?_ <;> try clear hK K)
  | fail)
  all_goals first
    | (subst hcd; exact WS.drop (n := 0) rfl rfl)
    | (obtain rfl:d = 0 := by omega
       exact WS.drop (n := 0) rfl rfl)
def fitsP (r n:Int):Prop := if n = 0 then r = 0 else if n = 119 then r = 7∨r = 8 else if n = 98 then 0 ≤ r∧r < 7 else 0 ≤ r∧r < 9
theorem fits_ok (r n:Int) (h:fitsP r n):FnE Tryz.prog 194 [I r,.c (.int .u8 n)] [] (.c (.bool true)) []:=by
 refine N.fnC Tryz.func194 k194 fun Q hQ hQN => ?_
 have h1 := wideT_ok r
 have h2 := register_ok r
 unfold fitsP at h
 by_cases n0:n = 0
 ·rw [if_pos n0] at h
  repeat' (first | (show WC _ _ _ _ _ _ _ _ _; first | refine T.call0 e162 rfl h1 ?_ | refine T.call0 e175 rfl h2 ?_) | exact ⟨⟩ | intro (K:KT) hK | intro hcd | (refine go1 ?_ ?_ <;> try clear hK K) | fail)
  all_goals (refine WS.bool rfl ?_; simp only [decide_eq_true_eq,Bool.false_eq_true,true_iff,false_iff,iff_true,iff_false] <;> omega)
 rw [if_neg n0] at h
 by_cases n1:n = 119
 ·rw [if_pos n1] at h
  rw [show decide (r = 7∨r = 8) = true from decide_eq_true h] at h1
  rw [show decide (0 ≤ r∧r < 9) = true from decide_eq_true (by omega)] at h2
  repeat' (first | (show WC _ _ _ _ _ _ _ _ _; first | refine T.call0 e162 rfl h1 ?_ | refine T.call0 e175 rfl h2 ?_) | exact ⟨⟩ | intro (K:KT) hK | intro hcd | (refine go1 ?_ ?_ <;> try clear hK K) | fail)
  all_goals (refine WS.bool rfl ?_; simp only [decide_eq_true_eq,Bool.false_eq_true,true_iff,false_iff,iff_true,iff_false] <;> omega)
 rw [if_neg n1] at h
 by_cases n2:n = 98
 ·rw [if_pos n2] at h
  rw [show decide (r = 7∨r = 8) = false from decide_eq_false (by omega)] at h1
  rw [show decide (0 ≤ r∧r < 9) = true from decide_eq_true (by omega)] at h2
  repeat' (first | (show WC _ _ _ _ _ _ _ _ _; first | refine T.call0 e162 rfl h1 ?_ | refine T.call0 e175 rfl h2 ?_) | exact ⟨⟩ | intro (K:KT) hK | intro hcd | (refine go1 ?_ ?_ <;> try clear hK K) | fail)
  all_goals (refine WS.bool rfl ?_; simp only [decide_eq_true_eq,Bool.false_eq_true,true_iff,false_iff,iff_true,iff_false,Bool.not_false,Bool.not_true] <;> omega)
 rw [if_neg n2] at h
 rw [show decide (0 ≤ r∧r < 9) = true from decide_eq_true (by omega)] at h2
 repeat' (first | (show WC _ _ _ _ _ _ _ _ _; first | refine T.call0 e162 rfl h1 ?_ | refine T.call0 e175 rfl h2 ?_) | exact ⟨⟩ | intro (K:KT) hK | intro hcd | (refine go1 ?_ ?_ <;> try clear hK K) | fail)
 all_goals (refine WS.bool rfl ?_; simp only [decide_eq_true_eq,Bool.false_eq_true,true_iff,false_iff,iff_true,iff_false] <;> omega)
structure Stp where
 op:Int
 to:Int
 fr:Int
 n:Int
def stC (s:Stp):List V := [I s.op,I s.to,I s.fr,I s.n]
def VStep (s:Stp):Prop := (s.op = 24∧s.to = 0∧(0 ≤ s.fr∧s.fr ≤ 1)∧0 ≤ s.n∧s.n ≤ 255)∨((0 ≤ s.op∧s.op < 24)∧fitsP s.to (usesT s.op).1∧fitsP s.fr (usesT s.op).2.1∧((usesT s.op).1 = 115→(s.to < 7 ↔ s.fr < 7))∧0 ≤ s.n∧s.n ≤ if (usesT s.op).2.2 = true then (if s.op = 2∧7 ≤ s.to then 65535 else 255) else 0)
theorem fitsP_in {r n:Int} (h:fitsP r n):0 ≤ r∧r < 9:=by
 unfold fitsP at h
 split at h
 ·omega
 ·split at h
  ·omega
  ·split at h <;> omega
theorem steps_ok (s:Stp) (hs:VStep s):FnE Tryz.prog 176 [.agg (stC s)] [] (I 0) []:=by
 obtain ⟨d,t,f,n⟩ := s
 refine N.fnC Tryz.func176 k176 fun Q hQ hQN => ?_
 rcases hs with ⟨h1,h2,h3,h4⟩ | ⟨h1,h2,h3,h4,h5,h6⟩
 ·dsimp only at h1 h2 h3 h4
  subst h1 h2
  repeat' (first | exact ⟨⟩ | intro (K:KT) hK | intro hcd | (refine go1 ?_ ?_ <;> try clear hK K) | fail)
  all_goals first | exact WS.c rfl rfl | (exfalso; omega)
 ·dsimp only at h1 h2 h3 h4 h5 h6
  have hu := uses_ok d h1
  have g1 := fits_ok t _ h2
  have g2 := fits_ok f _ h3
  have i1 := fitsP_in h2
  have i2 := fitsP_in h3
  have w1 := wideT_ok t
  have w2 := wideT_ok f
  have w3 := register_ok t
  clear h2 h3
  generalize (usesT d).1 = a at *
  generalize (usesT d).2.1 = b at *
  generalize (usesT d).2.2 = u at *
  cases u
  ·rw [if_neg (by decide)] at h6
   repeat' (first | (show WC _ _ _ _ _ _ _ _ _; first | refine T.call0 e193 rfl hu ?_ | refine T.call0 e194 rfl g1 ?_ | refine T.call0 e194 rfl g2 ?_ | refine T.call0 e162 rfl w1 ?_ | refine T.call0 e162 rfl w2 ?_ | refine T.call0 e175 rfl w3 ?_) | exact ⟨⟩ | intro (K:KT) hK | intro hcd | (refine go1 ?_ ?_ <;> try clear hK K) | fail)
   all_goals first | exact WS.c rfl rfl | (exfalso; omega)
  ·rw [if_pos rfl] at h6
   by_cases h7:d = 2∧7 ≤ t
   ·rw [if_pos h7] at h6
    repeat' (first | (show WC _ _ _ _ _ _ _ _ _; first | refine T.call0 e193 rfl hu ?_ | refine T.call0 e194 rfl g1 ?_ | refine T.call0 e194 rfl g2 ?_ | refine T.call0 e162 rfl w1 ?_ | refine T.call0 e162 rfl w2 ?_ | refine T.call0 e175 rfl w3 ?_) | exact ⟨⟩ | intro (K:KT) hK | intro hcd | (refine go1 ?_ ?_ <;> try clear hK K) | fail)
    all_goals first | exact WS.c rfl rfl | (exfalso; omega)
   ·rw [if_neg h7] at h6
    repeat' (first | (show WC _ _ _ _ _ _ _ _ _; first | refine T.call0 e193 rfl hu ?_ | refine T.call0 e194 rfl g1 ?_ | refine T.call0 e194 rfl g2 ?_ | refine T.call0 e162 rfl w1 ?_ | refine T.call0 e162 rfl w2 ?_ | refine T.call0 e175 rfl w3 ?_) | exact ⟨⟩ | intro (K:KT) hK | intro hcd | (refine go1 ?_ ?_ <;> try clear hK K) | fail)
    all_goals first | exact WS.c rfl rfl | (exfalso; omega)
structure Cyc where
 bus:Int
 at_:Int
 reg:Int
 steps:List Stp
def cyC (c:Cyc):List V := [I c.bus,I c.at_,I c.reg,.sl 4 (c.steps.map stC)]
def VCyc (c:Cyc):Prop := (0 ≤ c.bus∧c.bus ≤ 2)∧(c.bus = 0→c.at_ = 0∧c.reg = 0)∧(0 ≤ c.at_∧c.at_ < 12)∧(0 ≤ c.reg∧c.reg < 7)∧c.steps.length ≤ 6∧∀ s ∈ c.steps,VStep s
theorem mget {α:Type} (f:α→List V) (l:List α) (i:Nat) (hi:i < l.length):(l.map f)[((i:Nat):Int).toNat]? = some (f l[i]):=by
 rw [Int.toNat_natCast,List.getElem?_map,List.getElem?_eq_getElem hi]; rfl
theorem cycle_ok (c:Cyc) (hc:VCyc c):FnE Tryz.prog 144 [.agg (cyC c)] [] (I 0) []:=by
 obtain ⟨b,a,r,l⟩ := c
 obtain ⟨h1,h2,h3,h4,h5,h6⟩ := hc
 dsimp only at h1 h2 h3 h4 h5 h6
 refine N.fnC Tryz.func144 k144 fun Q hQ hQN => ?_
 have g1 := register_ok r
 have g2 := wideT_ok r
 rw [show decide (r = 7∨r = 8) = false from decide_eq_false (by omega)] at g2
 rw [show decide (0 ≤ r∧r < 9) = true from decide_eq_true (by omega)] at g1
 repeat' (first | rw [List.length_map] | (show WC _ _ _ _ _ _ _ _ _; first | refine T.call0 e175 rfl g1 ?_ | refine T.call0 e162 rfl g2 ?_) | exact ⟨⟩ | intro (K:KT) hK | intro hcd | (refine go1 ?_ ?_ <;> try clear hK K) | fail)
 all_goals
  refine N.loop (σ := Nat) (fun i => [(55,.sl 4 (l.map stC)),(56,I l.length),(57,I i)]) (fun i => []) (fun i => i ≤ l.length) (fun i => l.length - i) 0 (by omega) (by exact .G [] 1) fun i hi C hC => ?_
  by_cases hil:i < l.length
  ·have hv := steps_ok _ (h6 _ (List.getElem_mem hil))
   repeat' (first | (show WOpsT _ (⟨_,.idx _ _ _ _,none⟩ :: _) _ _ _ _; refine T.idxs rfl rfl rfl (by omega) (mget stC l i hil) ?_) | refine T.call0 e176 rfl hv ?_ | exact ⟨⟩ | intro (K:KT) hK | intro hcd | (refine go1 ?_ ?_ <;> try clear hK K) | fail)
   exact hC _ _ (i + 1) (by omega) (by omega) (by exact .G [] 1)
  ·obtain rfl:i = l.length := by omega
   repeat' (first | exact ⟨⟩ | intro (K:KT) hK | intro hcd | (refine go1 ?_ ?_ <;> try clear hK K) | fail)
   exact WS.c rfl rfl
def VCycs (l:List Cyc):Prop := l.length ≤ 8∧∀ c ∈ l,VCyc c
theorem cycles_ok (l:List Cyc) (hl:VCycs l):FnE Tryz.prog 97 [.sl 4 (l.map cyC)] [] (I 0) []:=by
 obtain ⟨h1,h2⟩ := hl
 refine N.fnC Tryz.func97 k97 fun Q hQ hQN => ?_
 repeat' (first | rw [List.length_map] | exact ⟨⟩ | intro (K:KT) hK | intro hcd | (refine go1 ?_ ?_ <;> try clear hK K) | fail)
 refine N.loop (σ := Nat) (fun i => [(9,.sl 4 (l.map cyC)),(10,I l.length),(11,I i)]) (fun i => []) (fun i => i ≤ l.length) (fun i => l.length - i) 0 (by omega) (by exact .G [] 1) fun i hi C hC => ?_
 by_cases hil:i < l.length
 ·have hv := cycle_ok _ (h2 _ (List.getElem_mem hil))
  repeat' (first | (show WOpsT _ (⟨_,.idx _ _ _ _,none⟩ :: _) _ _ _ _; refine T.idxs rfl rfl rfl (by omega) (mget cyC l i hil) ?_) | refine T.call0 e144 rfl hv ?_ | exact ⟨⟩ | intro (K:KT) hK | intro hcd | (refine go1 ?_ ?_ <;> try clear hK K) | fail)
  exact hC _ _ (i + 1) (by omega) (by omega) (by exact .G [] 1)
 ·obtain rfl:i = l.length := by omega
  repeat' (first | exact ⟨⟩ | intro (K:KT) hK | intro hcd | (refine go1 ?_ ?_ <;> try clear hK K) | fail)
  exact WS.c rfl rfl
def opnd (l:List Cyc):Int := (l.countP fun c => c.bus == 1 && c.at_ == 0:Nat)
theorem opnd_take (l:List Cyc) (i:Nat) (hi:i < l.length):opnd (l.take (i + 1)) = opnd (l.take i) + if l[i].bus = 1∧l[i].at_ = 0 then 1 else 0:=by
 unfold opnd
 rw [List.take_succ_eq_append_getElem hi,List.countP_append]
 simp only [List.countP_cons,List.countP_nil,Bool.and_eq_true,beq_iff_eq]
 split <;> simp
theorem opnd_in (l:List Cyc):0 ≤ opnd l∧opnd l ≤ l.length:=by
 unfold opnd
 have := List.countP_le_length (p := fun c:Cyc => c.bus == 1 && c.at_ == 0) (l := l)
 omega
theorem operand_ok (l:List Cyc) (hl:l.length ≤ 8):FnE Tryz.prog 98 [.sl 4 (l.map cyC)] [] (I (opnd l)) []:=by
 refine N.fnC Tryz.func98 k98 fun Q hQ hQN => ?_
 repeat' (first | rw [List.length_map] | exact ⟨⟩ | intro (K:KT) hK | intro hcd | (refine go1 ?_ ?_ <;> try clear hK K) | fail)
 refine N.loop (σ := Nat) (fun i => [(3,I (opnd (l.take i))),(6,.sl 4 (l.map cyC)),(7,I l.length),(8,I i)]) (fun i => []) (fun i => i ≤ l.length) (fun i => l.length - i) 0 (by omega) (by exact .G [] 1) fun i hi C hC => ?_
 by_cases hil:i < l.length
 ·have e := opnd_take l i hil
  have b1 := opnd_in (l.take i)
  have b2 := List.length_take_le i l
  obtain ⟨w,hw⟩:∃ w,l[i] = w := ⟨_,rfl⟩
  obtain ⟨b,a,r,ss⟩ := w
  have hm := mget cyC l i hil
  rw [hw] at hm e
  dsimp only at e
  repeat' (first | refine rI hm ?_ | exact ⟨⟩ | intro (K:KT) hK | intro hcd | (refine go1 ?_ ?_ <;> try clear hK K) | fail)
  all_goals
   refine hC _ _ (i + 1) (by omega) (by omega) ?_
   rw [e]
   first | (rw [if_pos (by omega)]; exact (by exact .G [] 1)) | (rw [if_neg (by omega),Int.add_zero]; exact (by exact .G [] 1))
 ·obtain rfl:i = l.length := by omega
  rw [List.take_length]
  repeat' (first | exact ⟨⟩ | intro (K:KT) hK | intro hcd | (refine go1 ?_ ?_ <;> try clear hK K) | fail)
  exact WS.c rfl rfl
def nmB (s:ByteArray):List Int := s.data.toList.map fun b => (b.toNat:Int)
theorem nmB_len (s:ByteArray):(nmB s).length = s.size := by simp [nmB]
def okCh (b:Int):Prop := (97 ≤ b∧b ≤ 122)∨(48 ≤ b∧b ≤ 57)∨b = 45
def VName (s:ByteArray):Prop := (1 ≤ s.size∧s.size ≤ 20)∧(∃ b,s[0]? = some b∧97 ≤ (b.toNat:Int)∧(b.toNat:Int) ≤ 122)∧∀ x ∈ nmB s,okCh x
theorem name_ok (s:ByteArray) (hs:VName s):FnE Tryz.prog 44 [.c (.string s)] [] (.c (.bool true)) []:=by
 obtain ⟨h1,⟨b0,h2,h3⟩,h4⟩ := hs
 have hne:decide (s = ⟨#[]⟩) = false := decide_eq_false (by intro h; subst h; exact absurd h1.1 (by decide))
 have hl := nmB_len s
 refine N.fnC Tryz.func44 k44 fun Q hQ hQN => ?_
 repeat' (first | rw [hne] | refine T.lens rfl ?_ | (show WOpsT _ (⟨_,.ixs _ _,none⟩ :: _) _ _ _ _; refine T.ixs rfl rfl (by decide) h2 ?_) | refine T.s2b rfl ?_ | exact ⟨⟩ | intro (K:KT) hK | intro hcd | (refine go1 ?_ ?_ <;> try clear hK K) | fail)
 refine N.loop (σ := Nat) (fun i => [(23,.psl 0 1 0 s.size),(24,I s.size),(25,I i)]) (fun i => [⟨1,1,bcells (nmB s)⟩]) (fun i => i ≤ s.size) (fun i => s.size - i) 0 (by omega) (Weaks.sel (by exact sB) rfl) fun i hi C hC => ?_
 by_cases hil:i < s.size
 ·have hil2:i < (nmB s).length := by omega
  have hg := bget (m := nmB s) (i := i) hil2
  have hx := h4 ((nmB s).getD i 0) (by rw [List.getD_eq_getElem?_getD,List.getElem?_eq_getElem hil2]; exact List.getElem_mem hil2)
  obtain ⟨x,hxe⟩:∃ x,(nmB s).getD i 0 = x := ⟨_,rfl⟩
  rw [hxe] at hg hx
  unfold okCh at hx
  have hg2:(bcells (nmB s))[0 + ((i:Nat):Int).toNat]? = some [.c (.int .u8 x)] := by rw [Int.toNat_natCast,Nat.zero_add]; exact hg
  repeat' (first | (show WOpsT _ (⟨_,.ld _ _,none⟩ :: _) _ _ _ _; refine T.ld rfl rfl rfl hg2 rfl ?_) | exact ⟨⟩ | intro (K:KT) hK | intro hcd | (refine go1 ?_ ?_ <;> try clear hK K) | fail)
  all_goals first | exact hC _ _ (i + 1) (by omega) (by omega) (Weaks.sel (by exact sB) rfl) | trace_state
 ·obtain rfl:i = s.size := by omega
  repeat' (first | exact ⟨⟩ | intro (K:KT) hK | intro hcd | (refine go1 ?_ ?_ <;> try clear hK K) | fail)
  exact WS.c rfl rfl
structure Ins where
 op:Int
 name:ByteArray
 mode:Int
 cy:List Cyc
def inC (x:Ins):List V := [I x.op,.c (.string x.name),I x.mode,.sl 4 (x.cy.map cyC)]
def idxI (p:Ins→Bool) (l:List Ins):Int := match l.findIdx? p with | some i => (i:Int) | none => -1
theorem idxI_at (p:Ins→Bool) (l:List Ins) (i:Nat) (hi:i < l.length) (h:∀ j,j < i→∀ hj:j < l.length,p l[j] = false) (hp:p l[i] = true):idxI p l = i:=by
 unfold idxI
 rw [show l.findIdx? p = some i from List.findIdx?_eq_some_iff_getElem.2 ⟨hi,hp,fun j hj => by rw [h j hj (by omega)]; decide⟩]
theorem idxI_none (p:Ins→Bool) (l:List Ins) (h:∀ j,∀ hj:j < l.length,p l[j] = false):idxI p l = -1:=by
 unfold idxI
 rw [show l.findIdx? p = none from List.findIdx?_eq_none_iff.2 fun x hx => by obtain ⟨j,hj,rfl⟩ := List.getElem_of_mem hx; exact h j hj]
theorem indexI (f:Nat) (he:enters Tryz.prog f = true) (y:Ins) (l:List Ins) (p:Ins→Bool) (hl:l.length ≤ 256) (hp:∀ x ∈ l,FnE Tryz.prog f [.agg (inC x),.ptr 0 1 0 0] [⟨1,4,[inC y]⟩] (.c (.bool (p x))) [⟨1,4,[inC y]⟩]):FnE Tryz.prog 143 [.sl 4 (l.map inC),.fn f [.ptr 0 1 0 0]] [⟨1,4,[inC y]⟩] (I (idxI p l)) [⟨1,4,[inC y]⟩]:=by
 refine N.fnC Tryz.func143 k143 fun Q hQ hQN => ?_
 repeat' (first | rw [List.length_map] | exact ⟨⟩ | intro (K:KT) hK | intro hcd | (refine go1 ?_ ?_ <;> try clear hK K) | fail)
 refine N.loop (σ := Nat) (fun i => [(0,.sl 4 (l.map inC)),(1,.fn f [.ptr 0 1 0 0]),(7,I l.length),(8,I i)]) (fun i => [⟨1,4,[inC y]⟩]) (fun i => i ≤ l.length∧∀ j,j < i→∀ hj:j < l.length,p l[j] = false) (fun i => l.length - i) 0 ⟨by omega,fun j hj => absurd hj (by omega)⟩ (Weaks.sel (by exact sB) rfl) fun i hi R hC => ?_
 obtain ⟨hi,hn⟩ := hi
 by_cases hil:i < l.length
 ·have hv := hp _ (List.getElem_mem hil)
  obtain ⟨b,hb⟩:∃ b,p l[i] = b := ⟨_,rfl⟩
  rw [hb] at hv
  cases b
  ·skip
   repeat' (first | (show WOpsT _ (⟨_,.idx _ _ _ _,none⟩ :: _) _ _ _ _; refine T.idxs rfl rfl rfl (by omega) (mget inC l i hil) ?_) | refine T.ofFn rfl (C.read [0] he rfl hv rfl rfl rfl rfl rfl ?_) | exact ⟨⟩ | intro (K:KT) hK | intro hcd | (refine go1 ?_ ?_ <;> try clear hK K) | fail)
   refine hC _ _ (i + 1) ⟨by omega,fun j hj hjl => ?_⟩ (by omega) (Weaks.sel (by exact sB) rfl)
   by_cases hji:j = i
   ·subst hji; exact hb
   ·exact hn j (by omega) hjl
  ·rw [idxI_at p l i hil hn hb] at hQ hQN
   repeat' (first | (show WOpsT _ (⟨_,.idx _ _ _ _,none⟩ :: _) _ _ _ _; refine T.idxs rfl rfl rfl (by omega) (mget inC l i hil) ?_) | refine T.ofFn rfl (C.read [0] he rfl hv rfl rfl rfl rfl rfl ?_) | exact ⟨⟩ | intro (K:KT) hK | intro hcd | (refine go1 ?_ ?_ <;> try clear hK K) | fail)
   exact WS.gc [0] 1 rfl (by exact oO) .rfl
 ·obtain rfl:i = l.length := by omega
  rw [idxI_none p l fun j hj => hn j hj hj] at hQ hQN
  repeat' (first | exact ⟨⟩ | intro (K:KT) hK | intro hcd | (refine go1 ?_ ?_ <;> try clear hK K) | fail)
  exact WS.gc [0] 1 rfl (by exact oO) .rfl
theorem indexO (f:Nat) (he:enters Tryz.prog f = true) (o:Int) (l:List Ins) (p:Ins→Bool) (hl:l.length ≤ 256) (hp:∀ x ∈ l,FnE Tryz.prog f [.agg (inC x),.ptr 0 1 0 0] [⟨1,1,[[I o]]⟩] (.c (.bool (p x))) [⟨1,1,[[I o]]⟩]):FnE Tryz.prog 143 [.sl 4 (l.map inC),.fn f [.ptr 0 1 0 0]] [⟨1,1,[[I o]]⟩] (I (idxI p l)) [⟨1,1,[[I o]]⟩]:=by
 refine N.fnC Tryz.func143 k143 fun Q hQ hQN => ?_
 repeat' (first | rw [List.length_map] | exact ⟨⟩ | intro (K:KT) hK | intro hcd | (refine go1 ?_ ?_ <;> try clear hK K) | fail)
 refine N.loop (σ := Nat) (fun i => [(0,.sl 4 (l.map inC)),(1,.fn f [.ptr 0 1 0 0]),(7,I l.length),(8,I i)]) (fun i => [⟨1,1,[[I o]]⟩]) (fun i => i ≤ l.length∧∀ j,j < i→∀ hj:j < l.length,p l[j] = false) (fun i => l.length - i) 0 ⟨by omega,fun j hj => absurd hj (by omega)⟩ (Weaks.sel (by exact sB) rfl) fun i hi R hC => ?_
 obtain ⟨hi,hn⟩ := hi
 by_cases hil:i < l.length
 ·have hv := hp _ (List.getElem_mem hil)
  obtain ⟨b,hb⟩:∃ b,p l[i] = b := ⟨_,rfl⟩
  rw [hb] at hv
  cases b
  ·skip
   repeat' (first | (show WOpsT _ (⟨_,.idx _ _ _ _,none⟩ :: _) _ _ _ _; refine T.idxs rfl rfl rfl (by omega) (mget inC l i hil) ?_) | refine T.ofFn rfl (C.read [0] he rfl hv rfl rfl rfl rfl rfl ?_) | exact ⟨⟩ | intro (K:KT) hK | intro hcd | (refine go1 ?_ ?_ <;> try clear hK K) | fail)
   refine hC _ _ (i + 1) ⟨by omega,fun j hj hjl => ?_⟩ (by omega) (Weaks.sel (by exact sB) rfl)
   by_cases hji:j = i
   ·subst hji; exact hb
   ·exact hn j (by omega) hjl
  ·rw [idxI_at p l i hil hn hb] at hQ hQN
   repeat' (first | (show WOpsT _ (⟨_,.idx _ _ _ _,none⟩ :: _) _ _ _ _; refine T.idxs rfl rfl rfl (by omega) (mget inC l i hil) ?_) | refine T.ofFn rfl (C.read [0] he rfl hv rfl rfl rfl rfl rfl ?_) | exact ⟨⟩ | intro (K:KT) hK | intro hcd | (refine go1 ?_ ?_ <;> try clear hK K) | fail)
   exact WS.gc [0] 1 rfl (by exact oO) .rfl
 ·obtain rfl:i = l.length := by omega
  rw [idxI_none p l fun j hj => hn j hj hj] at hQ hQN
  repeat' (first | exact ⟨⟩ | intro (K:KT) hK | intro hcd | (refine go1 ?_ ?_ <;> try clear hK K) | fail)
  exact WS.gc [0] 1 rfl (by exact oO) .rfl
theorem find1_ok (x:Ins) (o:Int):FnE Tryz.prog 157 [.agg (inC x),.ptr 0 1 0 0] [⟨1,1,[[I o]]⟩] (.c (.bool (decide (x.op = o)))) [⟨1,1,[[I o]]⟩]:=by
 obtain ⟨a,s,m,cy⟩ := x
 refine N.fnC Tryz.func157 k157 fun Q hQ hQN => ?_
 repeat' (first | exact ⟨⟩ | intro (K:KT) hK | intro hcd | (refine go1 ?_ ?_ <;> try clear hK K) | fail)
 exact WS.gc [0] 1 rfl (by exact oO) .rfl
theorem check1_ok (x y:Ins):FnE Tryz.prog 96 [.agg (inC x),.ptr 0 1 0 0] [⟨1,4,[inC y]⟩] (.c (.bool (decide (x.name = y.name∧x.mode = y.mode)))) [⟨1,4,[inC y]⟩]:=by
 obtain ⟨a,s,m,cy⟩ := x
 obtain ⟨b,t,o,dy⟩ := y
 refine N.fnC Tryz.func96 k96 fun Q hQ hQN => ?_
 repeat' (first | exact ⟨⟩ | intro (K:KT) hK | intro hcd | (refine go1 ?_ ?_ <;> try clear hK K) | fail)
 ·show WeakS _ _ _ (.c (.bool (decide (s = t∧m = o)))) _
  rw [show decide (s = t∧m = o) = decide (m = o) from by simp [*]]
  exact WS.gc [0] 1 rfl (by exact oO) .rfl
 ·show WeakS _ _ _ (.c (.bool (decide (s = t∧m = o)))) _
  rw [show decide (s = t∧m = o) = false from by simp [*]]
  exact WS.gc [0] 1 rfl (by exact oO) .rfl
theorem containsI (f:Nat) (he:enters Tryz.prog f = true) (y:Ins) (l:List Ins) (p:Ins→Bool) (hl:l.length ≤ 256) (hp:∀ x ∈ l,FnE Tryz.prog f [.agg (inC x),.ptr 0 1 0 0] [⟨1,4,[inC y]⟩] (.c (.bool (p x))) [⟨1,4,[inC y]⟩]):FnE Tryz.prog 95 [.sl 4 (l.map inC),.fn f [.ptr 0 1 0 0]] [⟨1,4,[inC y]⟩] (.c (.bool (decide (0 ≤ idxI p l)))) [⟨1,4,[inC y]⟩]:=by
 have hi := indexI f he y l p hl hp
 refine N.fnC Tryz.func95 k95 fun Q hQ hQN => ?_
 repeat' (first | refine T.callQ [0] e143 rfl (hi) (by exact pA) rfl rfl rfl (by exact rN) ?_ | exact ⟨⟩ | intro (K:KT) hK | intro hcd | (refine go1 ?_ ?_ <;> try clear hK K) | fail)
 exact WS.gc [0] 1 rfl (by exact oO) .rfl
end Go.Proofs.YtonhglhdlgbcnabGreat.Calc
