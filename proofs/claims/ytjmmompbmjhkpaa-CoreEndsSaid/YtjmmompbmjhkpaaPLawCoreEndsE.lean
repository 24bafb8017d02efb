/- Several texts in one (FnKit, BitsA, FnBase, FnField, FnTable, FnTableB, FnTableC, FnTableD, FnTableE, FnTableF, FnTableG, FnStream, FnMake, PureStd, FnStd, FnStdB, FnStdC, FnMakeB, FnMakeC, FnArith, FnAlu, FnDoS, PureCore, FnDoG, FnDo, FnAluL), for the proof of LawCoreEnds. No condition beyond those in each lemma. -/
import Derived.Test.YtjmmompbmjhkpaaPLawCoreEndsC
import Derived.Laws.BitsLemmas
import Derived.Laws.Wrap64
import Derived.RowKit
import Derived.Test.YtjmmompbmjhkpaaPLawCoreEndsD
namespace Go.Proofs.Ytjmmompbmjhkpaa.Calc
open Go
set_option linter.unusedSimpArgs false
theorem out_pslK {h : List Blk} {ids : List Nat} {n b ver off len : Nat} {B : Blk} (hp : pos ids b = none) (hb : h[b]? = some B) (hv : B.ver = ver) : out h ids (n + 1) (.psl b ver off len) = .sl B.esz (((B.rows.drop off).take len).map (·.map (frz h (fun b => (pos ids b).isSome) n))) := by
  rw [← frz_psl hb hv (show (fun b => (pos ids b).isSome) b = false by dsimp only; rw [hp]; rfl)]
  simp only [out, V.mapR, hp]
end Go.Proofs.Ytjmmompbmjhkpaa.Calc

namespace Go.Proofs.Ytjmmompbmjhkpaa.BA
open Go Go.RowKit

theorem wrap_small (n : Int) (h0 : -9223372036854775808 ≤ n) (h1 : n < 9223372036854775808) : IntKind.i64.wrap n = n := by
  rw [IntKind.wrap_i64]; omega

theorem w63 (n : Int) (h0 : 0 ≤ n) (h1 : n < 2 ^ 63) : IntKind.i64.wrap n = n := by
  apply wrap_small <;> omega

theorem or_nat (a b : Nat) (ha : a < 2 ^ 63) (hb : b < 2 ^ 63) : bits .or .i64 a b = ((a ||| b : Nat) : Int) :=
  (bits_nat .i64 63 (by decide) w63 a b ha hb).2
def andn (a b : Nat) : Nat := a ^^^ (a &&& b)
theorem andn_bit (a b i : Nat) : (andn a b).testBit i = (a.testBit i && !b.testBit i) := by
  simp only [andn, Nat.testBit_xor, Nat.testBit_and]
  cases a.testBit i <;> cases b.testBit i <;> rfl
theorem andn_le (a b : Nat) (n : Nat) (ha : a < 2 ^ n) : andn a b < 2 ^ n := by
  unfold andn; exact Nat.xor_lt_two_pow ha (Nat.lt_of_le_of_lt Nat.and_le_left ha)
theorem andn_nat (a b : Nat) (ha : a < 2 ^ 63) (_hb : b < 2 ^ 63) : bits .andNot .i64 a b = ((andn a b : Nat) : Int) := by
  have e : (BitVec.ofNat 64 a &&& ~~~ BitVec.ofNat 64 b).toNat = andn a b := by
    apply Nat.eq_of_testBit_eq; intro i
    rw [andn_bit]
    rw [BitVec.testBit_toNat, BitVec.getLsbD_and, BitVec.getLsbD_not]
    simp only [BitVec.getLsbD_ofNat]
    by_cases h : i < 64
    · simp [h]
    · have : a.testBit i = false := Nat.testBit_lt_two_pow (Nat.lt_of_lt_of_le ha (Nat.pow_le_pow_right (by decide) (by omega)))
      simp [h, this]
  show IntKind.i64.wrap ((BitVec.ofInt 64 (a : Int) &&& ~~~ BitVec.ofInt 64 (b : Int)).toNat : Nat) = _
  rw [BitVec.ofInt_natCast, BitVec.ofInt_natCast, e]
  exact w63 _ (Int.natCast_nonneg _) (by exact_mod_cast andn_le a b 63 ha)

theorem low_eq (n : Int) (w : Nat) (hw : w ≤ 62) : bits .and .i64 n (2 ^ w - 1) = n % 2 ^ w := by
  have hpos : 0 < 2 ^ w := Nat.two_pow_pos w
  have hlt : 2 ^ w ≤ 2 ^ 62 := Nat.pow_le_pow_right (by decide) hw
  have hc : ((2 : Int) ^ w - 1) = ((2 ^ w - 1 : Nat) : Int) := by rw [Int.natCast_sub hpos]; simp
  rw [hc]
  have hm : (2 ^ w - 1) % 2 ^ 64 = 2 ^ w - 1 := Nat.mod_eq_of_lt (by omega)
  have hd : (2 ^ w : Nat) ∣ 2 ^ 64 := Nat.pow_dvd_pow 2 (by omega)
  show IntKind.i64.wrap ((BitVec.ofInt 64 n &&& BitVec.ofInt 64 ((2 ^ w - 1 : Nat) : Int)).toNat : Nat) = _
  rw [BitVec.ofInt_natCast, BitVec.toNat_and, BitVec.toNat_ofInt, BitVec.toNat_ofNat, hm, Nat.and_two_pow_sub_one_eq_mod]
  have e : (((n % ((2 ^ 64 : Nat) : Int)).toNat % 2 ^ w : Nat) : Int) = n % 2 ^ w := by
    rw [Int.natCast_emod, Int.toNat_of_nonneg (Int.emod_nonneg _ (by decide))]
    rw [Int.emod_emod_of_dvd _ (by exact_mod_cast hd)]
    simp
  rw [e]
  have h2 : (0 : Int) < 2 ^ w := by exact_mod_cast hpos
  have h3 := Int.emod_nonneg n (b := 2 ^ w) (by omega)
  have h4 := Int.emod_lt_of_pos n h2
  have h5 : (2 : Int) ^ w ≤ 2 ^ 62 := by exact_mod_cast hlt
  exact w63 _ h3 (by omega)

def bitAt (n : Int) (i : Nat) : Nat := (n / 2 ^ i % 2).toNat
def rev : Nat → Int → Nat
  | 0, _ => 0
  | w + 1, n => 2 * rev w n + bitAt n w
def lo : Nat → Int → Nat
  | 0, _ => 0
  | w + 1, n => lo w n + bitAt n w * 2 ^ w
def pc : Nat → Int → Nat
  | 0, _ => 0
  | w + 1, n => pc w n + bitAt n w
end Go.Proofs.Ytjmmompbmjhkpaa.BA

namespace Go.Proofs.Ytjmmompbmjhkpaa.Calc
open Go Code
set_option linter.unusedSimpArgs false
set_option linter.unusedVariables false
set_option maxRecDepth 20000
attribute [local irreducible] WOpsT AW AK RK AKW UK UC
def wd (w : Int) : Nat := (max 0 (min w 62)).toNat
theorem wd_le (w : Int) : wd w ≤ 62 := by unfold wd; omega
theorem wd_cast (w : Int) : max 0 (min w 62) = (wd w : Int) := by unfold wd; omega
theorem pow_le (w : Nat) (hw : w ≤ 62) : (2 : Int) ^ w ≤ 4611686018427387904 := by
  have : (2 : Int) ^ w ≤ 2 ^ 62 := by
    have := Nat.pow_le_pow_right (n := 2) (by decide) hw
    exact_mod_cast this
  exact Int.le_trans this (by decide)
theorem pow_pos' (w : Nat) : (1 : Int) ≤ 2 ^ w := by
  have := Nat.pow_pos (n := w) (a := 2) (by decide)
  exact_mod_cast this
theorem mod_lo (v : Int) (w : Nat) : 0 ≤ v % 2 ^ w ∧ v % 2 ^ w < 2 ^ w := ⟨Int.emod_nonneg _ (by have := pow_pos' w; omega), Int.emod_lt_of_pos _ (by have := pow_pos' w; omega)⟩
theorem min64 (w : Nat) (hw : w ≤ 62) : min ((w : Int)).toNat IntKind.i64.bits = w := by
  have : IntKind.i64.bits = 64 := rfl
  omega

theorem width_ok (w : Int) : FnE Try.prog 92 [I w] [] (I (wd w)) [] := by
  refine fnI Try.func92 k92 lb q92 fun Q hQ => ?_
  rw [c92]
  repeat (first
    | refine AW.regS fun K hK => ?_
    | refine AW.dregS fun K hK => ?_
    | refine AW.regN fun K hK => ?_
    | refine AW.dregN fun K hK => ?_
    | simp only [T.mv, sm, AO.ev, put, lk, enter, reduceIte, Nat.reduceEqDiff, Nat.reduceAdd, Nat.reduceMul, Nat.reduceSub, Int.reduceNeg, Int.reduceToNat, upto, renB, setAll]
    | refine T.nil ?_
    | (first | refine hK _ _ _ (by rfl) ?_ | refine hK _ _ _ ?_); simp only [keep, List.map, lk, reduceIte, Nat.reduceEqDiff, enter]; clear hK; clear K
    | refine T.add rfl rfl (by omega) (by omega) ?_
    | refine T.sub rfl rfl (by omega) (by omega) ?_
    | refine T.bin rfl rfl rfl ?_
    | refine T.rem rfl rfl (by omega) ?_
    | refine T.quo rfl rfl (by omega) ?_
    | refine T.shl rfl rfl (by omega) ?_
    | refine T.shr rfl rfl (by omega) ?_
    | refine T.min2 rfl rfl rfl ?_
    | refine T.max2 rfl rfl rfl ?_
    | refine T.ext rfl rfl ?_
    | refine T.lenc ?_
    | refine T.eqnP rfl rfl ⟨rfl, by decide⟩ ?_
    | refine T.eqnN rfl ?_
    | refine T.neg rfl ?_
    | refine T.xorn rfl ?_
    | refine T.notD rfl ?_
    | refine T.not rfl ?_
    | refine T.eqb0 rfl rfl ?_
    | refine T.eqb1 rfl rfl ?_
    | refine T.cvt rfl ?_
    | refine T.ld rfl rfl rfl rfl rfl ?_
    | refine T.ldd rfl rfl ?_
    | refine T.ldn rfl rfl rfl rfl lb ?_
    | refine T.lddn rfl lb ?_
    | refine T.fad rfl rfl rfl ?_
    | refine T.fadd rfl ?_
    | refine T.nilc rfl rfl rfl ?_
    | refine T.nilcd rfl ?_
    | refine T.st rfl rfl rfl ⟨rfl, rfl⟩ rfl lb ?_
    | refine T.fld rfl rfl ?_
    | refine T.new rfl ⟨rfl, by decide⟩ ?_
    | refine T.zero (by decide) ?_
    | refine T.build rfl ?_
    | refine T.len rfl rfl rfl ?_
    | refine T.lenS rfl ?_
    | refine T.lenN rfl ?_
    | refine T.mkf ?_
    | refine T.mki ?_
    | refine T.mksl rfl rfl (by decide) ?_
    | refine T.copy rfl rfl rfl ⟨rfl, rfl⟩ ?_
    | refine T.idx rfl rfl rfl ⟨rfl, rfl⟩ (by omega) ?_
    | refine T.idxa rfl rfl rfl rfl (by omega) ?_
    | refine T.idxd rfl rfl (by omega) ?_
    | refine T.bsl rfl (by decide) ?_
    | refine T.slc rfl rfl rfl rfl ⟨rfl, rfl⟩ (by omega) ?_
    | refine T.go rfl rfl ?_
    | refine T.pass rfl rfl ?_
    | refine T.pickB rfl rfl rfl ?_
    | refine AW.retI ?_)
  exact hQ _ _ _ rfl (WeakV.cE rfl (by rw [wd_cast]))

theorem low_ok (v w : Int) : FnE Try.prog 35 [I v, I w] [] (I (v % 2 ^ wd w)) [] := by
  refine fnI Try.func35 k35 lb q35 fun Q hQ => ?_
  rw [c35]
  have h1 := pow_le (wd w) (wd_le w)
  have h2 := pow_pos' (wd w)
  have h3 := wd_le w
  repeat (first
    | refine T.call0 e92 rfl (width_ok _) ?_
    | refine AW.regS fun K hK => ?_
    | refine AW.dregS fun K hK => ?_
    | refine AW.regN fun K hK => ?_
    | refine AW.dregN fun K hK => ?_
    | simp only [T.mv, sm, AO.ev, put, lk, enter, reduceIte, Nat.reduceEqDiff, Nat.reduceAdd, Nat.reduceMul, Nat.reduceSub, Int.reduceNeg, Int.reduceToNat, upto, renB, setAll]
    | refine T.nil ?_
    | (first | refine hK _ _ _ (by rfl) ?_ | refine hK _ _ _ ?_); simp only [keep, List.map, lk, reduceIte, Nat.reduceEqDiff, enter]; clear hK; clear K
    | refine T.add rfl rfl (by omega) (by omega) ?_
    | refine T.sub rfl rfl (by omega) (by omega) ?_
    | refine T.bin rfl rfl rfl ?_
    | refine T.rem rfl rfl (by omega) ?_
    | refine T.quo rfl rfl (by omega) ?_
    | refine T.shl rfl rfl (by omega) ?_
    | refine T.shr rfl rfl (by omega) ?_
    | refine T.min2 rfl rfl rfl ?_
    | refine T.max2 rfl rfl rfl ?_
    | refine T.ext rfl rfl ?_
    | refine T.lenc ?_
    | refine T.eqnP rfl rfl ⟨rfl, by decide⟩ ?_
    | refine T.eqnN rfl ?_
    | refine T.neg rfl ?_
    | refine T.xorn rfl ?_
    | refine T.notD rfl ?_
    | refine T.not rfl ?_
    | refine T.eqb0 rfl rfl ?_
    | refine T.eqb1 rfl rfl ?_
    | refine T.cvt rfl ?_
    | refine T.ld rfl rfl rfl rfl rfl ?_
    | refine T.ldd rfl rfl ?_
    | refine T.ldn rfl rfl rfl rfl lb ?_
    | refine T.lddn rfl lb ?_
    | refine T.fad rfl rfl rfl ?_
    | refine T.fadd rfl ?_
    | refine T.nilc rfl rfl rfl ?_
    | refine T.nilcd rfl ?_
    | refine T.st rfl rfl rfl ⟨rfl, rfl⟩ rfl lb ?_
    | refine T.fld rfl rfl ?_
    | refine T.new rfl ⟨rfl, by decide⟩ ?_
    | refine T.zero (by decide) ?_
    | refine T.build rfl ?_
    | refine T.len rfl rfl rfl ?_
    | refine T.lenS rfl ?_
    | refine T.lenN rfl ?_
    | refine T.mkf ?_
    | refine T.mki ?_
    | refine T.mksl rfl rfl (by decide) ?_
    | refine T.copy rfl rfl rfl ⟨rfl, rfl⟩ ?_
    | refine T.idx rfl rfl rfl ⟨rfl, rfl⟩ (by omega) ?_
    | refine T.idxa rfl rfl rfl rfl (by omega) ?_
    | refine T.idxd rfl rfl (by omega) ?_
    | refine T.bsl rfl (by decide) ?_
    | refine T.slc rfl rfl rfl rfl ⟨rfl, rfl⟩ (by omega) ?_
    | refine T.go rfl rfl ?_
    | refine T.pass rfl rfl ?_
    | refine T.pickB rfl rfl rfl ?_
    | refine AW.retI ?_)
  refine hQ _ _ _ rfl (WeakV.cE rfl ?_)
  rw [min64 _ h3, Int.one_mul, wrap64 (n := 2 ^ wd w) (by omega) (by omega), wrap64 (by omega) (by omega), BA.low_eq _ _ h3]

theorem bits1 (n : Int) : bits .and .i64 n 1 = n % 2 := by
  have := BA.low_eq n 1 (by decide)
  simpa using this

theorem lowN_ok (v : Int) (n : Nat) (hn : n ≤ 62) : FnE Try.prog 35 [I v, I n] [] (I (v % 2 ^ n)) [] := by
  have := low_ok v n
  rwa [show wd (n : Int) = n by unfold wd; omega] at this
theorem below_ok (x n : Int) (hn : 0 < n) (hn2 : n < 4611686018427387904) : FnE Try.prog 29 [I x, I n] [] (I (x % n)) [] := by
  refine fnI Try.func29 k29 lb q29 fun Q hQ => ?_
  rw [c29]
  repeat (first
    | refine AW.regS fun K hK => ?_
    | refine AW.dregS fun K hK => ?_
    | refine AW.regN fun K hK => ?_
    | refine AW.dregN fun K hK => ?_
    | simp only [T.mv, sm, AO.ev, put, lk, enter, reduceIte, Nat.reduceEqDiff, Nat.reduceAdd, Nat.reduceMul, Nat.reduceSub, Int.reduceNeg, Int.reduceToNat, upto, renB, setAll]
    | refine T.nil ?_
    | (first | refine hK _ _ _ (by rfl) ?_ | refine hK _ _ _ ?_); simp only [keep, List.map, lk, reduceIte, Nat.reduceEqDiff, enter]; clear hK; clear K
    | refine T.add rfl rfl (by omega) (by omega) ?_
    | refine T.sub rfl rfl (by omega) (by omega) ?_
    | refine T.bin rfl rfl rfl ?_
    | refine T.rem rfl rfl (by omega) ?_
    | refine T.quo rfl rfl (by omega) ?_
    | refine T.shl rfl rfl (by omega) ?_
    | refine T.shr rfl rfl (by omega) ?_
    | refine T.min2 rfl rfl rfl ?_
    | refine T.max2 rfl rfl rfl ?_
    | refine T.ext rfl rfl ?_
    | refine T.lenc ?_
    | refine T.eqnP rfl rfl ⟨rfl, by decide⟩ ?_
    | refine T.eqnN rfl ?_
    | refine T.neg rfl ?_
    | refine T.xorn rfl ?_
    | refine T.notD rfl ?_
    | refine T.not rfl ?_
    | refine T.eqb0 rfl rfl ?_
    | refine T.eqb1 rfl rfl ?_
    | refine T.cvt rfl ?_
    | refine T.ld rfl rfl rfl rfl rfl ?_
    | refine T.ldd rfl rfl ?_
    | refine T.ldn rfl rfl rfl rfl lb ?_
    | refine T.lddn rfl lb ?_
    | refine T.fad rfl rfl rfl ?_
    | refine T.fadd rfl ?_
    | refine T.nilc rfl rfl rfl ?_
    | refine T.nilcd rfl ?_
    | refine T.st rfl rfl rfl ⟨rfl, rfl⟩ rfl lb ?_
    | refine T.fld rfl rfl ?_
    | refine T.new rfl ⟨rfl, by decide⟩ ?_
    | refine T.zero (by decide) ?_
    | refine T.build rfl ?_
    | refine T.len rfl rfl rfl ?_
    | refine T.lenS rfl ?_
    | refine T.lenN rfl ?_
    | refine T.mkf ?_
    | refine T.mki ?_
    | refine T.mksl rfl rfl (by decide) ?_
    | refine T.copy rfl rfl rfl ⟨rfl, rfl⟩ ?_
    | refine T.idx rfl rfl rfl ⟨rfl, rfl⟩ (by omega) ?_
    | refine T.idxa rfl rfl rfl rfl (by omega) ?_
    | refine T.idxd rfl rfl (by omega) ?_
    | refine T.bsl rfl (by decide) ?_
    | refine T.slc rfl rfl rfl rfl ⟨rfl, rfl⟩ (by omega) ?_
    | refine T.go rfl rfl ?_
    | refine T.pass rfl rfl ?_
    | refine T.pickB rfl rfl rfl ?_
    | refine AW.retI ?_)
  refine AW.seqI fun Q1 hN hX hR => ?_
  repeat (first
    | refine AW.regS fun K hK => ?_
    | refine AW.dregS fun K hK => ?_
    | refine AW.regN fun K hK => ?_
    | refine AW.dregN fun K hK => ?_
    | simp only [T.mv, sm, AO.ev, put, lk, enter, reduceIte, Nat.reduceEqDiff, Nat.reduceAdd, Nat.reduceMul, Nat.reduceSub, Int.reduceNeg, Int.reduceToNat, upto, renB, setAll]
    | refine T.nil ?_
    | (first | refine hK _ _ _ (by rfl) ?_ | refine hK _ _ _ ?_); simp only [keep, List.map, lk, reduceIte, Nat.reduceEqDiff, enter]; clear hK; clear K
    | refine T.add rfl rfl (by omega) (by omega) ?_
    | refine T.sub rfl rfl (by omega) (by omega) ?_
    | refine T.bin rfl rfl rfl ?_
    | refine T.rem rfl rfl (by omega) ?_
    | refine T.quo rfl rfl (by omega) ?_
    | refine T.shl rfl rfl (by omega) ?_
    | refine T.shr rfl rfl (by omega) ?_
    | refine T.min2 rfl rfl rfl ?_
    | refine T.max2 rfl rfl rfl ?_
    | refine T.ext rfl rfl ?_
    | refine T.lenc ?_
    | refine T.eqnP rfl rfl ⟨rfl, by decide⟩ ?_
    | refine T.eqnN rfl ?_
    | refine T.neg rfl ?_
    | refine T.xorn rfl ?_
    | refine T.notD rfl ?_
    | refine T.not rfl ?_
    | refine T.eqb0 rfl rfl ?_
    | refine T.eqb1 rfl rfl ?_
    | refine T.cvt rfl ?_
    | refine T.ld rfl rfl rfl rfl rfl ?_
    | refine T.ldd rfl rfl ?_
    | refine T.ldn rfl rfl rfl rfl lb ?_
    | refine T.lddn rfl lb ?_
    | refine T.fad rfl rfl rfl ?_
    | refine T.fadd rfl ?_
    | refine T.nilc rfl rfl rfl ?_
    | refine T.nilcd rfl ?_
    | refine T.st rfl rfl rfl ⟨rfl, rfl⟩ rfl lb ?_
    | refine T.fld rfl rfl ?_
    | refine T.new rfl ⟨rfl, by decide⟩ ?_
    | refine T.zero (by decide) ?_
    | refine T.build rfl ?_
    | refine T.len rfl rfl rfl ?_
    | refine T.lenS rfl ?_
    | refine T.lenN rfl ?_
    | refine T.mkf ?_
    | refine T.mki ?_
    | refine T.mksl rfl rfl (by decide) ?_
    | refine T.copy rfl rfl rfl ⟨rfl, rfl⟩ ?_
    | refine T.idx rfl rfl rfl ⟨rfl, rfl⟩ (by omega) ?_
    | refine T.idxa rfl rfl rfl rfl (by omega) ?_
    | refine T.idxd rfl rfl (by omega) ?_
    | refine T.bsl rfl (by decide) ?_
    | refine T.slc rfl rfl rfl rfl ⟨rfl, rfl⟩ (by omega) ?_
    | refine T.go rfl rfl ?_
    | refine T.pass rfl rfl ?_
    | refine T.pickB rfl rfl rfl ?_
    | refine AW.retI ?_)
  have hm : x % n = if x.tmod n < 0 then x.tmod n + n else x.tmod n := by
    rw [Int.tmod_eq_emod]
    have h0 := Int.emod_nonneg x (show n ≠ 0 by omega)
    have h1 := Int.emod_lt_of_pos x hn
    have h2 : (n.natAbs : Int) = n := by omega
    split <;> split <;> omega
  have hlo : -n ≤ x.tmod n ∧ x.tmod n < n := by
    have h0 := Int.emod_nonneg x (show n ≠ 0 by omega)
    have h1 := Int.emod_lt_of_pos x hn
    split at hm <;> omega
  refine AW.condB rfl (fun ht => ?_) (fun ht => ?_)
  · have ht := of_decide_eq_true ht
    rw [if_pos ht] at hm
    repeat (first
      | refine AW.regS fun K hK => ?_
      | refine AW.dregS fun K hK => ?_
      | refine AW.regN fun K hK => ?_
      | refine AW.dregN fun K hK => ?_
      | simp only [T.mv, sm, AO.ev, put, lk, enter, reduceIte, Nat.reduceEqDiff, Nat.reduceAdd, Nat.reduceMul, Nat.reduceSub, Int.reduceNeg, Int.reduceToNat, upto, renB, setAll]
      | refine T.nil ?_
      | (first | refine hK _ _ _ (by rfl) ?_ | refine hK _ _ _ ?_); simp only [keep, List.map, lk, reduceIte, Nat.reduceEqDiff, enter]; clear hK; clear K
      | refine T.add rfl rfl (by omega) (by omega) ?_
      | refine T.sub rfl rfl (by omega) (by omega) ?_
      | refine T.bin rfl rfl rfl ?_
      | refine T.rem rfl rfl (by omega) ?_
      | refine T.quo rfl rfl (by omega) ?_
      | refine T.shl rfl rfl (by omega) ?_
      | refine T.shr rfl rfl (by omega) ?_
      | refine T.min2 rfl rfl rfl ?_
      | refine T.max2 rfl rfl rfl ?_
      | refine T.ext rfl rfl ?_
      | refine T.lenc ?_
      | refine T.eqnP rfl rfl ⟨rfl, by decide⟩ ?_
      | refine T.eqnN rfl ?_
      | refine T.neg rfl ?_
      | refine T.xorn rfl ?_
      | refine T.notD rfl ?_
      | refine T.not rfl ?_
      | refine T.eqb0 rfl rfl ?_
      | refine T.eqb1 rfl rfl ?_
      | refine T.cvt rfl ?_
      | refine T.ld rfl rfl rfl rfl rfl ?_
      | refine T.ldd rfl rfl ?_
      | refine T.ldn rfl rfl rfl rfl lb ?_
      | refine T.lddn rfl lb ?_
      | refine T.fad rfl rfl rfl ?_
      | refine T.fadd rfl ?_
      | refine T.nilc rfl rfl rfl ?_
      | refine T.nilcd rfl ?_
      | refine T.st rfl rfl rfl ⟨rfl, rfl⟩ rfl lb ?_
      | refine T.fld rfl rfl ?_
      | refine T.new rfl ⟨rfl, by decide⟩ ?_
      | refine T.zero (by decide) ?_
      | refine T.build rfl ?_
      | refine T.len rfl rfl rfl ?_
      | refine T.lenS rfl ?_
      | refine T.lenN rfl ?_
      | refine T.mkf ?_
      | refine T.mki ?_
      | refine T.mksl rfl rfl (by decide) ?_
      | refine T.copy rfl rfl rfl ⟨rfl, rfl⟩ ?_
      | refine T.idx rfl rfl rfl ⟨rfl, rfl⟩ (by omega) ?_
      | refine T.idxa rfl rfl rfl rfl (by omega) ?_
      | refine T.idxd rfl rfl (by omega) ?_
      | refine T.bsl rfl (by decide) ?_
      | refine T.slc rfl rfl rfl rfl ⟨rfl, rfl⟩ (by omega) ?_
      | refine T.go rfl rfl ?_
      | refine T.pass rfl rfl ?_
      | refine T.pickB rfl rfl rfl ?_
      | refine AW.retI ?_)
    refine hN _ _ ?_
    repeat (first
      | refine AW.regS fun K hK => ?_
      | refine AW.dregS fun K hK => ?_
      | refine AW.regN fun K hK => ?_
      | refine AW.dregN fun K hK => ?_
      | simp only [T.mv, sm, AO.ev, put, lk, enter, reduceIte, Nat.reduceEqDiff, Nat.reduceAdd, Nat.reduceMul, Nat.reduceSub, Int.reduceNeg, Int.reduceToNat, upto, renB, setAll]
      | refine T.nil ?_
      | (first | refine hK _ _ _ (by rfl) ?_ | refine hK _ _ _ ?_); simp only [keep, List.map, lk, reduceIte, Nat.reduceEqDiff, enter]; clear hK; clear K
      | refine T.add rfl rfl (by omega) (by omega) ?_
      | refine T.sub rfl rfl (by omega) (by omega) ?_
      | refine T.bin rfl rfl rfl ?_
      | refine T.rem rfl rfl (by omega) ?_
      | refine T.quo rfl rfl (by omega) ?_
      | refine T.shl rfl rfl (by omega) ?_
      | refine T.shr rfl rfl (by omega) ?_
      | refine T.min2 rfl rfl rfl ?_
      | refine T.max2 rfl rfl rfl ?_
      | refine T.ext rfl rfl ?_
      | refine T.lenc ?_
      | refine T.eqnP rfl rfl ⟨rfl, by decide⟩ ?_
      | refine T.eqnN rfl ?_
      | refine T.neg rfl ?_
      | refine T.xorn rfl ?_
      | refine T.notD rfl ?_
      | refine T.not rfl ?_
      | refine T.eqb0 rfl rfl ?_
      | refine T.eqb1 rfl rfl ?_
      | refine T.cvt rfl ?_
      | refine T.ld rfl rfl rfl rfl rfl ?_
      | refine T.ldd rfl rfl ?_
      | refine T.ldn rfl rfl rfl rfl lb ?_
      | refine T.lddn rfl lb ?_
      | refine T.fad rfl rfl rfl ?_
      | refine T.fadd rfl ?_
      | refine T.nilc rfl rfl rfl ?_
      | refine T.nilcd rfl ?_
      | refine T.st rfl rfl rfl ⟨rfl, rfl⟩ rfl lb ?_
      | refine T.fld rfl rfl ?_
      | refine T.new rfl ⟨rfl, by decide⟩ ?_
      | refine T.zero (by decide) ?_
      | refine T.build rfl ?_
      | refine T.len rfl rfl rfl ?_
      | refine T.lenS rfl ?_
      | refine T.lenN rfl ?_
      | refine T.mkf ?_
      | refine T.mki ?_
      | refine T.mksl rfl rfl (by decide) ?_
      | refine T.copy rfl rfl rfl ⟨rfl, rfl⟩ ?_
      | refine T.idx rfl rfl rfl ⟨rfl, rfl⟩ (by omega) ?_
      | refine T.idxa rfl rfl rfl rfl (by omega) ?_
      | refine T.idxd rfl rfl (by omega) ?_
      | refine T.bsl rfl (by decide) ?_
      | refine T.slc rfl rfl rfl rfl ⟨rfl, rfl⟩ (by omega) ?_
      | refine T.go rfl rfl ?_
      | refine T.pass rfl rfl ?_
      | refine T.pickB rfl rfl rfl ?_
      | refine AW.retI ?_)
    exact hQ _ _ _ rfl (WeakV.cE rfl (by rw [hm]))
  · have ht := of_decide_eq_false ht
    rw [if_neg ht] at hm
    refine AW.skipI (hN _ _ ?_)
    repeat (first
      | refine AW.regS fun K hK => ?_
      | refine AW.dregS fun K hK => ?_
      | refine AW.regN fun K hK => ?_
      | refine AW.dregN fun K hK => ?_
      | simp only [T.mv, sm, AO.ev, put, lk, enter, reduceIte, Nat.reduceEqDiff, Nat.reduceAdd, Nat.reduceMul, Nat.reduceSub, Int.reduceNeg, Int.reduceToNat, upto, renB, setAll]
      | refine T.nil ?_
      | (first | refine hK _ _ _ (by rfl) ?_ | refine hK _ _ _ ?_); simp only [keep, List.map, lk, reduceIte, Nat.reduceEqDiff, enter]; clear hK; clear K
      | refine T.add rfl rfl (by omega) (by omega) ?_
      | refine T.sub rfl rfl (by omega) (by omega) ?_
      | refine T.bin rfl rfl rfl ?_
      | refine T.rem rfl rfl (by omega) ?_
      | refine T.quo rfl rfl (by omega) ?_
      | refine T.shl rfl rfl (by omega) ?_
      | refine T.shr rfl rfl (by omega) ?_
      | refine T.min2 rfl rfl rfl ?_
      | refine T.max2 rfl rfl rfl ?_
      | refine T.ext rfl rfl ?_
      | refine T.lenc ?_
      | refine T.eqnP rfl rfl ⟨rfl, by decide⟩ ?_
      | refine T.eqnN rfl ?_
      | refine T.neg rfl ?_
      | refine T.xorn rfl ?_
      | refine T.notD rfl ?_
      | refine T.not rfl ?_
      | refine T.eqb0 rfl rfl ?_
      | refine T.eqb1 rfl rfl ?_
      | refine T.cvt rfl ?_
      | refine T.ld rfl rfl rfl rfl rfl ?_
      | refine T.ldd rfl rfl ?_
      | refine T.ldn rfl rfl rfl rfl lb ?_
      | refine T.lddn rfl lb ?_
      | refine T.fad rfl rfl rfl ?_
      | refine T.fadd rfl ?_
      | refine T.nilc rfl rfl rfl ?_
      | refine T.nilcd rfl ?_
      | refine T.st rfl rfl rfl ⟨rfl, rfl⟩ rfl lb ?_
      | refine T.fld rfl rfl ?_
      | refine T.new rfl ⟨rfl, by decide⟩ ?_
      | refine T.zero (by decide) ?_
      | refine T.build rfl ?_
      | refine T.len rfl rfl rfl ?_
      | refine T.lenS rfl ?_
      | refine T.lenN rfl ?_
      | refine T.mkf ?_
      | refine T.mki ?_
      | refine T.mksl rfl rfl (by decide) ?_
      | refine T.copy rfl rfl rfl ⟨rfl, rfl⟩ ?_
      | refine T.idx rfl rfl rfl ⟨rfl, rfl⟩ (by omega) ?_
      | refine T.idxa rfl rfl rfl rfl (by omega) ?_
      | refine T.idxd rfl rfl (by omega) ?_
      | refine T.bsl rfl (by decide) ?_
      | refine T.slc rfl rfl rfl rfl ⟨rfl, rfl⟩ (by omega) ?_
      | refine T.go rfl rfl ?_
      | refine T.pass rfl rfl ?_
      | refine T.pickB rfl rfl rfl ?_
      | refine AW.retI ?_)
    exact hQ _ _ _ rfl (WeakV.cE rfl (by rw [hm]))
theorem modN (v : Int) (n : Nat) : ∃ a : Nat, v % 2 ^ n = (a : Int) ∧ a < 2 ^ n := by
  have h := mod_lo v n
  refine ⟨(v % 2 ^ n).toNat, by omega, ?_⟩
  have : (((v % 2 ^ n).toNat : Nat) : Int) < ((2 ^ n : Nat) : Int) := by rw [Int.natCast_pow]; have := h.2; have := h.1; push_cast; omega
  exact_mod_cast this
theorem low_lit (v : Int) (n : Nat) (w : Int) (hw : w = n) (hn : n ≤ 62) : FnE Try.prog 35 [I v, I w] [] (I (v % 2 ^ n)) [] := hw ▸ lowN_ok v n hn
theorem low_in (v : Int) (n : Nat) (w : Int) (hw : w = n) (hn : n ≤ 62) (h : 0 ≤ v ∧ v < 2 ^ n) : FnE Try.prog 35 [I v, I w] [] (I v) [] := by
  have := low_lit v n w hw hn
  rwa [Int.emod_eq_of_lt h.1 h.2] at this
end Go.Proofs.Ytjmmompbmjhkpaa.Calc

namespace Go.Proofs.Ytjmmompbmjhkpaa.Calc
open Go Code
set_option linter.unusedSimpArgs false
set_option linter.unusedVariables false
set_option maxRecDepth 20000
attribute [local irreducible] WOpsT AW AK RK AKW
theorem place_ok (i n : Nat) (h : i + n ≤ 62) : FnE Try.prog 155 [I i, I n] [] (.tup [I i, I n]) [] := by
  refine N.fn Try.func155 k155 lb q155 fun Q hQ hQN => ?_
  rw [c155]
  have e : wd i = i := by unfold wd; omega
  have hw := width_ok i
  rw [e] at hw
  repeat' (first
  | refine N.regS fun K hK => ?_
  | refine N.dregS fun K hK => ?_
  | refine N.regN fun K hK => ?_
  | refine N.dregN fun K hK => ?_
  | simp only [T.mv, sm, AO.ev, put, lk, enter, reduceIte, Nat.reduceEqDiff, Nat.reduceAdd, Nat.reduceMul, Nat.reduceSub, Int.reduceNeg, Int.reduceToNat, upto, renB, setAll]
  | (refine T.nil ?_; (first | refine hK _ _ _ (by rfl) ?_ | refine hK _ _ _ ?_); (try simp only [keep, List.map, lk, reduceIte, Nat.reduceEqDiff, enter]); clear hK K)
  | (show WOpsT _ (⟨_, .call _ _, none⟩ :: _) _ _ _ _; first | refine T.call0 e92 rfl (hw) ?_)
  | (show WOpsT _ (⟨_, .bin _ _ _, none⟩ :: _) _ _ _ _; first | refine L.sub ?_ | refine L.bin ?_)
  | (show AKW _ _ _ _ _ _ _; first | refine N.now ?_)
  | (show AK _ _ _ _ _ _ _; first | refine N.seq ?_ | refine N.ret ?_)
  | (show RK _ _ _ _ _ _ _; simp only [rk, rk0, reduceIte, Nat.reduceEqDiff])
  | (show WOpsT _ _ _ _ _ _; first | refine T.min2 rfl rfl rfl ?_ | refine T.max2 rfl rfl rfl ?_)
  | refine hQ _ _ _ rfl ?_
  | refine hQN _ _ _ rfl ?_)
  exact WS.tup2 rfl rfl (by congr 1; omega)
theorem get_int (v : Int) (i n : Nat) (h : i + n ≤ 62) : v % 2 ^ 62 / 2 ^ i % 2 ^ n = v / 2 ^ i % 2 ^ n := by
  obtain ⟨k, hk⟩ : ∃ k, 62 = i + (n + k) := ⟨62 - i - n, by omega⟩
  have h := Int.emod_add_mul_ediv v (2 ^ 62)
  have hp := pow_pos' i
  conv => rhs; rw [← h]
  rw [hk, Int.pow_add, Int.mul_assoc, Int.add_mul_ediv_left _ _ (by omega), Int.pow_add 2 n k, Int.mul_assoc (2 ^ n)]
  rw [Int.add_mul_emod_self_left]
theorem get_ok (v : Int) (i n : Nat) (h : i + n ≤ 62) : FnE Try.prog 99 [I v, I i, I n] [] (I (v / 2 ^ i % 2 ^ n)) [] := by
  refine N.fn Try.func99 k99 lb q99 fun Q hQ hQN => ?_
  rw [c99]
  repeat' (first
  | refine N.regS fun K hK => ?_
  | refine N.dregS fun K hK => ?_
  | refine N.regN fun K hK => ?_
  | refine N.dregN fun K hK => ?_
  | simp only [T.mv, sm, AO.ev, put, lk, enter, reduceIte, Nat.reduceEqDiff, Nat.reduceAdd, Nat.reduceMul, Nat.reduceSub, Int.reduceNeg, Int.reduceToNat, upto, renB, setAll]
  | (refine T.nil ?_; (first | refine hK _ _ _ (by rfl) ?_ | refine hK _ _ _ ?_); (try simp only [keep, List.map, lk, reduceIte, Nat.reduceEqDiff, enter]); clear hK K)
  | (show WOpsT _ (⟨_, .call _ _, none⟩ :: _) _ _ _ _; first | refine T.call0 e155 rfl (place_ok _ _ h) ?_ | refine T.call0 e35 rfl (lowN_ok _ n (by omega)) ?_ | refine T.call0 e35 rfl (low_lit _ 62 62 rfl (by decide)) ?_)
  | (show WOpsT _ (⟨_, .bin _ _ _, none⟩ :: _) _ _ _ _; first | refine T.shr rfl rfl (by omega) ?_ | refine L.bin ?_)
  | (show AKW _ _ _ _ _ _ _; first | refine N.now ?_)
  | (show AK _ _ _ _ _ _ _; first | refine N.seq ?_ | refine N.ret ?_)
  | (show RK _ _ _ _ _ _ _; simp only [rk, rk0, reduceIte, Nat.reduceEqDiff])
  | (show WOpsT _ _ _ _ _ _; first | refine L.ext ?_)
  | refine hQ _ _ _ rfl ?_
  | refine hQN _ _ _ rfl ?_)
  refine WS.c rfl ?_
  rw [min64 i (by omega), get_int v i n h]
theorem put_nat (a x i n : Nat) (hx : x < 2 ^ n) : BA.andn a ((2 ^ n - 1) * 2 ^ i) ||| x * 2 ^ i = a % 2 ^ i + x * 2 ^ i + a / 2 ^ (i + n) * 2 ^ (i + n) := by
  have h1 : a % 2 ^ i < 2 ^ i := Nat.mod_lt _ (Nat.pow_pos (by decide))
  have h2 : 2 ^ i * x + a % 2 ^ i < 2 ^ (i + n) := by
    have : x + 1 ≤ 2 ^ n := hx
    have h3 := Nat.mul_le_mul_left (2 ^ i) this
    rw [Nat.pow_add, Nat.mul_add, Nat.mul_one] at *
    omega
  rw [show a % 2 ^ i + x * 2 ^ i + a / 2 ^ (i + n) * 2 ^ (i + n) = 2 ^ (i + n) * (a / 2 ^ (i + n)) + (2 ^ i * x + a % 2 ^ i) by rw [Nat.mul_comm x, Nat.mul_comm (a / _)]; omega]
  apply Nat.eq_of_testBit_eq
  intro j
  rw [Nat.testBit_two_pow_mul_add _ h2, Nat.testBit_two_pow_mul_add _ h1, Nat.testBit_or, BA.andn_bit]
  rw [Nat.mul_comm (2 ^ n - 1), Nat.mul_comm x, Nat.testBit_two_pow_mul, Nat.testBit_two_pow_mul, Nat.testBit_two_pow_sub_one, Nat.testBit_mod_two_pow, Nat.testBit_div_two_pow]
  by_cases hj : j < i
  · simp [hj, show j < i + n by omega, show ¬ i ≤ j by omega]
  · by_cases hj2 : j < i + n
    · simp [hj, hj2, show i ≤ j by omega, show j - i < n by omega]
    · have hz : x.testBit (j - i) = false := Nat.testBit_lt_two_pow (Nat.lt_of_lt_of_le hx (Nat.pow_le_pow_right (by decide) (by omega)))
      simp [hj, hj2, show i ≤ j by omega, show ¬ j - i < n by omega, hz, show i + n + (j - (i + n)) = j by omega, show j - (i + n) + (i + n) = j by omega]
def putv (v : Int) (i n : Nat) (x : Int) : Int := v % 2 ^ i + x % 2 ^ n * 2 ^ i + v % 2 ^ 62 / 2 ^ (i + n) * 2 ^ (i + n)
theorem put_int (v x : Int) (i n : Nat) (h : i + n ≤ 62) : bits .or .i64 (bits .andNot .i64 (v % 2 ^ 62) ((2 ^ n - 1) * 2 ^ i)) (x % 2 ^ n * 2 ^ i) = putv v i n x := by
  obtain ⟨a, ha, ha2⟩ := modN v 62
  obtain ⟨y, hy, hy2⟩ := modN x n
  have hv : v % 2 ^ i = ((a % 2 ^ i : Nat) : Int) := by
    have : (a : Int) % 2 ^ i = v % 2 ^ i := by
      rw [← ha]
      obtain ⟨k, hk⟩ : ∃ k, 62 = i + k := ⟨62 - i, by omega⟩
      rw [hk, Int.pow_add]
      exact Int.emod_emod_of_dvd v (Int.dvd_mul_right _ _)
    rw [← this, Int.natCast_emod, Int.natCast_pow]; rfl
  have hp : 2 ^ n * 2 ^ i ≤ 2 ^ 62 := by rw [← Nat.pow_add]; exact Nat.pow_le_pow_right (by decide) (by omega)
  have hn := Nat.pow_pos (n := n) (a := 2) (by decide)
  have hi := Nat.pow_pos (n := i) (a := 2) (by decide)
  have e1 : ((2 : Int) ^ n - 1) * 2 ^ i = (((2 ^ n - 1) * 2 ^ i : Nat) : Int) := by
    rw [Int.natCast_mul, Int.natCast_sub hn, Int.natCast_pow, Int.natCast_pow]; rfl
  have e2 : (y : Int) * 2 ^ i = ((y * 2 ^ i : Nat) : Int) := by rw [Int.natCast_mul, Int.natCast_pow]; rfl
  have b1 : (2 ^ n - 1) * 2 ^ i < 2 ^ 62 := by
    have : (2 ^ n - 1) * 2 ^ i + 2 ^ i = 2 ^ n * 2 ^ i := by rw [Nat.sub_mul, Nat.one_mul, Nat.sub_add_cancel]; exact Nat.le_mul_of_pos_left _ hn
    omega
  have b2 : y * 2 ^ i < 2 ^ 62 := by
    have := Nat.mul_le_mul_right (2 ^ i) hy2
    rw [Nat.succ_mul] at this
    omega
  unfold putv
  rw [hv, ha, hy, e1, e2, BA.andn_nat _ _ (by omega) (by omega), BA.or_nat _ _ (by have := BA.andn_le a ((2 ^ n - 1) * 2 ^ i) 62 ha2; omega) (by omega), put_nat _ _ _ _ hy2]
  have e3 : (a : Int) / 2 ^ (i + n) * 2 ^ (i + n) = ((a / 2 ^ (i + n) * 2 ^ (i + n) : Nat) : Int) := by
    rw [Int.natCast_mul, Int.natCast_ediv, Int.natCast_pow]; rfl
  rw [e3]
  simp
theorem put_ok (v x : Int) (i n : Nat) (h : i + n ≤ 62) : FnE Try.prog 95 [I v, I i, I n, I x] [] (I (putv v i n x)) [] := by
  refine N.fn Try.func95 k95 lb q95 fun Q hQ hQN => ?_
  rw [c95]
  have hp := pow_le n (by omega)
  have hp1 := pow_pos' n
  have hmul : 2 ^ n * 2 ^ i ≤ (2 : Int) ^ 62 := by
    rw [← Int.pow_add, Nat.add_comm]; exact_mod_cast Nat.pow_le_pow_right (n := 2) (by decide) h
  have hi1 := pow_pos' i
  have hx := mod_lo x n
  have w1 : (2 ^ n - 1) * (2 : Int) ^ i ≤ 4611686018427387904 := by
    rw [Int.sub_mul]; omega
  have w2 : 0 ≤ (2 ^ n - 1) * (2 : Int) ^ i := Int.mul_nonneg (by omega) (by omega)
  have w3 : x % 2 ^ n * (2 : Int) ^ i ≤ 4611686018427387904 := by
    have := Int.mul_le_mul_of_nonneg_right (show x % 2 ^ n ≤ 2 ^ n by omega) (show (0 : Int) ≤ 2 ^ i by omega)
    omega
  have w4 : 0 ≤ x % 2 ^ n * (2 : Int) ^ i := Int.mul_nonneg (by omega) (by omega)
  have u1 : IntKind.wrap .i64 (1 * 2 ^ min ((n : Int)).toNat IntKind.i64.bits) = 2 ^ n := by rw [min64 n (by omega), Int.one_mul, wrap64 (by omega) (by omega)]
  have u2 : IntKind.wrap .i64 ((2 ^ n - 1) * 2 ^ min ((i : Int)).toNat IntKind.i64.bits) = (2 ^ n - 1) * 2 ^ i := by rw [min64 i (by omega), wrap64 (by omega) (by omega)]
  have u3 : IntKind.wrap .i64 (x % 2 ^ n * 2 ^ min ((i : Int)).toNat IntKind.i64.bits) = x % 2 ^ n * 2 ^ i := by rw [min64 i (by omega), wrap64 (by omega) (by omega)]
  repeat' (first
  | rw [u1]
  | rw [u2]
  | rw [u3]
  | refine N.regS fun K hK => ?_
  | refine N.dregS fun K hK => ?_
  | refine N.regN fun K hK => ?_
  | refine N.dregN fun K hK => ?_
  | simp only [T.mv, sm, AO.ev, put, lk, enter, reduceIte, Nat.reduceEqDiff, Nat.reduceAdd, Nat.reduceMul, Nat.reduceSub, Int.reduceNeg, Int.reduceToNat, upto, renB, setAll]
  | (refine T.nil ?_; (first | refine hK _ _ _ (by rfl) ?_ | refine hK _ _ _ ?_); (try simp only [keep, List.map, lk, reduceIte, Nat.reduceEqDiff, enter]); clear hK K)
  | (show WOpsT _ (⟨_, .call _ _, none⟩ :: _) _ _ _ _; first | refine T.call0 e155 rfl (place_ok _ _ h) ?_ | refine T.call0 e35 rfl (lowN_ok _ n (by omega)) ?_ | refine T.call0 e35 rfl (low_lit _ 62 62 rfl (by decide)) ?_)
  | (show WOpsT _ (⟨_, .bin _ _ _, none⟩ :: _) _ _ _ _; first | refine L.sub ?_ | refine T.shl rfl rfl (by omega) ?_ | refine L.bin ?_)
  | (show AKW _ _ _ _ _ _ _; first | refine N.now ?_)
  | (show AK _ _ _ _ _ _ _; first | refine N.seq ?_ | refine N.ret ?_)
  | (show RK _ _ _ _ _ _ _; simp only [rk, rk0, reduceIte, Nat.reduceEqDiff])
  | (show WOpsT _ _ _ _ _ _; first | refine L.ext ?_)
  | refine hQ _ _ _ rfl ?_
  | refine hQN _ _ _ rfl ?_)
  exact WS.c rfl (by rw [put_int v x i n h])
end Go.Proofs.Ytjmmompbmjhkpaa.Calc

namespace Go.Proofs.Ytjmmompbmjhkpaa.Calc
open Go Code
set_option linter.unusedSimpArgs false
set_option linter.unusedVariables false
set_option maxRecDepth 20000
set_option maxHeartbeats 4000000
attribute [local irreducible] WOpsT AW AK RK AKW UK UC
def sizeM (m : Int) : Int := if m = 0 then 0 else if m = 4 ∨ m = 5 ∨ m = 6 then 2 else if m = 1 ∨ m = 2 ∨ m = 3 ∨ m = 7 ∨ m = 8 then 1 else -1
def usesL : List (Int × Int × Bool) := [(0, 0, false), (115, 115, false), (97, 0, true), (98, 0, false), (98, 98, false), (98, 98, false), (98, 98, false), (98, 98, false), (98, 98, false), (98, 98, false), (97, 0, false), (97, 0, false), (98, 0, false), (98, 0, false), (98, 0, false), (98, 0, false), (0, 0, true), (0, 0, true), (119, 98, false), (119, 98, false), (98, 119, false), (98, 119, false), (119, 98, false), (119, 98, false)]
def usesT (d : Int) : Int × Int × Bool := usesL.getD d.toNat (0, 0, false)
def fitsP (r n : Int) : Prop := if n = 0 then r = 0 else if n = 119 then r = 7 ∨ r = 8 else if n = 98 then 0 ≤ r ∧ r < 7 else 0 ≤ r ∧ r < 9
structure Stp where
  op : Int
  to : Int
  fr : Int
  n : Int
def stC (s : Stp) : List V := [I s.op, I s.to, I s.fr, I s.n]
def VStep (s : Stp) : Prop := (s.op = 24 ∧ s.to = 0 ∧ (0 ≤ s.fr ∧ s.fr ≤ 1) ∧ 0 ≤ s.n ∧ s.n ≤ 255) ∨ ((0 ≤ s.op ∧ s.op < 24) ∧ fitsP s.to (usesT s.op).1 ∧ fitsP s.fr (usesT s.op).2.1 ∧ ((usesT s.op).1 = 115 → (s.to < 7 ↔ s.fr < 7)) ∧ 0 ≤ s.n ∧ s.n ≤ if (usesT s.op).2.2 = true then (if s.op = 2 ∧ 7 ≤ s.to then 65535 else 255) else 0)
end Go.Proofs.Ytjmmompbmjhkpaa.Calc

namespace Go.Proofs.Ytjmmompbmjhkpaa.Calc
open Go Code
set_option linter.unusedSimpArgs false
set_option linter.unusedVariables false
set_option maxRecDepth 20000
set_option maxHeartbeats 4000000
attribute [local irreducible] WOpsT AW AK RK AKW UK UC
structure Cyc where
  bus : Int
  at_ : Int
  reg : Int
  steps : List Stp
def cyC (c : Cyc) : List V := [I c.bus, I c.at_, I c.reg, .sl 4 (c.steps.map stC)]
def VCyc (c : Cyc) : Prop := (0 ≤ c.bus ∧ c.bus ≤ 2) ∧ (c.bus = 0 → c.at_ = 0 ∧ c.reg = 0) ∧ (0 ≤ c.at_ ∧ c.at_ < 12) ∧ (0 ≤ c.reg ∧ c.reg < 7) ∧ c.steps.length ≤ 6 ∧ ∀ s ∈ c.steps, VStep s
theorem mget {α : Type} (f : α → List V) (l : List α) (i : Nat) (hi : i < l.length) : (l.map f)[((i : Nat) : Int).toNat]? = some (f l[i]) := by
  rw [Int.toNat_natCast, List.getElem?_map, List.getElem?_eq_getElem hi]; rfl
def VCycs (l : List Cyc) : Prop := l.length ≤ 8 ∧ ∀ c ∈ l, VCyc c
def opnd (l : List Cyc) : Int := (l.countP fun c => c.bus == 1 && c.at_ == 0 : Nat)
end Go.Proofs.Ytjmmompbmjhkpaa.Calc

namespace Go.Proofs.Ytjmmompbmjhkpaa.Calc
open Go Code
set_option linter.unusedSimpArgs false
set_option linter.unusedVariables false
set_option maxRecDepth 20000
set_option maxHeartbeats 4000000
attribute [local irreducible] WOpsT AW AK RK AKW UK UC
def nmB (s : ByteArray) : List Int := s.data.toList.map fun b => (b.toNat : Int)
def okCh (b : Int) : Prop := (97 ≤ b ∧ b ≤ 122) ∨ (48 ≤ b ∧ b ≤ 57) ∨ b = 45
def VName (s : ByteArray) : Prop := (1 ≤ s.size ∧ s.size ≤ 20) ∧ (∃ b, s[0]? = some b ∧ 97 ≤ (b.toNat : Int) ∧ (b.toNat : Int) ≤ 122) ∧ ∀ x ∈ nmB s, okCh x
end Go.Proofs.Ytjmmompbmjhkpaa.Calc

namespace Go.Proofs.Ytjmmompbmjhkpaa.Calc
open Go Code
set_option linter.unusedSimpArgs false
set_option linter.unusedVariables false
set_option maxRecDepth 20000
set_option maxHeartbeats 4000000
attribute [local irreducible] WOpsT AW AK RK AKW UK UC
structure Ins where
  op : Int
  name : ByteArray
  mode : Int
  cy : List Cyc
def inC (x : Ins) : List V := [I x.op, .c (.string x.name), I x.mode, .sl 4 (x.cy.map cyC)]
def idxI (p : Ins → Bool) (l : List Ins) : Int := match l.findIdx? p with | some i => (i : Int) | none => -1
theorem idxI_at (p : Ins → Bool) (l : List Ins) (i : Nat) (hi : i < l.length) (h : ∀ j, j < i → ∀ hj : j < l.length, p l[j] = false) (hp : p l[i] = true) : idxI p l = i := by
  unfold idxI
  rw [show l.findIdx? p = some i from List.findIdx?_eq_some_iff_getElem.2 ⟨hi, hp, fun j hj => by rw [h j hj (by omega)]; decide⟩]
theorem idxI_none (p : Ins → Bool) (l : List Ins) (h : ∀ j, ∀ hj : j < l.length, p l[j] = false) : idxI p l = -1 := by
  unfold idxI
  rw [show l.findIdx? p = none from List.findIdx?_eq_none_iff.2 fun x hx => by obtain ⟨j, hj, rfl⟩ := List.getElem_of_mem hx; exact h j hj]
theorem indexO (f : Nat) (he : enters Try.prog f = true) (o : Int) (l : List Ins) (p : Ins → Bool) (hl : l.length ≤ 256) (hp : ∀ x ∈ l, FnE Try.prog f [.agg (inC x), .ptr 0 1 0 0] [⟨1, 1, [[I o]]⟩] (.c (.bool (p x))) [⟨1, 1, [[I o]]⟩]) : FnE Try.prog 120 [.sl 4 (l.map inC), .fn f [.ptr 0 1 0 0]] [⟨1, 1, [[I o]]⟩] (I (idxI p l)) [⟨1, 1, [[I o]]⟩] := by
  refine N.fn Try.func120 k120 lb q120 fun Q hQ hQN => ?_
  rw [c120]
  repeat' (first
  | rw [List.length_map]
  | refine N.regS fun K hK => ?_
  | refine N.dregS fun K hK => ?_
  | refine N.regN fun K hK => ?_
  | refine N.dregN fun K hK => ?_
  | simp only [T.mv, sm, AO.ev, put, lk, enter, reduceIte, Nat.reduceEqDiff, Nat.reduceAdd, Nat.reduceMul, Nat.reduceSub, Int.reduceNeg, Int.reduceToNat, upto, renB, setAll]
  | (refine T.nil ?_; (first | refine hK _ _ _ (by rfl) ?_ | refine hK _ _ _ ?_); (try simp only [keep, List.map, lk, reduceIte, Nat.reduceEqDiff, enter]); clear hK K)
  | (show WOpsT _ (⟨_, .ld _ _, none⟩ :: _) _ _ _ _; first | refine L.ldn ?_ | refine L.lddn ?_)
  | (show WOpsT _ (⟨_, .idx _ _ _ _, none⟩ :: _) _ _ _ _; first | refine L.idx ?_ | refine L.idxs ?_)
  | (show WOpsT _ (⟨_, .bin _ _ _, none⟩ :: _) _ _ _ _; first | refine L.add ?_ | refine L.bin ?_)
  | (show AKW _ _ _ _ _ _ _; first | refine N.now ?_)
  | (show AK _ _ (.cond _ _ _) _ _ _ _; first | refine N.c1 ?_ | refine N.c2 ?_ | refine N.c3 ?_ | refine N.c4 ?_ | refine N.condD rfl (fun hcd => ?_) (fun hcd => ?_) | refine N.condB rfl (fun hcd => ?_) (fun hcd => ?_) | refine N.condU rfl ?_ ?_)
  | (show AK _ _ _ _ _ _ _; first | refine N.seq ?_ | refine N.block ?_ | refine N.skip ?_ | refine N.exit ?_ | refine N.ret ?_)
  | (show RK _ _ _ _ _ _ _; simp only [rk, rk0, reduceIte, Nat.reduceEqDiff])
  | (show WOpsT _ _ _ _ _ _; first | refine L.len ?_ | refine L.lenS ?_ | refine L.lenN ?_)
  | refine hQ _ _ _ rfl ?_
  | refine hQN _ _ _ rfl ?_)
  refine N.loop (σ := Nat) (fun i => [(0, .sl 4 (l.map inC)), (1, .fn f [.ptr 0 1 0 0]), (7, I l.length), (8, I i)]) (fun i => [⟨1, 1, [[I o]]⟩]) (fun i => i ≤ l.length ∧ ∀ j, j < i → ∀ hj : j < l.length, p l[j] = false) (fun i => l.length - i) 0 ⟨by omega, fun j hj => absurd hj (by omega)⟩ (Weaks.sel (by repeat (first | exact trivial | refine ⟨.rfl, ?_⟩ | refine ⟨.any, ?_⟩)) rfl) fun i hi R hC => ?_
  obtain ⟨hi, hn⟩ := hi
  by_cases hil : i < l.length
  · have hv := hp _ (List.getElem_mem hil)
    obtain ⟨b, hb⟩ : ∃ b, p l[i] = b := ⟨_, rfl⟩
    rw [hb] at hv
    cases b
    · skip
      repeat' (first
      | (show WOpsT _ (⟨_, .idx _ _ _ _, none⟩ :: _) _ _ _ _; refine T.idxs rfl rfl rfl (by omega) (mget inC l i hil) ?_)
      | refine T.ofFn rfl (C.read [0] he rfl hv rfl rfl rfl rfl rfl ?_)
      | refine N.regS fun K hK => ?_
      | refine N.dregS fun K hK => ?_
      | refine N.regN fun K hK => ?_
      | refine N.dregN fun K hK => ?_
      | simp only [T.mv, sm, AO.ev, put, lk, enter, reduceIte, Nat.reduceEqDiff, Nat.reduceAdd, Nat.reduceMul, Nat.reduceSub, Int.reduceNeg, Int.reduceToNat, upto, renB, setAll]
      | (refine T.nil ?_; (first | refine hK _ _ _ (by rfl) ?_ | refine hK _ _ _ ?_); (try simp only [keep, List.map, lk, reduceIte, Nat.reduceEqDiff, enter]); clear hK K)
      | (show WOpsT _ (⟨_, .ld _ _, none⟩ :: _) _ _ _ _; first | refine L.ldn ?_ | refine L.lddn ?_)
      | (show WOpsT _ (⟨_, .idx _ _ _ _, none⟩ :: _) _ _ _ _; first | refine L.idx ?_ | refine L.idxs ?_)
      | (show WOpsT _ (⟨_, .bin _ _ _, none⟩ :: _) _ _ _ _; first | refine L.add ?_ | refine L.bin ?_)
      | (show AKW _ _ _ _ _ _ _; first | refine N.now ?_)
      | (show AK _ _ (.cond _ _ _) _ _ _ _; first | refine N.c1 ?_ | refine N.c2 ?_ | refine N.c3 ?_ | refine N.c4 ?_ | refine N.condD rfl (fun hcd => ?_) (fun hcd => ?_) | refine N.condB rfl (fun hcd => ?_) (fun hcd => ?_) | refine N.condU rfl ?_ ?_)
      | (show AK _ _ _ _ _ _ _; first | refine N.seq ?_ | refine N.block ?_ | refine N.skip ?_ | refine N.exit ?_ | refine N.ret ?_)
      | (show RK _ _ _ _ _ _ _; simp only [rk, rk0, reduceIte, Nat.reduceEqDiff])
      | (show WOpsT _ _ _ _ _ _; first | refine L.len ?_ | refine L.lenS ?_ | refine L.lenN ?_)
      | refine hQ _ _ _ rfl ?_
      | refine hQN _ _ _ rfl ?_)
      refine hC _ _ (i + 1) ⟨by omega, fun j hj hjl => ?_⟩ (by omega) (Weaks.sel (by repeat (first | exact trivial | refine ⟨.rfl, ?_⟩ | refine ⟨.any, ?_⟩)) rfl)
      by_cases hji : j = i
      · subst hji; exact hb
      · exact hn j (by omega) hjl
    · rw [idxI_at p l i hil hn hb] at hQ hQN
      repeat' (first
      | (show WOpsT _ (⟨_, .idx _ _ _ _, none⟩ :: _) _ _ _ _; refine T.idxs rfl rfl rfl (by omega) (mget inC l i hil) ?_)
      | refine T.ofFn rfl (C.read [0] he rfl hv rfl rfl rfl rfl rfl ?_)
      | refine N.regS fun K hK => ?_
      | refine N.dregS fun K hK => ?_
      | refine N.regN fun K hK => ?_
      | refine N.dregN fun K hK => ?_
      | simp only [T.mv, sm, AO.ev, put, lk, enter, reduceIte, Nat.reduceEqDiff, Nat.reduceAdd, Nat.reduceMul, Nat.reduceSub, Int.reduceNeg, Int.reduceToNat, upto, renB, setAll]
      | (refine T.nil ?_; (first | refine hK _ _ _ (by rfl) ?_ | refine hK _ _ _ ?_); (try simp only [keep, List.map, lk, reduceIte, Nat.reduceEqDiff, enter]); clear hK K)
      | (show WOpsT _ (⟨_, .ld _ _, none⟩ :: _) _ _ _ _; first | refine L.ldn ?_ | refine L.lddn ?_)
      | (show WOpsT _ (⟨_, .idx _ _ _ _, none⟩ :: _) _ _ _ _; first | refine L.idx ?_ | refine L.idxs ?_)
      | (show WOpsT _ (⟨_, .bin _ _ _, none⟩ :: _) _ _ _ _; first | refine L.add ?_ | refine L.bin ?_)
      | (show AKW _ _ _ _ _ _ _; first | refine N.now ?_)
      | (show AK _ _ (.cond _ _ _) _ _ _ _; first | refine N.c1 ?_ | refine N.c2 ?_ | refine N.c3 ?_ | refine N.c4 ?_ | refine N.condD rfl (fun hcd => ?_) (fun hcd => ?_) | refine N.condB rfl (fun hcd => ?_) (fun hcd => ?_) | refine N.condU rfl ?_ ?_)
      | (show AK _ _ _ _ _ _ _; first | refine N.seq ?_ | refine N.block ?_ | refine N.skip ?_ | refine N.exit ?_ | refine N.ret ?_)
      | (show RK _ _ _ _ _ _ _; simp only [rk, rk0, reduceIte, Nat.reduceEqDiff])
      | (show WOpsT _ _ _ _ _ _; first | refine L.len ?_ | refine L.lenS ?_ | refine L.lenN ?_)
      | refine hQ _ _ _ rfl ?_
      | refine hQN _ _ _ rfl ?_)
      exact WS.gc [0] 1 rfl (by first | rfl | (symm; unfold outH; simp only [List.map]; (repeat' (first | rfl | exact outB_bytes | exact outB_ints | exact outB_flat | refine consE ?_ ?_)); done)) .rfl
  · obtain rfl : i = l.length := by omega
    rw [idxI_none p l fun j hj => hn j hj hj] at hQ hQN
    repeat' (first
    | refine N.regS fun K hK => ?_
    | refine N.dregS fun K hK => ?_
    | refine N.regN fun K hK => ?_
    | refine N.dregN fun K hK => ?_
    | simp only [T.mv, sm, AO.ev, put, lk, enter, reduceIte, Nat.reduceEqDiff, Nat.reduceAdd, Nat.reduceMul, Nat.reduceSub, Int.reduceNeg, Int.reduceToNat, upto, renB, setAll]
    | (refine T.nil ?_; (first | refine hK _ _ _ (by rfl) ?_ | refine hK _ _ _ ?_); (try simp only [keep, List.map, lk, reduceIte, Nat.reduceEqDiff, enter]); clear hK K)
    | (show WOpsT _ (⟨_, .ld _ _, none⟩ :: _) _ _ _ _; first | refine L.ldn ?_ | refine L.lddn ?_)
    | (show WOpsT _ (⟨_, .idx _ _ _ _, none⟩ :: _) _ _ _ _; first | refine L.idx ?_ | refine L.idxs ?_)
    | (show WOpsT _ (⟨_, .bin _ _ _, none⟩ :: _) _ _ _ _; first | refine L.add ?_ | refine L.bin ?_)
    | (show AKW _ _ _ _ _ _ _; first | refine N.now ?_)
    | (show AK _ _ (.cond _ _ _) _ _ _ _; first | refine N.c1 ?_ | refine N.c2 ?_ | refine N.c3 ?_ | refine N.c4 ?_ | refine N.condD rfl (fun hcd => ?_) (fun hcd => ?_) | refine N.condB rfl (fun hcd => ?_) (fun hcd => ?_) | refine N.condU rfl ?_ ?_)
    | (show AK _ _ _ _ _ _ _; first | refine N.seq ?_ | refine N.block ?_ | refine N.skip ?_ | refine N.exit ?_ | refine N.ret ?_)
    | (show RK _ _ _ _ _ _ _; simp only [rk, rk0, reduceIte, Nat.reduceEqDiff])
    | (show WOpsT _ _ _ _ _ _; first | refine L.len ?_ | refine L.lenS ?_ | refine L.lenN ?_)
    | refine hQ _ _ _ rfl ?_
    | refine hQN _ _ _ rfl ?_)
    exact WS.gc [0] 1 rfl (by first | rfl | (symm; unfold outH; simp only [List.map]; (repeat' (first | rfl | exact outB_bytes | exact outB_ints | exact outB_flat | refine consE ?_ ?_)); done)) .rfl
end Go.Proofs.Ytjmmompbmjhkpaa.Calc

namespace Go.Proofs.Ytjmmompbmjhkpaa.Calc
open Go Code
set_option linter.unusedSimpArgs false
set_option linter.unusedVariables false
set_option maxRecDepth 20000
set_option maxHeartbeats 4000000
attribute [local irreducible] WOpsT AW AK RK AKW UK UC
theorem find1_ok (x : Ins) (o : Int) : FnE Try.prog 121 [.agg (inC x), .ptr 0 1 0 0] [⟨1, 1, [[I o]]⟩] (.c (.bool (decide (x.op = o)))) [⟨1, 1, [[I o]]⟩] := by
  obtain ⟨a, s, m, cy⟩ := x
  refine N.fn Try.func121 k121 lb q121 fun Q hQ hQN => ?_
  rw [c121]
  repeat' (first
  | refine N.regS fun K hK => ?_
  | refine N.dregS fun K hK => ?_
  | refine N.regN fun K hK => ?_
  | refine N.dregN fun K hK => ?_
  | simp only [T.mv, sm, AO.ev, put, lk, enter, reduceIte, Nat.reduceEqDiff, Nat.reduceAdd, Nat.reduceMul, Nat.reduceSub, Int.reduceNeg, Int.reduceToNat, upto, renB, setAll]
  | (refine T.nil ?_; (first | refine hK _ _ _ (by rfl) ?_ | refine hK _ _ _ ?_); (try simp only [keep, List.map, lk, reduceIte, Nat.reduceEqDiff, enter]); clear hK K)
  | (show WOpsT _ (⟨_, .ld _ _, none⟩ :: _) _ _ _ _; first | refine L.ld ?_ | refine L.ldd ?_)
  | (show WOpsT _ (⟨_, .bin _ _ _, none⟩ :: _) _ _ _ _; first | refine L.bin ?_)
  | (show AKW _ _ _ _ _ _ _; first | refine N.now ?_)
  | (show AK _ _ _ _ _ _ _; first | refine N.seq ?_ | refine N.ret ?_)
  | (show RK _ _ _ _ _ _ _; simp only [rk, rk0, reduceIte, Nat.reduceEqDiff])
  | (show WOpsT _ _ _ _ _ _; first | refine L.fad ?_ | refine L.fadd ?_ | refine L.new ?_)
  | refine hQ _ _ _ rfl ?_
  | refine hQN _ _ _ rfl ?_)
  exact WS.gc [0] 1 rfl (by first | rfl | (symm; unfold outH; simp only [List.map]; (repeat' (first | rfl | exact outB_bytes | exact outB_ints | exact outB_flat | refine consE ?_ ?_)); done)) .rfl
end Go.Proofs.Ytjmmompbmjhkpaa.Calc

namespace Go.Proofs.Ytjmmompbmjhkpaa.Calc
open Go Code
set_option linter.unusedSimpArgs false
set_option linter.unusedVariables false
set_option maxRecDepth 20000
set_option maxHeartbeats 4000000
attribute [local irreducible] WOpsT AW AK RK AKW UK UC
structure Cpu where
  name : ByteArray
  ins : List Ins
  res : List Cyc
  irq : List Cyc
  nmi : List Cyc
def cpC (c : Cpu) : List V := [.c (.string c.name), .sl 4 (c.ins.map inC), .sl 4 (c.res.map cyC), .sl 4 (c.irq.map cyC), .sl 4 (c.nmi.map cyC)]
def SmlC (l : List Cyc) : Prop := l.length ≤ 8 ∧ ∀ c ∈ l, c.steps.length ≤ 6
def SmlP (c : Cpu) : Prop := c.ins.length ≤ 256 ∧ (∀ x ∈ c.ins, SmlC x.cy) ∧ SmlC c.res ∧ SmlC c.irq ∧ SmlC c.nmi
instance : Flat stC := ⟨fun a x hx => by simp [stC] at hx; rcases hx with rfl | rfl | rfl | rfl <;> exact .inl ⟨_, rfl⟩⟩
instance : Flat cyC := ⟨fun a x hx => by simp [cyC] at hx; rcases hx with rfl | rfl | rfl | rfl <;> first | exact .inl ⟨_, rfl⟩ | exact .inr ⟨_, _, rfl⟩⟩
instance : Flat inC := ⟨fun a x hx => by simp [inC] at hx; rcases hx with rfl | rfl | rfl | rfl <;> first | exact .inl ⟨_, rfl⟩ | exact .inr ⟨_, _, rfl⟩⟩
theorem out_rowsK {α : Type} {f : α → List V} [Flat f] {h : List Blk} {ids : List Nat} {n b v e len : Nat} {l : List α} (hp : pos ids b = none) (hb : h[b]? = some ⟨v, e, l.map f⟩) (hl : l.length ≤ len) : out h ids (n + 1) (.psl b v 0 len) = .sl e (l.map f) := by
  rw [out_pslK hp hb rfl, List.drop_zero, List.take_of_length_le (by simpa using hl), rows_frz]
theorem WS.rows {α : Type} {f : α → List V} [Flat f] {h : List Blk} {b v e len : Nat} {l : List α} (hb : h[b]? = some ⟨v, e, l.map f⟩) (hl : l.length ≤ len) : WeakS 0 (.psl b v 0 len) h (.sl e (l.map f)) [] :=
  WS.gc [] 1 rfl rfl (by rw [out_rowsK rfl hb hl]; exact .rfl)
theorem WS.nil {h : List Blk} {e : Nat} : WeakS 0 (.c (.slice none 0 0)) h (.sl e []) [] := WS.gc [] 1 rfl rfl .nil
theorem cloneS_ok (l : List Stp) (hl : l.length ≤ 6) : FnE Try.prog 191 [.sl 4 (l.map stC)] [] (.sl 4 (l.map stC)) [] := by
  refine N.fn Try.func191 k191 lb q191 fun Q hQ hQN => ?_
  rw [c191]
  cases l with
  | nil =>
    repeat' (first
    | refine T.eqnU rfl ?_
    | (show WOpsT _ (⟨_, .app _ _ _ _, none⟩ :: _) _ _ _ _; refine T.app rfl rfl rfl ⟨by decide, by decide⟩ ⟨rfl, rfl, rfl, by decide⟩ ?_)
    | refine N.regS fun K hK => ?_
    | refine N.dregS fun K hK => ?_
    | refine N.regN fun K hK => ?_
    | refine N.dregN fun K hK => ?_
    | simp only [T.mv, sm, AO.ev, put, lk, enter, reduceIte, Nat.reduceEqDiff, Nat.reduceAdd, Nat.reduceMul, Nat.reduceSub, Int.reduceNeg, Int.reduceToNat, upto, renB, setAll]
    | (refine T.nil ?_; (first | refine hK _ _ _ (by rfl) ?_ | refine hK _ _ _ ?_); (try simp only [keep, List.map, lk, reduceIte, Nat.reduceEqDiff, enter]); clear hK K)
    | (show AKW _ _ _ _ _ _ _; first | refine N.now ?_)
    | (show AK _ _ (.cond _ _ _) _ _ _ _; first | refine N.c1 ?_ | refine N.c2 ?_ | refine N.c3 ?_ | refine N.c4 ?_ | refine N.condD rfl (fun hcd => ?_) (fun hcd => ?_) | refine N.condB rfl (fun hcd => ?_) (fun hcd => ?_) | refine N.condU rfl ?_ ?_)
    | (show AK _ _ _ _ _ _ _; first | refine N.seq ?_ | refine N.skip ?_ | refine N.ret ?_)
    | (show RK _ _ _ _ _ _ _; simp only [rk, rk0, reduceIte, Nat.reduceEqDiff])
    | (show WOpsT _ _ _ _ _ _; first | refine T.eqnP rfl rfl ⟨rfl, by decide⟩ ?_ | refine T.eqnN rfl ?_ | refine T.eqnU rfl ?_ | refine L.bsl ?_)
    | refine hQ _ _ _ rfl ?_
    | refine hQN _ _ _ rfl ?_)
    all_goals first
      | exact WS.nil
      | exact WS.rows (f := stC) (l := []) rfl (by simp)
  | cons a l =>
    have hl2 : (List.map stC (a :: l)).length ≤ 6 := by rw [List.length_map]; exact hl
    repeat' (first
    | refine T.eqnS rfl (Nat.succ_pos _) ?_
    | (show WOpsT _ (⟨_, .app _ _ _ _, none⟩ :: _) _ _ _ _; refine T.app rfl rfl rfl ⟨by decide, by decide⟩ ⟨rfl, rfl, rfl, by simp at hl ⊢; omega⟩ ?_)
    | refine N.regS fun K hK => ?_
    | refine N.dregS fun K hK => ?_
    | refine N.regN fun K hK => ?_
    | refine N.dregN fun K hK => ?_
    | simp only [T.mv, sm, AO.ev, put, lk, enter, reduceIte, Nat.reduceEqDiff, Nat.reduceAdd, Nat.reduceMul, Nat.reduceSub, Int.reduceNeg, Int.reduceToNat, upto, renB, setAll]
    | (refine T.nil ?_; (first | refine hK _ _ _ (by rfl) ?_ | refine hK _ _ _ ?_); (try simp only [keep, List.map, lk, reduceIte, Nat.reduceEqDiff, enter]); clear hK K)
    | (show AKW _ _ _ _ _ _ _; first | refine N.now ?_)
    | (show AK _ _ (.cond _ _ _) _ _ _ _; first | refine N.c1 ?_ | refine N.c2 ?_ | refine N.c3 ?_ | refine N.c4 ?_ | refine N.condD rfl (fun hcd => ?_) (fun hcd => ?_) | refine N.condB rfl (fun hcd => ?_) (fun hcd => ?_) | refine N.condU rfl ?_ ?_)
    | (show AK _ _ _ _ _ _ _; first | refine N.seq ?_ | refine N.skip ?_ | refine N.ret ?_)
    | (show RK _ _ _ _ _ _ _; simp only [rk, rk0, reduceIte, Nat.reduceEqDiff])
    | (show WOpsT _ _ _ _ _ _; first | refine T.eqnP rfl rfl ⟨rfl, by decide⟩ ?_ | refine T.eqnN rfl ?_ | refine T.eqnU rfl ?_ | refine L.bsl ?_)
    | refine hQ _ _ _ rfl ?_
    | refine hQN _ _ _ rfl ?_)
    exact WS.rows (f := stC) (l := a :: l) rfl (by simp)
theorem cloneC_ok (a : Cyc) (l : List Cyc) (hl : (a :: l).length ≤ 8) : FnE Try.prog 190 [.sl 4 ((a :: l).map cyC)] [] (.psl 0 2 0 (a :: l).length) [⟨2, 4, (a :: l).map cyC⟩] := by
  refine N.fn Try.func190 k190 lb q190 fun Q hQ hQN => ?_
  rw [c190]
  have hl2 : (List.map cyC (a :: l)).length ≤ 8 := by rw [List.length_map]; exact hl
  repeat' (first
  | refine T.eqnS rfl (Nat.succ_pos _) ?_
  | (show WOpsT _ (⟨_, .app _ _ _ _, none⟩ :: _) _ _ _ _; refine T.app rfl rfl rfl ⟨by decide, by decide⟩ ⟨rfl, rfl, rfl, by simp at hl ⊢; omega⟩ ?_)
  | refine N.regS fun K hK => ?_
  | refine N.dregS fun K hK => ?_
  | refine N.regN fun K hK => ?_
  | refine N.dregN fun K hK => ?_
  | simp only [T.mv, sm, AO.ev, put, lk, enter, reduceIte, Nat.reduceEqDiff, Nat.reduceAdd, Nat.reduceMul, Nat.reduceSub, Int.reduceNeg, Int.reduceToNat, upto, renB, setAll]
  | (refine T.nil ?_; (first | refine hK _ _ _ (by rfl) ?_ | refine hK _ _ _ ?_); (try simp only [keep, List.map, lk, reduceIte, Nat.reduceEqDiff, enter]); clear hK K)
  | (show AKW _ _ _ _ _ _ _; first | refine N.now ?_)
  | (show AK _ _ (.cond _ _ _) _ _ _ _; first | refine N.c1 ?_ | refine N.c2 ?_ | refine N.c3 ?_ | refine N.c4 ?_ | refine N.condD rfl (fun hcd => ?_) (fun hcd => ?_) | refine N.condB rfl (fun hcd => ?_) (fun hcd => ?_) | refine N.condU rfl ?_ ?_)
  | (show AK _ _ _ _ _ _ _; first | refine N.seq ?_ | refine N.skip ?_ | refine N.ret ?_)
  | (show RK _ _ _ _ _ _ _; simp only [rk, rk0, reduceIte, Nat.reduceEqDiff])
  | (show WOpsT _ _ _ _ _ _; first | refine T.eqnP rfl rfl ⟨rfl, by decide⟩ ?_ | refine T.eqnN rfl ?_ | refine T.eqnU rfl ?_ | refine L.bsl ?_)
  | refine hQ _ _ _ rfl ?_
  | refine hQN _ _ _ rfl ?_)
  exact WS.gc [0] 1 rfl (by show [(⟨2, 4, (a :: l).map cyC⟩ : Blk)] = [outB _ [0] 1 ⟨2, 4, (a :: l).map cyC⟩]; rw [outB_flat]) (by show Sub (.psl 0 2 0 ((List.map cyC l).length + 1)) _; rw [List.length_map]; exact .rfl)
theorem cloneC_nil : FnE Try.prog 190 [.sl 4 []] [] (.sl 4 []) [] := by
  refine N.fn Try.func190 k190 lb q190 fun Q hQ hQN => ?_
  rw [c190]
  repeat' (first
  | refine T.eqnU rfl ?_
  | (show WOpsT _ (⟨_, .app _ _ _ _, none⟩ :: _) _ _ _ _; refine T.app rfl rfl rfl ⟨by decide, by decide⟩ ⟨rfl, rfl, rfl, by decide⟩ ?_)
  | refine N.regS fun K hK => ?_
  | refine N.dregS fun K hK => ?_
  | refine N.regN fun K hK => ?_
  | refine N.dregN fun K hK => ?_
  | simp only [T.mv, sm, AO.ev, put, lk, enter, reduceIte, Nat.reduceEqDiff, Nat.reduceAdd, Nat.reduceMul, Nat.reduceSub, Int.reduceNeg, Int.reduceToNat, upto, renB, setAll]
  | (refine T.nil ?_; (first | refine hK _ _ _ (by rfl) ?_ | refine hK _ _ _ ?_); (try simp only [keep, List.map, lk, reduceIte, Nat.reduceEqDiff, enter]); clear hK K)
  | (show AKW _ _ _ _ _ _ _; first | refine N.now ?_)
  | (show AK _ _ (.cond _ _ _) _ _ _ _; first | refine N.c1 ?_ | refine N.c2 ?_ | refine N.c3 ?_ | refine N.c4 ?_ | refine N.condD rfl (fun hcd => ?_) (fun hcd => ?_) | refine N.condB rfl (fun hcd => ?_) (fun hcd => ?_) | refine N.condU rfl ?_ ?_)
  | (show AK _ _ _ _ _ _ _; first | refine N.seq ?_ | refine N.skip ?_ | refine N.ret ?_)
  | (show RK _ _ _ _ _ _ _; simp only [rk, rk0, reduceIte, Nat.reduceEqDiff])
  | (show WOpsT _ _ _ _ _ _; first | refine T.eqnP rfl rfl ⟨rfl, by decide⟩ ?_ | refine T.eqnN rfl ?_ | refine T.eqnU rfl ?_ | refine L.bsl ?_)
  | refine hQ _ _ _ rfl ?_
  | refine hQN _ _ _ rfl ?_)
  all_goals first
    | exact WS.nil
    | exact WS.rows (f := cyC) (l := []) rfl (by simp)
end Go.Proofs.Ytjmmompbmjhkpaa.Calc

namespace Go.Proofs.Ytjmmompbmjhkpaa.Calc
open Go Code
set_option linter.unusedSimpArgs false
set_option linter.unusedVariables false
set_option maxRecDepth 20000
set_option maxHeartbeats 4000000
attribute [local irreducible] WOpsT AW AK RK AKW UK UC
theorem set_cyc (l : List Cyc) (i : Nat) (hi : i < l.length) : (l.map cyC).set i (spl (cyC l[i]) 3 [.sl 4 (l[i].steps.map stC)]) = l.map cyC := by
  apply List.ext_getElem?
  intro j
  rw [List.getElem?_set, List.length_map]
  by_cases h : i = j
  · subst h
    rw [if_pos rfl, if_pos hi, List.getElem?_map, List.getElem?_eq_getElem hi]; rfl
  · rw [if_neg h]
theorem copies_ok (l : List Cyc) (hl : SmlC l) : FnE Try.prog 168 [.sl 4 (l.map cyC)] [] (.sl 4 (l.map cyC)) [] := by
  obtain ⟨h1, h2⟩ := hl
  refine N.fn Try.func168 k168 lb q168 fun Q hQ hQN => ?_
  rw [c168]
  cases l with
  | nil =>
    repeat' (first
    | (show AK _ _ (.loop _) _ _ _ _; refine N.unroll 1 ?_)
    | refine N.regS fun K hK => ?_
    | refine N.dregS fun K hK => ?_
    | refine N.regN fun K hK => ?_
    | refine N.dregN fun K hK => ?_
    | simp only [T.mv, sm, AO.ev, put, lk, enter, reduceIte, Nat.reduceEqDiff, Nat.reduceAdd, Nat.reduceMul, Nat.reduceSub, Int.reduceNeg, Int.reduceToNat, upto, renB, setAll]
    | (refine T.nil ?_; (first | refine hK _ _ _ (by rfl) ?_ | refine hK _ _ _ ?_); (try simp only [keep, List.map, lk, reduceIte, Nat.reduceEqDiff, enter]); clear hK K)
    | (show WOpsT _ (⟨_, .call _ _, none⟩ :: _) _ _ _ _; first | refine T.call0 e190 rfl (cloneC_nil) ?_)
    | (show WOpsT _ (⟨_, .ld _ _, none⟩ :: _) _ _ _ _; first | refine L.ld ?_ | refine L.ldd ?_)
    | (show WOpsT _ (⟨_, .idx _ _ _ _, none⟩ :: _) _ _ _ _; first | refine L.idx ?_ | refine L.idxs ?_)
    | (show WOpsT _ (⟨_, .bin _ _ _, none⟩ :: _) _ _ _ _; first | refine L.add ?_ | refine L.bin ?_)
    | (show AKW _ _ _ _ _ _ _; first | refine N.now ?_)
    | (show UK _ _ _ _ _ _ _ _; first | refine N.round ?_)
    | (show UC _ _ _ _ _ _ _ _; first | refine N.ucN ?_)
    | (show AK _ _ (.cond _ _ _) _ _ _ _; first | refine N.c1 ?_ | refine N.c2 ?_ | refine N.c3 ?_ | refine N.c4 ?_ | refine N.condD rfl (fun hcd => ?_) (fun hcd => ?_) | refine N.condB rfl (fun hcd => ?_) (fun hcd => ?_) | refine N.condU rfl ?_ ?_)
    | (show AK _ _ _ _ _ _ _; first | refine N.seq ?_ | refine N.block ?_ | refine N.skip ?_ | refine N.exit ?_ | refine N.ret ?_)
    | (show RK _ _ _ _ _ _ _; simp only [rk, rk0, reduceIte, Nat.reduceEqDiff])
    | (show WOpsT _ _ _ _ _ _; first | refine L.fad ?_ | refine L.fadd ?_ | refine L.st ?_ | refine L.len ?_ | refine L.lenS ?_ | refine L.lenN ?_)
    | refine hQ _ _ _ rfl ?_
    | refine hQN _ _ _ rfl ?_)
    exact WS.drop (n := 0) rfl rfl
  | cons a l =>
    obtain ⟨m, hm⟩ : ∃ m, a :: l = m := ⟨_, rfl⟩
    have hc := cloneC_ok a l h1
    rw [hm] at hc h1 h2 hQ hQN ⊢
    clear hm
    repeat' (first
    | rw [rows_ren]
    | refine N.regS fun K hK => ?_
    | refine N.dregS fun K hK => ?_
    | refine N.regN fun K hK => ?_
    | refine N.dregN fun K hK => ?_
    | simp only [T.mv, sm, AO.ev, put, lk, enter, reduceIte, Nat.reduceEqDiff, Nat.reduceAdd, Nat.reduceMul, Nat.reduceSub, Int.reduceNeg, Int.reduceToNat, upto, renB, setAll]
    | (refine T.nil ?_; (first | refine hK _ _ _ (by rfl) ?_ | refine hK _ _ _ ?_); (try simp only [keep, List.map, lk, reduceIte, Nat.reduceEqDiff, enter]); clear hK K)
    | (show WOpsT _ (⟨_, .call _ _, none⟩ :: _) _ _ _ _; first | refine T.callN e190 rfl (hc) (by simp) ?_)
    | (show WOpsT _ (⟨_, .ld _ _, none⟩ :: _) _ _ _ _; first | refine L.ld ?_ | refine L.ldd ?_)
    | (show WOpsT _ (⟨_, .idx _ _ _ _, none⟩ :: _) _ _ _ _; first | refine L.idx ?_ | refine L.idxs ?_)
    | (show WOpsT _ (⟨_, .bin _ _ _, none⟩ :: _) _ _ _ _; first | refine L.add ?_ | refine L.bin ?_)
    | (show AKW _ _ _ _ _ _ _; first | refine N.now ?_)
    | (show UK _ _ _ _ _ _ _ _; first | refine N.round ?_)
    | (show UC _ _ _ _ _ _ _ _; first | refine N.ucN ?_)
    | (show AK _ _ (.cond _ _ _) _ _ _ _; first | refine N.c1 ?_ | refine N.c2 ?_ | refine N.c3 ?_ | refine N.c4 ?_ | refine N.condD rfl (fun hcd => ?_) (fun hcd => ?_) | refine N.condB rfl (fun hcd => ?_) (fun hcd => ?_) | refine N.condU rfl ?_ ?_)
    | (show AK _ _ _ _ _ _ _; first | refine N.seq ?_ | refine N.block ?_ | refine N.skip ?_ | refine N.exit ?_ | refine N.ret ?_)
    | (show RK _ _ _ _ _ _ _; simp only [rk, rk0, reduceIte, Nat.reduceEqDiff])
    | (show WOpsT _ _ _ _ _ _; first | refine L.fad ?_ | refine L.fadd ?_ | refine L.st ?_ | refine L.len ?_ | refine L.lenS ?_ | refine L.lenN ?_)
    | refine hQ _ _ _ rfl ?_
    | refine hQN _ _ _ rfl ?_)
    refine N.loop (σ := Nat) (fun i => [(3, .psl 0 2 0 m.length), (8, I m.length), (9, I i)]) (fun i => [⟨2, 4, m.map cyC⟩]) (fun i => i ≤ m.length) (fun i => m.length - i) 0 (by omega) (Weaks.sel (by repeat (first | exact trivial | refine ⟨.rfl, ?_⟩ | refine ⟨.any, ?_⟩)) rfl) fun i hi R hC => ?_
    by_cases hil : i < m.length
    · have hs := cloneS_ok m[i].steps (h2 _ (List.getElem_mem hil))
      have e3 : 0 + (i : Int).toNat = i := by omega
      have hg : (m.map cyC)[i]? = some (cyC m[i]) := by rw [List.getElem?_map, List.getElem?_eq_getElem hil]; rfl
      repeat' (first
      | rw [e3]
      | (show WOpsT _ (⟨_, .ld _ _, none⟩ :: _) _ _ _ _; refine T.ld rfl rfl rfl hg rfl ?_)
      | (show WOpsT _ (⟨_, .st _ _ _, none⟩ :: _) _ _ _ _; refine T.st rfl rfl rfl ⟨rfl, rfl⟩ hg (Nat.le_of_ble_eq_true rfl) ?_)
      | rw [set_cyc m i hil]
      | refine N.regS fun K hK => ?_
      | refine N.dregS fun K hK => ?_
      | refine N.regN fun K hK => ?_
      | refine N.dregN fun K hK => ?_
      | simp only [T.mv, sm, AO.ev, put, lk, enter, reduceIte, Nat.reduceEqDiff, Nat.reduceAdd, Nat.reduceMul, Nat.reduceSub, Int.reduceNeg, Int.reduceToNat, upto, renB, setAll]
      | (refine T.nil ?_; (first | refine hK _ _ _ (by rfl) ?_ | refine hK _ _ _ ?_); (try simp only [keep, List.map, lk, reduceIte, Nat.reduceEqDiff, enter]); clear hK K)
      | (show WOpsT _ (⟨_, .call _ _, none⟩ :: _) _ _ _ _; first | refine T.call0 e191 rfl (hs) ?_)
      | (show WOpsT _ (⟨_, .ld _ _, none⟩ :: _) _ _ _ _; first | refine L.ld ?_ | refine L.ldd ?_)
      | (show WOpsT _ (⟨_, .idx _ _ _ _, none⟩ :: _) _ _ _ _; first | refine L.idx ?_ | refine L.idxs ?_)
      | (show WOpsT _ (⟨_, .bin _ _ _, none⟩ :: _) _ _ _ _; first | refine L.add ?_ | refine L.bin ?_)
      | (show AKW _ _ _ _ _ _ _; first | refine N.now ?_)
      | (show UK _ _ _ _ _ _ _ _; first | refine N.round ?_)
      | (show UC _ _ _ _ _ _ _ _; first | refine N.ucN ?_)
      | (show AK _ _ (.cond _ _ _) _ _ _ _; first | refine N.c1 ?_ | refine N.c2 ?_ | refine N.c3 ?_ | refine N.c4 ?_ | refine N.condD rfl (fun hcd => ?_) (fun hcd => ?_) | refine N.condB rfl (fun hcd => ?_) (fun hcd => ?_) | refine N.condU rfl ?_ ?_)
      | (show AK _ _ _ _ _ _ _; first | refine N.seq ?_ | refine N.block ?_ | refine N.skip ?_ | refine N.exit ?_ | refine N.ret ?_)
      | (show RK _ _ _ _ _ _ _; simp only [rk, rk0, reduceIte, Nat.reduceEqDiff])
      | (show WOpsT _ _ _ _ _ _; first | refine L.fad ?_ | refine L.fadd ?_ | refine L.st ?_ | refine L.len ?_ | refine L.lenS ?_ | refine L.lenN ?_)
      | refine hQ _ _ _ rfl ?_
      | refine hQN _ _ _ rfl ?_)
      exact hC _ _ (i + 1) (by omega) (by omega) (Weaks.sel (by repeat (first | exact trivial | refine ⟨.rfl, ?_⟩ | refine ⟨.any, ?_⟩)) rfl)
    · obtain rfl : i = m.length := by omega
      repeat' (first
      | refine N.regS fun K hK => ?_
      | refine N.dregS fun K hK => ?_
      | refine N.regN fun K hK => ?_
      | refine N.dregN fun K hK => ?_
      | simp only [T.mv, sm, AO.ev, put, lk, enter, reduceIte, Nat.reduceEqDiff, Nat.reduceAdd, Nat.reduceMul, Nat.reduceSub, Int.reduceNeg, Int.reduceToNat, upto, renB, setAll]
      | (refine T.nil ?_; (first | refine hK _ _ _ (by rfl) ?_ | refine hK _ _ _ ?_); (try simp only [keep, List.map, lk, reduceIte, Nat.reduceEqDiff, enter]); clear hK K)
      | (show WOpsT _ (⟨_, .ld _ _, none⟩ :: _) _ _ _ _; first | refine L.ld ?_ | refine L.ldd ?_)
      | (show WOpsT _ (⟨_, .idx _ _ _ _, none⟩ :: _) _ _ _ _; first | refine L.idx ?_ | refine L.idxs ?_)
      | (show WOpsT _ (⟨_, .bin _ _ _, none⟩ :: _) _ _ _ _; first | refine L.add ?_ | refine L.bin ?_)
      | (show AKW _ _ _ _ _ _ _; first | refine N.now ?_)
      | (show UK _ _ _ _ _ _ _ _; first | refine N.round ?_)
      | (show UC _ _ _ _ _ _ _ _; first | refine N.ucN ?_)
      | (show AK _ _ (.cond _ _ _) _ _ _ _; first | refine N.c1 ?_ | refine N.c2 ?_ | refine N.c3 ?_ | refine N.c4 ?_ | refine N.condD rfl (fun hcd => ?_) (fun hcd => ?_) | refine N.condB rfl (fun hcd => ?_) (fun hcd => ?_) | refine N.condU rfl ?_ ?_)
      | (show AK _ _ _ _ _ _ _; first | refine N.seq ?_ | refine N.block ?_ | refine N.skip ?_ | refine N.exit ?_ | refine N.ret ?_)
      | (show RK _ _ _ _ _ _ _; simp only [rk, rk0, reduceIte, Nat.reduceEqDiff])
      | (show WOpsT _ _ _ _ _ _; first | refine L.fad ?_ | refine L.fadd ?_ | refine L.st ?_ | refine L.len ?_ | refine L.lenS ?_ | refine L.lenN ?_)
      | refine hQ _ _ _ rfl ?_
      | refine hQN _ _ _ rfl ?_)
      exact WS.rows (f := cyC) rfl (Nat.le_refl _)
theorem copy_ok (x : Ins) (hx : SmlC x.cy) : FnE Try.prog 122 [.agg (inC x)] [] (.agg (inC x)) [] := by
  have hc := copies_ok _ hx
  refine N.fn Try.func122 k122 lb q122 fun Q hQ hQN => ?_
  rw [c122]
  repeat' (first
  | refine N.regS fun K hK => ?_
  | refine N.dregS fun K hK => ?_
  | refine N.regN fun K hK => ?_
  | refine N.dregN fun K hK => ?_
  | simp only [T.mv, sm, AO.ev, put, lk, enter, reduceIte, Nat.reduceEqDiff, Nat.reduceAdd, Nat.reduceMul, Nat.reduceSub, Int.reduceNeg, Int.reduceToNat, upto, renB, setAll]
  | (refine T.nil ?_; (first | refine hK _ _ _ (by rfl) ?_ | refine hK _ _ _ ?_); (try simp only [keep, List.map, lk, reduceIte, Nat.reduceEqDiff, enter]); clear hK K)
  | (show WOpsT _ (⟨_, .call _ _, none⟩ :: _) _ _ _ _; first | refine T.call0 e168 rfl (hc) ?_)
  | (show WOpsT _ (⟨_, .ld _ _, none⟩ :: _) _ _ _ _; first | refine L.ld ?_ | refine L.ldd ?_ | refine L.ldn ?_ | refine L.lddn ?_)
  | (show AKW _ _ _ _ _ _ _; first | refine N.now ?_)
  | (show UK _ _ _ _ _ _ _ _; first | refine N.round ?_)
  | (show UC _ _ _ _ _ _ _ _; first | refine N.ucN ?_)
  | (show AK _ _ _ _ _ _ _; first | refine N.seq ?_ | refine N.ret ?_)
  | (show RK _ _ _ _ _ _ _; simp only [rk, rk0, reduceIte, Nat.reduceEqDiff])
  | (show WOpsT _ _ _ _ _ _; first | refine L.fad ?_ | refine L.fadd ?_ | refine L.st ?_ | refine L.new ?_ | refine L.zero ?_)
  | refine hQ _ _ _ rfl ?_
  | refine hQN _ _ _ rfl ?_)
  exact WS.drop (n := 0) rfl rfl
def insZ : Ins := ⟨0, ⟨#[]⟩, 0, []⟩
def gotM (p : Ins → Bool) (l : List Ins) : Ins × Bool := match l.findIdx? p with
  | some i => (l.getD i insZ, true)
  | none => (insZ, false)
theorem Sub.insZ : Sub (.agg [I 0, .c (.string ⟨#[]⟩), I 0, .c (.slice none 0 0)]) (.agg (inC insZ)) := by
  refine .agg (Eq.refl _) fun i a b ha hb => ?_
  match i with
  | 0 => cases ha; cases hb; exact .rfl
  | 1 => cases ha; cases hb; exact .rfl
  | 2 => cases ha; cases hb; exact .rfl
  | 3 => cases ha; cases hb; exact .nil
  | i + 4 => cases ha
theorem find_ok (c : Cpu) (hc : SmlP c) (o : Int) : FnE Try.prog 62 [.agg (cpC c), I o] [] (.tup [.agg (inC (gotM (fun x => decide (x.op = o)) c.ins).1), .c (.bool (gotM (fun x => decide (x.op = o)) c.ins).2)]) [] := by
  have hi := indexO 121 e121 o c.ins (fun x => decide (x.op = o)) hc.1 (fun x _ => find1_ok x o)
  have hs := hc.2.1
  refine N.fn Try.func62 k62 lb q62 fun Q hQ hQN => ?_
  rw [c62]
  cases hf : c.ins.findIdx? (fun x => decide (x.op = o)) with
  | none =>
    have e1 : idxI (fun x => decide (x.op = o)) c.ins = -1 := by unfold idxI; rw [hf]
    have e2 : gotM (fun x => decide (x.op = o)) c.ins = (insZ, false) := by unfold gotM; rw [hf]
    rw [e1] at hi
    rw [e2] at hQ hQN
    repeat' (first
    | refine N.regS fun K hK => ?_
    | refine N.dregS fun K hK => ?_
    | refine N.regN fun K hK => ?_
    | refine N.dregN fun K hK => ?_
    | simp only [T.mv, sm, AO.ev, put, lk, enter, reduceIte, Nat.reduceEqDiff, Nat.reduceAdd, Nat.reduceMul, Nat.reduceSub, Int.reduceNeg, Int.reduceToNat, upto, renB, setAll]
    | (refine T.nil ?_; (first | refine hK _ _ _ (by rfl) ?_ | refine hK _ _ _ ?_); (try simp only [keep, List.map, lk, reduceIte, Nat.reduceEqDiff, enter]); clear hK K)
    | (show WOpsT _ (⟨_, .call _ _, none⟩ :: _) _ _ _ _; first | refine T.callQ [1] e120 rfl (hi) (by first | rfl | exact pasH_nil | (unfold pasH; simp only [List.map]; (repeat' (first | rfl | exact pasB_bytes | exact pasB_ints | exact pasB_flat | refine consE ?_ ?_)); done) | simp [pasH, pasB, cells_pas, bcells_pas]) rfl rfl rfl (by first | rfl | ((repeat' (first | rfl | exact renB_bytes | exact renB_ints | exact renB_flat | refine consE ?_ ?_)); done) | simp [renB, cells_ren, bcells_ren]) ?_)
    | (show WOpsT _ (⟨_, .ld _ _, none⟩ :: _) _ _ _ _; first | refine L.ld ?_ | refine L.ldd ?_ | refine L.ldn ?_ | refine L.lddn ?_)
    | (show WOpsT _ (⟨_, .idx _ _ _ _, none⟩ :: _) _ _ _ _; first | refine L.idx ?_ | refine L.idxs ?_)
    | (show WOpsT _ (⟨_, .bin _ _ _, none⟩ :: _) _ _ _ _; first | refine L.bin ?_)
    | (show AKW _ _ _ _ _ _ _; first | refine N.now ?_)
    | (show UK _ _ _ _ _ _ _ _; first | refine N.round ?_)
    | (show UC _ _ _ _ _ _ _ _; first | refine N.ucN ?_)
    | (show AK _ _ (.cond _ _ _) _ _ _ _; first | refine N.c1 ?_ | refine N.c2 ?_ | refine N.c3 ?_ | refine N.c4 ?_ | refine N.condD rfl (fun hcd => ?_) (fun hcd => ?_) | refine N.condB rfl (fun hcd => ?_) (fun hcd => ?_) | refine N.condU rfl ?_ ?_)
    | (show AK _ _ _ _ _ _ _; first | refine N.seq ?_ | refine N.skip ?_ | refine N.ret ?_)
    | (show RK _ _ _ _ _ _ _; simp only [rk, rk0, reduceIte, Nat.reduceEqDiff])
    | (show WOpsT _ _ _ _ _ _; first | refine L.fad ?_ | refine L.fadd ?_ | refine L.st ?_ | refine L.new ?_ | refine L.zero ?_ | refine L.build ?_ | refine T.mkf ?_)
    | refine hQ _ _ _ rfl ?_
    | refine hQN _ _ _ rfl ?_)
    exact WS.gc [] 1 rfl rfl (Sub.tup2 Sub.insZ .rfl)
  | some i =>
    have e1 : idxI (fun x => decide (x.op = o)) c.ins = i := by unfold idxI; rw [hf]
    have hil : i < c.ins.length := (List.findIdx?_eq_some_iff_getElem.1 hf).1
    have e2 : gotM (fun x => decide (x.op = o)) c.ins = (c.ins[i], true) := by unfold gotM; rw [hf]; simp [hil]
    have hy := copy_ok c.ins[i] (hs _ (List.getElem_mem hil))
    rw [e1] at hi
    rw [e2] at hQ hQN
    repeat' (first
    | (show WOpsT _ (⟨_, .idx _ _ _ _, none⟩ :: _) _ _ _ _; refine T.idxs rfl rfl rfl (by omega) (mget inC c.ins i hil) ?_)
    | refine N.regS fun K hK => ?_
    | refine N.dregS fun K hK => ?_
    | refine N.regN fun K hK => ?_
    | refine N.dregN fun K hK => ?_
    | simp only [T.mv, sm, AO.ev, put, lk, enter, reduceIte, Nat.reduceEqDiff, Nat.reduceAdd, Nat.reduceMul, Nat.reduceSub, Int.reduceNeg, Int.reduceToNat, upto, renB, setAll]
    | (refine T.nil ?_; (first | refine hK _ _ _ (by rfl) ?_ | refine hK _ _ _ ?_); (try simp only [keep, List.map, lk, reduceIte, Nat.reduceEqDiff, enter]); clear hK K)
    | (show WOpsT _ (⟨_, .call _ _, none⟩ :: _) _ _ _ _; first | refine T.callQ [1] e120 rfl (hi) (by first | rfl | exact pasH_nil | (unfold pasH; simp only [List.map]; (repeat' (first | rfl | exact pasB_bytes | exact pasB_ints | exact pasB_flat | refine consE ?_ ?_)); done) | simp [pasH, pasB, cells_pas, bcells_pas]) rfl rfl rfl (by first | rfl | ((repeat' (first | rfl | exact renB_bytes | exact renB_ints | exact renB_flat | refine consE ?_ ?_)); done) | simp [renB, cells_ren, bcells_ren]) ?_ | refine T.call0 e122 rfl (hy) ?_)
    | (show WOpsT _ (⟨_, .ld _ _, none⟩ :: _) _ _ _ _; first | refine L.ld ?_ | refine L.ldd ?_ | refine L.ldn ?_ | refine L.lddn ?_)
    | (show WOpsT _ (⟨_, .idx _ _ _ _, none⟩ :: _) _ _ _ _; first | refine L.idx ?_ | refine L.idxs ?_)
    | (show WOpsT _ (⟨_, .bin _ _ _, none⟩ :: _) _ _ _ _; first | refine L.bin ?_)
    | (show AKW _ _ _ _ _ _ _; first | refine N.now ?_)
    | (show UK _ _ _ _ _ _ _ _; first | refine N.round ?_)
    | (show UC _ _ _ _ _ _ _ _; first | refine N.ucN ?_)
    | (show AK _ _ (.cond _ _ _) _ _ _ _; first | refine N.c1 ?_ | refine N.c2 ?_ | refine N.c3 ?_ | refine N.c4 ?_ | refine N.condD rfl (fun hcd => ?_) (fun hcd => ?_) | refine N.condB rfl (fun hcd => ?_) (fun hcd => ?_) | refine N.condU rfl ?_ ?_)
    | (show AK _ _ _ _ _ _ _; first | refine N.seq ?_ | refine N.skip ?_ | refine N.ret ?_)
    | (show RK _ _ _ _ _ _ _; simp only [rk, rk0, reduceIte, Nat.reduceEqDiff])
    | (show WOpsT _ _ _ _ _ _; first | refine L.fad ?_ | refine L.fadd ?_ | refine L.st ?_ | refine L.new ?_ | refine L.zero ?_ | refine L.build ?_ | refine T.mkf ?_)
    | refine hQ _ _ _ rfl ?_
    | refine hQN _ _ _ rfl ?_)
    exact WS.drop (n := 0) rfl rfl
end Go.Proofs.Ytjmmompbmjhkpaa.Calc

namespace Go.Proofs.Ytjmmompbmjhkpaa.Calc
open Go Code
set_option linter.unusedSimpArgs false
set_option linter.unusedVariables false
set_option maxRecDepth 20000
set_option maxHeartbeats 2000000
attribute [local irreducible] WOpsT AW AK RK AKW
abbrev strB (l : List Int) : Blk := ⟨1, 1, [[.sl 1 (cells l)]]⟩
def sval (l : List Int) (n : Int) : Int := if n < 1 then 0 else match l with
  | [] => 0
  | x :: _ => x % n
def srest (l : List Int) (n : Int) : List Int := if n < 1 then l else l.tail
theorem next_ok (l : List Int) (n : Int) (hn : n < 4611686018427387904) : FnE Try.prog 56 [.ptr 0 1 0 0, I n] [strB l] (I (sval l n)) [strB (srest l n)] := by
  by_cases h : n < 1
  · skip
    refine N.fn Try.func56 k56 lb q56 fun Q hQ hQN => ?_
    rw [c56]
    repeat' (first
    | refine N.regS fun K hK => ?_
    | refine N.dregS fun K hK => ?_
    | refine N.regN fun K hK => ?_
    | refine N.dregN fun K hK => ?_
    | simp only [T.mv, sm, AO.ev, put, lk, enter, reduceIte, Nat.reduceEqDiff, Nat.reduceAdd, Nat.reduceMul, Nat.reduceSub, Int.reduceNeg, Int.reduceToNat, upto, renB, setAll]
    | (refine T.nil ?_; (first | refine hK _ _ _ (by rfl) ?_ | refine hK _ _ _ ?_); (try simp only [keep, List.map, lk, reduceIte, Nat.reduceEqDiff, enter]); clear hK K)
    | (show WOpsT _ (⟨_, .ld _ _, none⟩ :: _) _ _ _ _; first | refine L.ld ?_ | refine L.ldd ?_)
    | (show WOpsT _ (⟨_, .idx _ _ _ _, none⟩ :: _) _ _ _ _; first | refine L.idx ?_ | refine L.idxs ?_)
    | (show WOpsT _ (⟨_, .bin _ _ _, none⟩ :: _) _ _ _ _; first | refine L.bin ?_)
    | (show WOpsT _ (⟨_, _, some (_, false)⟩ :: _) _ _ _ _; first | refine L.goF ?_ | refine L.paF ?_ | refine L.go ?_ | refine L.pass ?_ | refine T.pU rfl ?_ | refine T.gF rfl (fun hgd => ?_) (fun hgd => ?_))
    | (show WOpsT _ (⟨_, .pick _ _ _, none⟩ :: _) _ _ _ _; first | refine L.pkT ?_ | refine L.pkF ?_ | refine L.pickT ?_ | refine L.pickF ?_ | refine L.pickB ?_ | refine T.pkD rfl (fun hgd => ?_) (fun hgd => ?_))
    | (show AKW _ _ _ _ _ _ _; first | refine N.now ?_)
    | (show AK _ _ (.cond _ _ _) _ _ _ _; first | refine N.c1 ?_ | refine N.c2 ?_ | refine N.c3 ?_ | refine N.c4 ?_ | refine N.condD rfl (fun hcd => ?_) (fun hcd => ?_) | refine N.condB rfl (fun hcd => ?_) (fun hcd => ?_) | refine N.condU rfl ?_ ?_)
    | (show AK _ _ _ _ _ _ _; first | refine N.seq ?_ | refine N.skip ?_ | refine N.ret ?_)
    | (show RK _ _ _ _ _ _ _; simp only [rk, rk0, reduceIte, Nat.reduceEqDiff])
    | (show WOpsT _ _ _ _ _ _; first | refine T.slcN rfl rfl rfl ?_ | refine L.fad ?_ | refine L.fadd ?_ | refine L.nilc ?_ | refine L.nilcd ?_ | refine T.nilcf rfl ?_ | refine T.nilci rfl ?_ | refine L.st ?_ | refine L.len ?_ | refine L.lenS ?_ | refine L.lenN ?_ | refine T.slc rfl rfl rfl rfl ⟨rfl, rfl⟩ (by omega) ?_ | refine T.slcS rfl rfl rfl rfl (by omega) ?_)
    | refine hQ _ _ _ rfl ?_
    | refine hQN _ _ _ rfl ?_)
    exact WS.gc [0] 1 rfl (by rw [srest, if_pos h]; rfl) (by unfold sval; rw [if_pos h]; exact .rfl)
  · cases l with
    | nil =>
      refine N.fn Try.func56 k56 lb q56 fun Q hQ hQN => ?_
      rw [c56]
      repeat' (first
      | refine N.regS fun K hK => ?_
      | refine N.dregS fun K hK => ?_
      | refine N.regN fun K hK => ?_
      | refine N.dregN fun K hK => ?_
      | simp only [T.mv, sm, AO.ev, put, lk, enter, reduceIte, Nat.reduceEqDiff, Nat.reduceAdd, Nat.reduceMul, Nat.reduceSub, Int.reduceNeg, Int.reduceToNat, upto, renB, setAll]
      | (refine T.nil ?_; (first | refine hK _ _ _ (by rfl) ?_ | refine hK _ _ _ ?_); (try simp only [keep, List.map, lk, reduceIte, Nat.reduceEqDiff, enter]); clear hK K)
      | (show WOpsT _ (⟨_, .ld _ _, none⟩ :: _) _ _ _ _; first | refine L.ld ?_ | refine L.ldd ?_)
      | (show WOpsT _ (⟨_, .idx _ _ _ _, none⟩ :: _) _ _ _ _; first | refine L.idx ?_ | refine L.idxs ?_)
      | (show WOpsT _ (⟨_, .bin _ _ _, none⟩ :: _) _ _ _ _; first | refine L.bin ?_)
      | (show WOpsT _ (⟨_, _, some (_, false)⟩ :: _) _ _ _ _; first | refine L.goF ?_ | refine L.paF ?_ | refine L.go ?_ | refine L.pass ?_ | refine T.pU rfl ?_ | refine T.gF rfl (fun hgd => ?_) (fun hgd => ?_))
      | (show WOpsT _ (⟨_, .pick _ _ _, none⟩ :: _) _ _ _ _; first | refine L.pkT ?_ | refine L.pkF ?_ | refine L.pickT ?_ | refine L.pickF ?_ | refine L.pickB ?_ | refine T.pkD rfl (fun hgd => ?_) (fun hgd => ?_))
      | (show AKW _ _ _ _ _ _ _; first | refine N.now ?_)
      | (show AK _ _ (.cond _ _ _) _ _ _ _; first | refine N.c1 ?_ | refine N.c2 ?_ | refine N.c3 ?_ | refine N.c4 ?_ | refine N.condD rfl (fun hcd => ?_) (fun hcd => ?_) | refine N.condB rfl (fun hcd => ?_) (fun hcd => ?_) | refine N.condU rfl ?_ ?_)
      | (show AK _ _ _ _ _ _ _; first | refine N.seq ?_ | refine N.skip ?_ | refine N.ret ?_)
      | (show RK _ _ _ _ _ _ _; simp only [rk, rk0, reduceIte, Nat.reduceEqDiff])
      | (show WOpsT _ _ _ _ _ _; first | refine T.slcN rfl rfl rfl ?_ | refine L.fad ?_ | refine L.fadd ?_ | refine L.nilc ?_ | refine L.nilcd ?_ | refine T.nilcf rfl ?_ | refine T.nilci rfl ?_ | refine L.st ?_ | refine L.len ?_ | refine L.lenS ?_ | refine L.lenN ?_ | refine T.slc rfl rfl rfl rfl ⟨rfl, rfl⟩ (by omega) ?_ | refine T.slcS rfl rfl rfl rfl (by omega) ?_)
      | refine hQ _ _ _ rfl ?_
      | refine hQN _ _ _ rfl ?_)
      exact WS.gc [0] 1 rfl (by rw [srest, if_neg h]; rfl) (by unfold sval; rw [if_neg h]; exact .rfl)
    | cons x t =>
      refine N.fn Try.func56 k56 lb q56 fun Q hQ hQN => ?_
      rw [c56]
      have e1 : ¬ ((cells (x :: t)).length : Int) = 0 := by rw [cells_len, List.length_cons]; omega
      have e3 : (1 : Int) ≤ ((cells (x :: t)).length : Int) := by rw [cells_len, List.length_cons]; omega
      have e2 : (List.drop 1 (cells (x :: t))).take (((cells (x :: t)).length : Int).toNat - 1) = cells t := by
        rw [cells_len, Int.toNat_natCast, List.length_cons, cells_drop, List.drop_one, List.tail_cons, cells_take, List.take_of_length_le (by omega)]
      repeat' (first
      | rw [e2]
      | refine N.regS fun K hK => ?_
      | refine N.dregS fun K hK => ?_
      | refine N.regN fun K hK => ?_
      | refine N.dregN fun K hK => ?_
      | simp only [T.mv, sm, AO.ev, put, lk, enter, reduceIte, Nat.reduceEqDiff, Nat.reduceAdd, Nat.reduceMul, Nat.reduceSub, Int.reduceNeg, Int.reduceToNat, upto, renB, setAll]
      | (refine T.nil ?_; (first | refine hK _ _ _ (by rfl) ?_ | refine hK _ _ _ ?_); (try simp only [keep, List.map, lk, reduceIte, Nat.reduceEqDiff, enter]); clear hK K)
      | (show WOpsT _ (⟨_, .call _ _, none⟩ :: _) _ _ _ _; first | refine T.call0 e29 rfl (below_ok x n (by omega) hn) ?_)
      | (show WOpsT _ (⟨_, .ld _ _, none⟩ :: _) _ _ _ _; first | refine L.ld ?_ | refine L.ldd ?_)
      | (show WOpsT _ (⟨_, .idx _ _ _ _, none⟩ :: _) _ _ _ _; first | refine L.idx ?_ | refine L.idxs ?_)
      | (show WOpsT _ (⟨_, .bin _ _ _, none⟩ :: _) _ _ _ _; first | refine L.bin ?_)
      | (show WOpsT _ (⟨_, _, some (_, false)⟩ :: _) _ _ _ _; first | refine L.goF ?_ | refine L.paF ?_ | refine L.go ?_ | refine L.pass ?_ | refine T.pU rfl ?_ | refine T.gF rfl (fun hgd => ?_) (fun hgd => ?_))
      | (show WOpsT _ (⟨_, .pick _ _ _, none⟩ :: _) _ _ _ _; first | refine L.pkT ?_ | refine L.pkF ?_ | refine L.pickT ?_ | refine L.pickF ?_ | refine L.pickB ?_ | refine T.pkD rfl (fun hgd => ?_) (fun hgd => ?_))
      | (show AKW _ _ _ _ _ _ _; first | refine N.now ?_)
      | (show AK _ _ (.cond _ _ _) _ _ _ _; first | refine N.c1 ?_ | refine N.c2 ?_ | refine N.c3 ?_ | refine N.c4 ?_ | refine N.condD rfl (fun hcd => ?_) (fun hcd => ?_) | refine N.condB rfl (fun hcd => ?_) (fun hcd => ?_) | refine N.condU rfl ?_ ?_)
      | (show AK _ _ _ _ _ _ _; first | refine N.seq ?_ | refine N.skip ?_ | refine N.ret ?_)
      | (show RK _ _ _ _ _ _ _; simp only [rk, rk0, reduceIte, Nat.reduceEqDiff])
      | (show WOpsT _ _ _ _ _ _; first | refine T.slcN rfl rfl rfl ?_ | refine L.fad ?_ | refine L.fadd ?_ | refine L.nilc ?_ | refine L.nilcd ?_ | refine T.nilcf rfl ?_ | refine T.nilci rfl ?_ | refine L.st ?_ | refine L.len ?_ | refine L.lenS ?_ | refine L.lenN ?_ | refine T.slc rfl rfl rfl rfl ⟨rfl, rfl⟩ (by omega) ?_ | refine T.slcS rfl rfl rfl rfl (by omega) ?_)
      | refine hQ _ _ _ rfl ?_
      | refine hQN _ _ _ rfl ?_)
      exact WS.gc [0] 1 rfl (by rw [srest, if_neg h]; rfl) (by unfold sval; rw [if_neg h]; exact .rfl)
theorem sval_range (l : List Int) (n : Int) (hn : 0 < n) : 0 ≤ sval l n ∧ sval l n < n := by
  unfold sval
  rw [if_neg (by omega)]
  cases l with
  | nil => exact ⟨Int.le_refl 0, hn⟩
  | cons x t => exact ⟨Int.emod_nonneg _ (by omega), Int.emod_lt_of_pos _ hn⟩
end Go.Proofs.Ytjmmompbmjhkpaa.Calc

namespace Go.Proofs.Ytjmmompbmjhkpaa.Calc
open Go Code
set_option linter.unusedSimpArgs false
set_option linter.unusedVariables false
set_option maxRecDepth 20000
set_option maxHeartbeats 4000000
attribute [local irreducible] WOpsT AW AK RK AKW UK UC
def mkStepD (b w d : Int) (l : List Int) : Stp × List Int :=
  if d = 0 then (⟨0, 0, 0, 0⟩, l)
  else if d = 1 ∨ (4 ≤ d ∧ d ≤ 9) then (⟨d, b, sval l 7, 0⟩, srest l 7)
  else if d = 2 then (⟨2, b, 0, sval l 256⟩, srest l 256)
  else if d = 16 ∨ d = 17 then (⟨d, 0, 0, sval l 256⟩, srest l 256)
  else if d = 18 ∨ d = 19 ∨ d = 22 ∨ d = 23 then (⟨d, w, b, 0⟩, l)
  else if d = 20 ∨ d = 21 then (⟨d, b, w, 0⟩, l)
  else if d = 24 then (⟨24, 0, sval l 2, sval (srest l 2) 256⟩, srest (srest l 2) 256)
  else (⟨d, b, 0, 0⟩, l)
def mkStep (l : List Int) : Stp × List Int := mkStepD (sval l 7) (7 + sval (srest l 7) 2) (sval (srest (srest l 7) 2) 25) (srest (srest (srest l 7) 2) 25)
theorem mkStep_ok (l : List Int) : FnE Try.prog 163 [.ptr 0 1 0 0] [strB l] (.agg (stC (mkStep l).1)) [strB (mkStep l).2] := by
  have n1 := next_ok l 7 (by decide)
  have n2 := next_ok (srest l 7) 2 (by decide)
  have n3 := next_ok (srest (srest l 7) 2) 25 (by decide)
  have r1 := sval_range l 7 (by decide)
  have r2 := sval_range (srest l 7) 2 (by decide)
  have r3 := sval_range (srest (srest l 7) 2) 25 (by decide)
  unfold mkStep
  generalize srest (srest (srest l 7) 2) 25 = l3 at *
  generalize sval (srest (srest l 7) 2) 25 = d at *
  generalize sval l 7 = b at *
  generalize sval (srest l 7) 2 = w at *
  generalize hM : mkStepD b (7 + w) d l3 = M
  have n4 := next_ok l3 7 (by decide)
  have n5 := next_ok l3 256 (by decide)
  have n6 := next_ok l3 2 (by decide)
  have n7 := next_ok (srest l3 2) 256 (by decide)
  unfold mkStepD at hM
  refine N.fn Try.func163 k163 lb q163 fun Q hQ hQN => ?_
  rw [c163]
  repeat' (first
  | refine N.regS fun K hK => ?_
  | refine N.dregS fun K hK => ?_
  | refine N.regN fun K hK => ?_
  | refine N.dregN fun K hK => ?_
  | simp only [T.mv, sm, AO.ev, put, lk, enter, reduceIte, Nat.reduceEqDiff, Nat.reduceAdd, Nat.reduceMul, Nat.reduceSub, Int.reduceNeg, Int.reduceToNat, upto, renB, setAll]
  | (refine T.nil ?_; (first | refine hK _ _ _ (by rfl) ?_ | refine hK _ _ _ ?_); (try simp only [keep, List.map, lk, reduceIte, Nat.reduceEqDiff, enter]); clear hK K)
  | (show WOpsT _ (⟨_, .call _ _, none⟩ :: _) _ _ _ _; first | refine T.call1 0 e56 rfl rfl (n1) ?_ | refine T.call1 0 e56 rfl rfl (n2) ?_ | refine T.call1 0 e56 rfl rfl (n3) ?_ | refine T.call1 0 e56 rfl rfl (n4) ?_ | refine T.call1 0 e56 rfl rfl (n5) ?_ | refine T.call1 0 e56 rfl rfl (n6) ?_ | refine T.call1 0 e56 rfl rfl (n7) ?_)
  | (show WOpsT _ (⟨_, .bin _ _ _, none⟩ :: _) _ _ _ _; first | refine L.add ?_ | refine L.bin ?_)
  | (show AKW _ _ _ _ _ _ _; first | refine N.now ?_)
  | (show AK _ _ (.cond _ _ _) _ _ _ _; first | refine N.c1 ?_ | refine N.c2 ?_ | refine N.c3 ?_ | refine N.c4 ?_ | refine N.condD rfl (fun hcd => ?_) (fun hcd => ?_) | refine N.condB rfl (fun hcd => ?_) (fun hcd => ?_) | refine N.condU rfl ?_ ?_)
  | (show AK _ _ _ _ _ _ _; first | refine N.seq ?_ | refine N.block ?_ | refine N.skip ?_ | refine N.ret ?_)
  | (show RK _ _ _ _ _ _ _; simp only [rk, rk0, reduceIte, Nat.reduceEqDiff])
  | (show WOpsT _ _ _ _ _ _; first | refine L.st ?_ | refine L.zero ?_ | refine L.build ?_)
  | refine hQ _ _ _ rfl ?_
  | refine hQN _ _ _ rfl ?_)
  all_goals (repeat' (first | rw [if_pos (by omega)] at hM | rw [if_neg (by omega)] at hM))
  all_goals first
    | (exfalso; omega)
    | (subst hM; exact WS.gc [0] 0 rfl rfl .rfl)
    | (subst hM; subst hcd; exact WS.gc [0] 0 rfl rfl .rfl)
    | trace_state
end Go.Proofs.Ytjmmompbmjhkpaa.Calc

namespace Go.Proofs.Ytjmmompbmjhkpaa.Calc
open Go
def rdM (a r : Int) (ss : List Stp) : Cyc := ⟨1, a, r, ss⟩
def wrM (a r : Int) (ss : List Stp) : Cyc := ⟨2, a, r, ss⟩
def noM (ss : List Stp) : Cyc := ⟨0, 0, 0, ss⟩
def oneM (d t : Int) : Stp := ⟨d, t, 0, 0⟩
def twoM (d t f : Int) : Stp := ⟨d, t, f, 0⟩
def zeroM : Stp := ⟨2, 8, 0, 0⟩
def jumpM (t : Int) : List Stp := [twoM 18 t 5, twoM 19 t 6]
def pageM : Cyc := rdM 0 5 [zeroM, twoM 18 8 5]
def lowM : Cyc := rdM 0 5 [twoM 18 8 5]
def highM : Cyc := rdM 0 5 [twoM 19 8 5]
def leadM (m : Int) : List Cyc :=
  if m = 2 then [pageM]
  else if m = 3 then [rdM 0 5 [zeroM, twoM 18 8 5, twoM 22 8 1], noM [twoM 20 5 8, zeroM, twoM 18 8 5]]
  else if m = 4 then [lowM, highM]
  else if m = 5 then [lowM, highM, noM [twoM 22 8 1]]
  else if m = 6 then [lowM, highM, noM [twoM 22 8 2]]
  else if m = 8 then [pageM, rdM 2 5 [], rdM 3 6 [twoM 18 8 5, twoM 19 8 6, twoM 22 8 2]]
  else []
def readsM (m : Int) (ss : List Stp) : List Cyc := leadM m ++ [rdM (if m = 1 then 0 else 2) 5 ss]
abbrev Row := ByteArray × Int × List Cyc
def loadsM (n : ByteArray) (r : Int) (ms : List Int) : List Row := ms.map fun m => (n, m, readsM m [twoM 1 r 5, oneM 3 r])
def storesM (n : ByteArray) (r : Int) (ms : List Int) : List Row := ms.map fun m => (n, m, leadM m ++ [wrM 2 r []])
def joinsM (n : ByteArray) (d r : Int) (ms : List Int) : List Row := ms.map fun m => (n, m, readsM m [twoM d r 5])
def turnsM (n : ByteArray) (d : Int) (ms : List Int) : List Row := ms.map fun m => (n, m, if m = 0 then [noM [oneM d 0]] else leadM m ++ [rdM 2 5 [oneM d 5], wrM 2 5 []])
def memoryL : List (List (ByteArray × Int × List Cyc)) := [
  loadsM ⟨#[108, 100, 97]⟩ 0 [1, 2, 3, 4, 5, 6, 8],
  loadsM ⟨#[108, 100, 120]⟩ 1 [1, 2, 4],
  loadsM ⟨#[108, 100, 121]⟩ 2 [1, 2, 4],
  storesM ⟨#[115, 116, 97]⟩ 0 [2, 3, 4, 5, 6, 8],
  storesM ⟨#[115, 116, 120]⟩ 1 [2, 4],
  storesM ⟨#[115, 116, 121]⟩ 2 [2, 4],
  joinsM ⟨#[97, 100, 99]⟩ 4 0 [1, 2, 4, 5],
  joinsM ⟨#[115, 98, 99]⟩ 5 0 [1, 2, 4, 5],
  joinsM ⟨#[97, 110, 100]⟩ 7 0 [1, 2, 4, 5],
  joinsM ⟨#[111, 114, 97]⟩ 8 0 [1, 2, 4, 5],
  joinsM ⟨#[101, 111, 114]⟩ 9 0 [1, 2, 4, 5],
  joinsM ⟨#[99, 109, 112]⟩ 6 0 [1, 2, 4, 5],
  joinsM ⟨#[99, 112, 120]⟩ 6 1 [1, 2],
  joinsM ⟨#[99, 112, 121]⟩ 6 2 [1, 2],
  turnsM ⟨#[105, 110, 99]⟩ 10 [2, 4],
  turnsM ⟨#[100, 101, 99]⟩ 11 [2, 4],
  turnsM ⟨#[97, 115, 108]⟩ 12 [0, 2],
  turnsM ⟨#[108, 115, 114]⟩ 13 [0, 2],
  turnsM ⟨#[114, 111, 108]⟩ 14 [0, 2],
  turnsM ⟨#[114, 111, 114]⟩ 15 [0, 2]]
def aloneL : List (ByteArray × Int × List Cyc) := [
  (⟨#[116, 97, 120]⟩, 0, [noM [twoM 1 1 0, oneM 3 1]]),
  (⟨#[116, 97, 121]⟩, 0, [noM [twoM 1 2 0, oneM 3 2]]),
  (⟨#[116, 120, 97]⟩, 0, [noM [twoM 1 0 1, oneM 3 0]]),
  (⟨#[116, 121, 97]⟩, 0, [noM [twoM 1 0 2, oneM 3 0]]),
  (⟨#[116, 115, 120]⟩, 0, [noM [twoM 1 1 3, oneM 3 1]]),
  (⟨#[116, 120, 115]⟩, 0, [noM [twoM 1 3 1]]),
  (⟨#[105, 110, 120]⟩, 0, [noM [oneM 10 1]]),
  (⟨#[105, 110, 121]⟩, 0, [noM [oneM 10 2]]),
  (⟨#[100, 101, 120]⟩, 0, [noM [oneM 11 1]]),
  (⟨#[100, 101, 121]⟩, 0, [noM [oneM 11 2]]),
  (⟨#[99, 108, 99]⟩, 0, [noM [⟨17, 0, 0, 1⟩]]),
  (⟨#[115, 101, 99]⟩, 0, [noM [⟨16, 0, 0, 1⟩]]),
  (⟨#[99, 108, 105]⟩, 0, [noM [⟨17, 0, 0, 4⟩]]),
  (⟨#[115, 101, 105]⟩, 0, [noM [⟨16, 0, 0, 4⟩]]),
  (⟨#[110, 111, 112]⟩, 0, [noM []]),
  (⟨#[112, 104, 97]⟩, 0, [wrM 4 0 []]),
  (⟨#[112, 108, 97]⟩, 0, [rdM 5 0 [oneM 3 0]]),
  (⟨#[112, 104, 112]⟩, 0, [wrM 4 4 []]),
  (⟨#[112, 108, 112]⟩, 0, [rdM 5 4 []])]
def waysL : List (ByteArray × Int × List Cyc) := [
  (⟨#[106, 109, 112]⟩, 4, [rdM 0 5 [], rdM 0 6 (jumpM 7)]),
  (⟨#[106, 115, 114]⟩, 4, [rdM 0 5 [twoM 18 8 5], rdM 0 5 [twoM 19 8 5, twoM 21 5 7], wrM 4 5 [twoM 20 5 7], wrM 4 5 [twoM 1 7 8]]),
  (⟨#[114, 116, 115]⟩, 0, [rdM 5 5 [], rdM 5 6 (jumpM 7)]),
  (⟨#[114, 116, 105]⟩, 0, [rdM 5 4 [], rdM 5 5 [], rdM 5 6 (jumpM 7)]),
  (⟨#[98, 101, 113]⟩, 7, [rdM 0 5 [⟨24, 0, 1, 2⟩], noM [twoM 23 7 5]]),
  (⟨#[98, 110, 101]⟩, 7, [rdM 0 5 [⟨24, 0, 0, 2⟩], noM [twoM 23 7 5]]),
  (⟨#[98, 99, 115]⟩, 7, [rdM 0 5 [⟨24, 0, 1, 1⟩], noM [twoM 23 7 5]]),
  (⟨#[98, 99, 99]⟩, 7, [rdM 0 5 [⟨24, 0, 0, 1⟩], noM [twoM 23 7 5]]),
  (⟨#[98, 109, 105]⟩, 7, [rdM 0 5 [⟨24, 0, 1, 128⟩], noM [twoM 23 7 5]]),
  (⟨#[98, 112, 108]⟩, 7, [rdM 0 5 [⟨24, 0, 0, 128⟩], noM [twoM 23 7 5]])]
def number : Nat → List Row → List Ins
  | _, [] => []
  | n, (s, m, cy) :: l => ⟨(n : Int) + 1, s, m, cy⟩ :: number (n + 1) l
def answersM (lo hi : Int) : List Cyc := [noM [twoM 21 5 7], wrM 4 5 [twoM 20 5 7], wrM 4 5 [], wrM 4 4 [⟨16, 0, 0, 4⟩], rdM lo 5 [], rdM hi 6 (jumpM 7)]
def stdL : List (List Row) := memoryL ++ aloneL.map (fun r => [r]) ++ waysL.map (fun r => [r])
def memR (k : Nat) : List Row := (stdL.take k).flatten
def stdRows : List Row := memR 49
def stdM : Cpu := ⟨⟨#[115, 116, 100]⟩, number 0 stdRows, [rdM 10 5 [], rdM 11 6 [twoM 18 7 5, twoM 19 7 6, ⟨2, 3, 0, 255⟩]], answersM 6 7, answersM 8 9⟩
end Go.Proofs.Ytjmmompbmjhkpaa.Calc

namespace Go.Proofs.Ytjmmompbmjhkpaa.Calc
open Go Code
set_option linter.unusedSimpArgs false
set_option linter.unusedVariables false
set_option maxRecDepth 20000
set_option maxHeartbeats 4000000
attribute [local irreducible] WOpsT AW AK RK AKW UK UC
def cyP (b a r : Int) (p n : Nat) : List V := [I b, I a, I r, .psl p 1 0 n]
end Go.Proofs.Ytjmmompbmjhkpaa.Calc

namespace Go.Proofs.Ytjmmompbmjhkpaa.Calc
open Go Code
set_option linter.unusedSimpArgs false
set_option linter.unusedVariables false
set_option maxRecDepth 20000
set_option maxHeartbeats 4000000
attribute [local irreducible] WOpsT AW AK RK AKW UK UC
def Adr (m : Int) : Prop := m = 2 ∨ m = 3 ∨ m = 4 ∨ m = 5 ∨ m = 6 ∨ m = 8
end Go.Proofs.Ytjmmompbmjhkpaa.Calc

namespace Go.Proofs.Ytjmmompbmjhkpaa.Calc
open Go Code
set_option linter.unusedSimpArgs false
set_option linter.unusedVariables false
set_option maxRecDepth 20000
set_option maxHeartbeats 4000000
attribute [local irreducible] WOpsT AW AK RK AKW UK UC
theorem outB_flatA {α : Type} {f : α → List V} [Flat f] {h : List Blk} {ids : List Nat} {n v e : Nat} {l : List α} {rows : List (List V)} : outB h ids n ⟨v, e, l.map f ++ rows⟩ = ⟨v, e, l.map f ++ rows.map (·.map (out h ids n))⟩ := by
  simp only [outB, List.map_append]; rw [flat_rows (fun _ => out_c) (fun _ _ => out_sl)]
theorem vcells_psl {h : List Blk} {b ver off len : Nat} {k : Blk} (hb : h[b]? = some k) (hv : k.ver = ver) : vcells (fun b => h[b]?) (.psl b ver off len) = some [.psl b ver off len] := by
  simp only [vcells, hb]; rw [if_pos hv]
def wR (m : Int) : Nat := if m = 1 then 0 else 1
def mkA (p : Nat) (l : List Ins) : Blk := ⟨1, 1, [[.psl p l.length 0 l.length]]⟩
def mkB (l : List Ins) : Blk := ⟨l.length, 4, l.map inC⟩
def insN (l : List Ins) (s : ByteArray) (m : Int) (cy : List Cyc) : Ins := ⟨(l.length : Int) + 1, s, m, cy⟩
end Go.Proofs.Ytjmmompbmjhkpaa.Calc

namespace Go.Proofs.Ytjmmompbmjhkpaa.Calc
open Go Code
set_option linter.unusedSimpArgs false
set_option linter.unusedVariables false
set_option maxRecDepth 20000
set_option maxHeartbeats 4000000
attribute [local irreducible] WOpsT AW AK RK AKW UK UC
def stV (l : List Stp) : V := match l with
  | [] => .c (.slice none 0 0)
  | a :: l => .sl 4 ((a :: l).map stC)
def cyQ (c : Cyc) : List V := [I c.bus, I c.at_, I c.reg, stV c.steps]
instance : Flat cyQ := ⟨fun a x hx => by
  obtain ⟨b, t, r, ss⟩ := a
  cases ss with
  | nil => simp [cyQ, stV] at hx; rcases hx with rfl | rfl | rfl | rfl <;> exact .inl ⟨_, rfl⟩
  | cons s ss => simp [cyQ, stV] at hx; rcases hx with rfl | rfl | rfl | rfl <;> first | exact .inl ⟨_, rfl⟩ | exact .inr ⟨_, _, rfl⟩⟩
theorem sub_rows {α : Type} (f g : α → List V) (e : Nat) (hg : ∀ a, (g a).length = e) (hs : ∀ a (j : Nat), (∀ y, (g a)[j]? = some y → ∃ x, (f a)[j]? = some x ∧ Sub x y)) (l : List α) : Sub (.sl e (l.map f)) (.sl e (l.map g)) := by
  refine .sl (by simp) (fun row hr => ?_) (fun i j b hb => ?_) (fun i j a b ha hb => ?_)
  · obtain ⟨a, _, rfl⟩ := List.mem_map.1 hr; exact hg a
  · unfold cellOf at *
    rw [List.getElem?_map] at *
    cases hl : l[i]? with
    | none => rw [hl] at hb; cases hb
    | some a =>
      rw [hl] at hb
      obtain ⟨x, h1, _⟩ := hs a j b hb
      exact ⟨x, h1⟩
  · unfold cellOf at *
    rw [List.getElem?_map] at *
    cases hl : l[i]? with
    | none => rw [hl] at hb; cases hb
    | some q =>
      rw [hl] at ha hb
      obtain ⟨x, h1, h2⟩ := hs q j b hb
      have ha : (f q)[j]? = some a := ha
      rw [h1] at ha; cases ha; exact h2
theorem sub_stV (l : List Stp) : Sub (stV l) (.sl 4 (l.map stC)) := by cases l <;> first | exact .nil | exact .rfl
theorem sub_cyQ (l : List Cyc) : Sub (.sl 4 (l.map cyQ)) (.sl 4 (l.map cyC)) := sub_rows cyQ cyC 4 (fun _ => rfl) (fun c j y hy => by
  match j with
  | 0 => exact ⟨_, rfl, by cases hy; exact .rfl⟩
  | 1 => exact ⟨_, rfl, by cases hy; exact .rfl⟩
  | 2 => exact ⟨_, rfl, by cases hy; exact .rfl⟩
  | 3 => exact ⟨_, rfl, by cases hy; exact sub_stV _⟩
  | j + 4 => exact nomatch hy) l
def goReads : Nat → List Cyc → List Int → List Cyc × List Int
  | 0, acc, l => (acc, l)
  | n + 1, acc, l => goReads n (acc ++ [⟨1, 0, sval l 7, []⟩]) (srest l 7)
def moreC (l : List Int) : Cyc × List Int := if sval l 3 = 0 then (⟨0, 0, 0, []⟩, srest l 3) else (⟨sval l 3, 1 + sval (srest l 3) 11, sval (srest (srest l 3) 11) 7, []⟩, srest (srest (srest l 3) 11) 7)
def goMore : Nat → List Cyc → List Int → List Cyc × List Int
  | 0, acc, l => (acc, l)
  | n + 1, acc, l => goMore n (acc ++ [(moreC l).1]) (moreC l).2
def goSteps : Nat → List Int → List Stp × List Int
  | 0, l => ([], l)
  | 1, l => ([(mkStep l).1], (mkStep l).2)
  | _ + 2, l => ([(mkStep l).1, (mkStep (mkStep l).2).1], (mkStep (mkStep l).2).2)
def goFill : List Cyc → List Cyc → List Int → List Cyc × List Int
  | [], acc, l => (acc, l)
  | c :: todo, acc, l => goFill todo (acc ++ [⟨c.bus, c.at_, c.reg, (goSteps (sval l 3).toNat (srest l 3)).1⟩]) (goSteps (sval l 3).toNat (srest l 3)).2
def mkReads (n : Nat) (l : List Int) : List Cyc × List Int := goReads n [] l
def mkMore (n : Nat) (l : List Int) : List Cyc × List Int := goMore (sval (mkReads n l).2 4).toNat (mkReads n l).1 (srest (mkReads n l).2 4)
def mkCycles (n : Nat) (l : List Int) : List Cyc × List Int := goFill (mkMore n l).1 [] (mkMore n l).2
theorem mk_snoc (acc : List Cyc) (c : Cyc) (hc : c.steps = []) : acc.map cyQ ++ [[I c.bus, I c.at_, I c.reg, .c (.slice none 0 0)]] = (acc ++ [c]).map cyQ := by
  obtain ⟨b, t, r, ss⟩ := c; dsimp only at hc; subst hc; rw [List.map_append]; rfl
theorem goReads_spec : ∀ (n : Nat) (acc : List Cyc) (l : List Int), (∀ c ∈ acc, c.steps = []) → (goReads n acc l).1.length = acc.length + n ∧ ∀ c ∈ (goReads n acc l).1, c.steps = [] := by
  intro n
  induction n with
  | zero => intro acc l h; exact ⟨rfl, h⟩
  | succ n ih =>
    intro acc l h
    obtain ⟨h1, h2⟩ := ih (acc ++ [⟨1, 0, sval l 7, []⟩]) (srest l 7) (by intro c hc; rcases List.mem_append.1 hc with hc | hc; exact h c hc; simp only [List.mem_singleton] at hc; subst hc; rfl)
    exact ⟨by show (goReads n _ _).1.length = _; rw [h1]; simp; omega, h2⟩
theorem moreC_nil (l : List Int) : (moreC l).1.steps = [] := by unfold moreC; split <;> rfl
theorem goMore_spec : ∀ (n : Nat) (acc : List Cyc) (l : List Int), (∀ c ∈ acc, c.steps = []) → (goMore n acc l).1.length = acc.length + n ∧ ∀ c ∈ (goMore n acc l).1, c.steps = [] := by
  intro n
  induction n with
  | zero => intro acc l h; exact ⟨rfl, h⟩
  | succ n ih =>
    intro acc l h
    obtain ⟨h1, h2⟩ := ih (acc ++ [(moreC l).1]) (moreC l).2 (by intro c hc; rcases List.mem_append.1 hc with hc | hc; exact h c hc; simp only [List.mem_singleton] at hc; subst hc; exact moreC_nil l)
    exact ⟨by show (goMore n _ _).1.length = _; rw [h1]; simp; omega, h2⟩
def rwQ (done todo : List Cyc) (b a r : Int) (x : V) : List (List V) := done.map cyQ ++ [I b, I a, I r, x] :: todo.map cyQ
theorem rwQ_get (dn td : List Cyc) (b a r : Int) (x : V) : (rwQ dn td b a r x)[dn.length]? = some [I b, I a, I r, x] := by
  unfold rwQ; rw [List.getElem?_append_right (by simp), List.length_map, Nat.sub_self]; rfl
theorem rwQ_set (dn td : List Cyc) (b a r : Int) (x y : V) : (rwQ dn td b a r x).set dn.length (spl [I b, I a, I r, x] 3 [y]) = rwQ dn td b a r y := by
  unfold rwQ; rw [List.set_append_right _ _ (by simp), List.length_map, Nat.sub_self]; rfl
theorem rwQ_out {h : List Blk} {ids : List Nat} {n v e : Nat} (dn td : List Cyc) (b a r : Int) (x : V) : outB h ids n ⟨v, e, rwQ dn td b a r x⟩ = ⟨v, e, rwQ dn td b a r (out h ids n x)⟩ := by
  simp only [outB, rwQ, List.map_append, List.map_cons]
  rw [flat_rows (fun _ => out_c) (fun _ _ => out_sl), flat_rows (fun _ => out_c) (fun _ _ => out_sl)]; rfl
theorem mkCycles_ok (n : Nat) (hn : n ≤ 2) (l0 : List Int) : FnE Try.prog 112 [.ptr 0 1 0 0, I n] [strB l0] (.sl 4 ((mkCycles n l0).1.map cyC)) [strB (mkCycles n l0).2] := by
  unfold mkCycles mkMore
  have hR := goReads_spec n [] l0 (by simp)
  generalize hr : mkReads n l0 = R at *
  unfold mkReads at hr
  rw [hr] at hR
  obtain ⟨R1, R2⟩ := R
  dsimp only at *
  have r4 := sval_range R2 4 (by decide)
  obtain ⟨q, hq⟩ : ∃ q : Nat, sval R2 4 = q := ⟨(sval R2 4).toNat, by omega⟩
  have hqn : (sval R2 4).toNat = q := by omega
  have hq3 : q ≤ 3 := by omega
  rw [hqn]
  have hM := goMore_spec q R1 (srest R2 4) hR.2
  generalize hm : goMore q R1 (srest R2 4) = M at *
  obtain ⟨M1, M2⟩ := M
  dsimp only at *
  generalize hf : goFill M1 [] M2 = F at *
  have hn4 := next_ok R2 4 (by decide)
  rw [hq] at hn4
  refine N.fn Try.func112 k112 lb q112 fun Q hQ hQN => ?_
  rw [c112]
  repeat' (first
  | refine N.regS fun K hK => ?_
  | refine N.dregS fun K hK => ?_
  | refine N.regN fun K hK => ?_
  | refine N.dregN fun K hK => ?_
  | simp only [T.mv, sm, AO.ev, put, lk, enter, reduceIte, Nat.reduceEqDiff, Nat.reduceAdd, Nat.reduceMul, Nat.reduceSub, Int.reduceNeg, Int.reduceToNat, upto, renB, setAll]
  | (refine T.nil ?_; (first | refine hK _ _ _ (by rfl) ?_ | refine hK _ _ _ ?_); (try simp only [keep, List.map, lk, reduceIte, Nat.reduceEqDiff, enter]); clear hK K)
  | (show WOpsT _ (⟨_, .ld _ _, none⟩ :: _) _ _ _ _; first | refine L.ld ?_ | refine L.ldd ?_ | refine L.ldn ?_ | refine L.lddn ?_)
  | (show WOpsT _ (⟨_, .idx _ _ _ _, none⟩ :: _) _ _ _ _; first | refine L.idx ?_ | refine L.idxs ?_)
  | (show WOpsT _ (⟨_, .bin _ _ _, none⟩ :: _) _ _ _ _; first | refine L.add ?_ | refine L.bin ?_)
  | (show AKW _ _ _ _ _ _ _; first | refine N.now ?_)
  | (show UK _ _ _ _ _ _ _ _; first | refine N.round ?_)
  | (show UC _ _ _ _ _ _ _ _; first | refine N.ucN ?_)
  | (show AK _ _ (.cond _ _ _) _ _ _ _; first | refine N.c1 ?_ | refine N.c2 ?_ | refine N.c3 ?_ | refine N.c4 ?_ | refine N.condD rfl (fun hcd => ?_) (fun hcd => ?_) | refine N.condB rfl (fun hcd => ?_) (fun hcd => ?_) | refine N.condU rfl ?_ ?_)
  | (show AK _ _ _ _ _ _ _; first | refine N.seq ?_ | refine N.block ?_ | refine N.skip ?_ | refine N.exit ?_ | refine N.ret ?_)
  | (show RK _ _ _ _ _ _ _; simp only [rk, rk0, reduceIte, Nat.reduceEqDiff])
  | (show WOpsT _ _ _ _ _ _; first | refine L.fad ?_ | refine L.fadd ?_ | refine L.st ?_ | refine L.zero ?_ | refine L.build ?_ | refine L.len ?_ | refine L.lenS ?_ | refine L.lenN ?_ | refine L.bsl ?_)
  | refine hQ _ _ _ rfl ?_
  | refine hQN _ _ _ rfl ?_)
  refine N.loop (σ := Nat × List Cyc × List Int) (fun s => [(0, .ptr 0 1 0 0), (5, .psl 1 (s.2.1.length + 1) 0 s.2.1.length), (8, I n), (9, I s.1)]) (fun s => [strB s.2.2, ⟨s.2.1.length + 1, 4, s.2.1.map cyQ⟩]) (fun s => s.1 ≤ n ∧ s.2.1.length = s.1 ∧ goReads (n - s.1) s.2.1 s.2.2 = (R1, R2)) (fun s => n - s.1) (0, [], l0) ⟨Nat.zero_le _, rfl, hr⟩ (Weaks.nilAs 5 4 (by decide) rfl (Weaks.sel (by repeat (first | exact trivial | refine ⟨.rfl, ?_⟩ | refine ⟨.any, ?_⟩)) rfl)) fun w hi K2 hC => ?_
  obtain ⟨i, acc, l⟩ := w
  obtain ⟨hi, hal, hst⟩ := hi
  dsimp only at hi hal hst hC ⊢
  by_cases hil : i < n
  · have hx := next_ok l 7 (by decide)
    rw [show n - i = n - (i + 1) + 1 by omega] at hst
    unfold goReads at hst
    generalize sval l 7 = v at *
    generalize srest l 7 = l2 at *
    have hsn := mk_snoc acc ⟨1, 0, v, []⟩ rfl
    have hl2 : (acc ++ [(⟨1, 0, v, []⟩ : Cyc)]).length = acc.length + 1 := by simp
    repeat' (first
    | (show WOpsT _ (⟨_, .app _ _ _ _, none⟩ :: _) _ _ _ _; refine T.app rfl rfl rfl ⟨by decide, by decide⟩ ⟨rfl, rfl, by rw [Nat.zero_add, List.length_map], by simp; omega⟩ ?_)
    | refine N.regS fun K hK => ?_
    | refine N.dregS fun K hK => ?_
    | refine N.regN fun K hK => ?_
    | refine N.dregN fun K hK => ?_
    | simp only [T.mv, sm, AO.ev, put, lk, enter, reduceIte, Nat.reduceEqDiff, Nat.reduceAdd, Nat.reduceMul, Nat.reduceSub, Int.reduceNeg, Int.reduceToNat, upto, renB, setAll]
    | (refine T.nil ?_; (first | refine hK _ _ _ (by rfl) ?_ | refine hK _ _ _ ?_); (try simp only [keep, List.map, lk, reduceIte, Nat.reduceEqDiff, enter]); clear hK K)
    | (show WOpsT _ (⟨_, .call _ _, none⟩ :: _) _ _ _ _; first | refine T.call1 0 e56 rfl rfl (hx) ?_)
    | (show WOpsT _ (⟨_, .ld _ _, none⟩ :: _) _ _ _ _; first | refine L.ld ?_ | refine L.ldd ?_ | refine L.ldn ?_ | refine L.lddn ?_)
    | (show WOpsT _ (⟨_, .idx _ _ _ _, none⟩ :: _) _ _ _ _; first | refine L.idx ?_ | refine L.idxs ?_)
    | (show WOpsT _ (⟨_, .bin _ _ _, none⟩ :: _) _ _ _ _; first | refine L.add ?_ | refine L.bin ?_)
    | (show AKW _ _ _ _ _ _ _; first | refine N.now ?_)
    | (show UK _ _ _ _ _ _ _ _; first | refine N.round ?_)
    | (show UC _ _ _ _ _ _ _ _; first | refine N.ucN ?_)
    | (show AK _ _ (.cond _ _ _) _ _ _ _; first | refine N.c1 ?_ | refine N.c2 ?_ | refine N.c3 ?_ | refine N.c4 ?_ | refine N.condD rfl (fun hcd => ?_) (fun hcd => ?_) | refine N.condB rfl (fun hcd => ?_) (fun hcd => ?_) | refine N.condU rfl ?_ ?_)
    | (show AK _ _ _ _ _ _ _; first | refine N.seq ?_ | refine N.block ?_ | refine N.skip ?_ | refine N.exit ?_ | refine N.ret ?_)
    | (show RK _ _ _ _ _ _ _; simp only [rk, rk0, reduceIte, Nat.reduceEqDiff])
    | (show WOpsT _ _ _ _ _ _; first | refine L.fad ?_ | refine L.fadd ?_ | refine L.st ?_ | refine L.zero ?_ | refine L.build ?_ | refine L.len ?_ | refine L.lenS ?_ | refine L.lenN ?_ | refine L.bsl ?_)
    | refine hQ _ _ _ rfl ?_
    | refine hQN _ _ _ rfl ?_)
    refine hC _ _ (i + 1, acc ++ [⟨1, 0, v, []⟩], l2) ⟨by dsimp only; omega, by dsimp only; omega, hst⟩ (by dsimp only; omega) ?_
    dsimp only at hsn ⊢
    rw [hl2, ← hsn]
    exact Weaks.gc [0, 1] 1 rfl (by repeat (first | exact trivial | refine ⟨.rfl, ?_⟩ | refine ⟨.any, ?_⟩)) (by show [_, _] = [_, outB _ _ _ ⟨acc.length + 1 + 1, 4, acc.map cyQ ++ [[I 1, I 0, I v, .c (.slice none 0 0)]]⟩]; rw [outB_flatA]; rfl)
  obtain rfl : i = n := by omega
  rw [Nat.sub_self] at hst
  unfold goReads at hst
  obtain ⟨rfl, rfl⟩ := Prod.mk.inj hst
  clear hC hst hr
  repeat' (first
  | refine N.regS fun K hK => ?_
  | refine N.dregS fun K hK => ?_
  | refine N.regN fun K hK => ?_
  | refine N.dregN fun K hK => ?_
  | simp only [T.mv, sm, AO.ev, put, lk, enter, reduceIte, Nat.reduceEqDiff, Nat.reduceAdd, Nat.reduceMul, Nat.reduceSub, Int.reduceNeg, Int.reduceToNat, upto, renB, setAll]
  | (refine T.nil ?_; (first | refine hK _ _ _ (by rfl) ?_ | refine hK _ _ _ ?_); (try simp only [keep, List.map, lk, reduceIte, Nat.reduceEqDiff, enter]); clear hK K)
  | (show WOpsT _ (⟨_, .call _ _, none⟩ :: _) _ _ _ _; first | refine T.call1 0 e56 rfl rfl (hn4) ?_)
  | (show WOpsT _ (⟨_, .ld _ _, none⟩ :: _) _ _ _ _; first | refine L.ld ?_ | refine L.ldd ?_ | refine L.ldn ?_ | refine L.lddn ?_)
  | (show WOpsT _ (⟨_, .idx _ _ _ _, none⟩ :: _) _ _ _ _; first | refine L.idx ?_ | refine L.idxs ?_)
  | (show WOpsT _ (⟨_, .bin _ _ _, none⟩ :: _) _ _ _ _; first | refine L.add ?_ | refine L.bin ?_)
  | (show AKW _ _ _ _ _ _ _; first | refine N.now ?_)
  | (show UK _ _ _ _ _ _ _ _; first | refine N.round ?_)
  | (show UC _ _ _ _ _ _ _ _; first | refine N.ucN ?_)
  | (show AK _ _ (.cond _ _ _) _ _ _ _; first | refine N.c1 ?_ | refine N.c2 ?_ | refine N.c3 ?_ | refine N.c4 ?_ | refine N.condD rfl (fun hcd => ?_) (fun hcd => ?_) | refine N.condB rfl (fun hcd => ?_) (fun hcd => ?_) | refine N.condU rfl ?_ ?_)
  | (show AK _ _ _ _ _ _ _; first | refine N.seq ?_ | refine N.block ?_ | refine N.skip ?_ | refine N.exit ?_ | refine N.ret ?_)
  | (show RK _ _ _ _ _ _ _; simp only [rk, rk0, reduceIte, Nat.reduceEqDiff])
  | (show WOpsT _ _ _ _ _ _; first | refine L.fad ?_ | refine L.fadd ?_ | refine L.st ?_ | refine L.zero ?_ | refine L.build ?_ | refine L.len ?_ | refine L.lenS ?_ | refine L.lenN ?_ | refine L.bsl ?_)
  | refine hQ _ _ _ rfl ?_
  | refine hQN _ _ _ rfl ?_)
  refine N.loop (σ := Nat × List Cyc × List Int) (fun s => [(0, .ptr 0 1 0 0), (5, .psl 1 (s.2.1.length + 1) 0 s.2.1.length), (19, I q), (20, I s.1)]) (fun s => [strB s.2.2, ⟨s.2.1.length + 1, 4, s.2.1.map cyQ⟩]) (fun s => s.1 ≤ q ∧ s.2.1.length = i + s.1 ∧ goMore (q - s.1) s.2.1 s.2.2 = (M1, M2)) (fun s => q - s.1) (0, acc, srest l 4) ⟨Nat.zero_le _, hal, hm⟩ (Weaks.sel (by repeat (first | exact trivial | refine ⟨.rfl, ?_⟩ | refine ⟨.any, ?_⟩)) rfl) fun w hi K2 hC => ?_
  obtain ⟨j, ac, l2⟩ := w
  obtain ⟨hj, hal2, hst⟩ := hi
  dsimp only at hj hal2 hst hC ⊢
  by_cases hjl : j < q
  · have hx := next_ok l2 3 (by decide)
    have hx1 := next_ok (srest l2 3) 11 (by decide)
    have hx2 := next_ok (srest (srest l2 3) 11) 7 (by decide)
    have r3 := sval_range l2 3 (by decide)
    have r11 := sval_range (srest l2 3) 11 (by decide)
    rw [show q - j = q - (j + 1) + 1 by omega] at hst
    unfold goMore at hst
    have hnil := moreC_nil l2
    generalize hmo : moreC l2 = mo at *
    unfold moreC at hmo
    generalize sval l2 3 = v at *
    generalize srest l2 3 = l3 at *
    generalize sval l3 11 = v1 at *
    generalize srest l3 11 = l4 at *
    generalize sval l4 7 = v2 at *
    generalize srest l4 7 = l5 at *
    have hl2 : (ac ++ [mo.1]).length = ac.length + 1 := by simp
    have hsn := mk_snoc ac mo.1 hnil
    repeat' (first
    | (show WOpsT _ (⟨_, .app _ _ _ _, none⟩ :: _) _ _ _ _; refine T.app rfl rfl rfl ⟨by decide, by decide⟩ ⟨rfl, rfl, by rw [Nat.zero_add, List.length_map], by simp; omega⟩ ?_)
    | refine N.regS fun K hK => ?_
    | refine N.dregS fun K hK => ?_
    | refine N.regN fun K hK => ?_
    | refine N.dregN fun K hK => ?_
    | simp only [T.mv, sm, AO.ev, put, lk, enter, reduceIte, Nat.reduceEqDiff, Nat.reduceAdd, Nat.reduceMul, Nat.reduceSub, Int.reduceNeg, Int.reduceToNat, upto, renB, setAll]
    | (refine T.nil ?_; (first | refine hK _ _ _ (by rfl) ?_ | refine hK _ _ _ ?_); (try simp only [keep, List.map, lk, reduceIte, Nat.reduceEqDiff, enter]); clear hK K)
    | (show WOpsT _ (⟨_, .call _ _, none⟩ :: _) _ _ _ _; first | refine T.call1 0 e56 rfl rfl (hx) ?_ | refine T.call1 0 e56 rfl rfl (hx1) ?_ | refine T.call1 0 e56 rfl rfl (hx2) ?_)
    | (show WOpsT _ (⟨_, .ld _ _, none⟩ :: _) _ _ _ _; first | refine L.ld ?_ | refine L.ldd ?_ | refine L.ldn ?_ | refine L.lddn ?_)
    | (show WOpsT _ (⟨_, .idx _ _ _ _, none⟩ :: _) _ _ _ _; first | refine L.idx ?_ | refine L.idxs ?_)
    | (show WOpsT _ (⟨_, .bin _ _ _, none⟩ :: _) _ _ _ _; first | refine L.add ?_ | refine L.bin ?_)
    | (show AKW _ _ _ _ _ _ _; first | refine N.now ?_)
    | (show UK _ _ _ _ _ _ _ _; first | refine N.round ?_)
    | (show UC _ _ _ _ _ _ _ _; first | refine N.ucN ?_)
    | (show AK _ _ (.cond _ _ _) _ _ _ _; first | refine N.c1 ?_ | refine N.c2 ?_ | refine N.c3 ?_ | refine N.c4 ?_ | refine N.condD rfl (fun hcd => ?_) (fun hcd => ?_) | refine N.condB rfl (fun hcd => ?_) (fun hcd => ?_) | refine N.condU rfl ?_ ?_)
    | (show AK _ _ _ _ _ _ _; first | refine N.seq ?_ | refine N.block ?_ | refine N.skip ?_ | refine N.exit ?_ | refine N.ret ?_)
    | (show RK _ _ _ _ _ _ _; simp only [rk, rk0, reduceIte, Nat.reduceEqDiff])
    | (show WOpsT _ _ _ _ _ _; first | refine L.fad ?_ | refine L.fadd ?_ | refine L.st ?_ | refine L.zero ?_ | refine L.build ?_ | refine L.len ?_ | refine L.lenS ?_ | refine L.lenN ?_ | refine L.bsl ?_)
    | refine hQ _ _ _ rfl ?_
    | refine hQN _ _ _ rfl ?_)
    · rw [if_neg (by omega)] at hmo
      subst hmo
      refine hC _ _ (j + 1, ac ++ [⟨v, 1 + v1, v2, []⟩], l5) ⟨by dsimp only; omega, by dsimp only at hl2 ⊢; omega, hst⟩ (by dsimp only; omega) ?_
      dsimp only at hsn hl2 ⊢
      rw [hl2, ← hsn]
      exact Weaks.gc [0, 1] 1 rfl (by repeat (first | exact trivial | refine ⟨.rfl, ?_⟩ | refine ⟨.any, ?_⟩)) (by show [_, _] = [_, outB _ _ _ ⟨ac.length + 1 + 1, 4, ac.map cyQ ++ [[I v, I (1 + v1), I v2, .c (.slice none 0 0)]]⟩]; rw [outB_flatA]; rfl)
    · obtain rfl : v = 0 := by omega
      rw [if_pos rfl] at hmo
      subst hmo
      refine hC _ _ (j + 1, ac ++ [⟨0, 0, 0, []⟩], l3) ⟨by dsimp only; omega, by dsimp only at hl2 ⊢; omega, hst⟩ (by dsimp only; omega) ?_
      dsimp only at hsn hl2 ⊢
      rw [hl2, ← hsn]
      exact Weaks.gc [0, 1] 1 rfl (by repeat (first | exact trivial | refine ⟨.rfl, ?_⟩ | refine ⟨.any, ?_⟩)) (by show [_, _] = [_, outB _ _ _ ⟨ac.length + 1 + 1, 4, ac.map cyQ ++ [[I 0, I 0, I 0, .c (.slice none 0 0)]]⟩]; rw [outB_flatA]; rfl)
  obtain rfl : j = q := by omega
  rw [Nat.sub_self] at hst
  unfold goMore at hst
  obtain ⟨rfl, rfl⟩ := Prod.mk.inj hst
  clear hC hst hm
  repeat' (first
  | refine N.regS fun K hK => ?_
  | refine N.dregS fun K hK => ?_
  | refine N.regN fun K hK => ?_
  | refine N.dregN fun K hK => ?_
  | simp only [T.mv, sm, AO.ev, put, lk, enter, reduceIte, Nat.reduceEqDiff, Nat.reduceAdd, Nat.reduceMul, Nat.reduceSub, Int.reduceNeg, Int.reduceToNat, upto, renB, setAll]
  | (refine T.nil ?_; (first | refine hK _ _ _ (by rfl) ?_ | refine hK _ _ _ ?_); (try simp only [keep, List.map, lk, reduceIte, Nat.reduceEqDiff, enter]); clear hK K)
  | (show WOpsT _ (⟨_, .ld _ _, none⟩ :: _) _ _ _ _; first | refine L.ld ?_ | refine L.ldd ?_ | refine L.ldn ?_ | refine L.lddn ?_)
  | (show WOpsT _ (⟨_, .idx _ _ _ _, none⟩ :: _) _ _ _ _; first | refine L.idx ?_ | refine L.idxs ?_)
  | (show WOpsT _ (⟨_, .bin _ _ _, none⟩ :: _) _ _ _ _; first | refine L.add ?_ | refine L.bin ?_)
  | (show AKW _ _ _ _ _ _ _; first | refine N.now ?_)
  | (show UK _ _ _ _ _ _ _ _; first | refine N.round ?_)
  | (show UC _ _ _ _ _ _ _ _; first | refine N.ucN ?_)
  | (show AK _ _ (.cond _ _ _) _ _ _ _; first | refine N.c1 ?_ | refine N.c2 ?_ | refine N.c3 ?_ | refine N.c4 ?_ | refine N.condD rfl (fun hcd => ?_) (fun hcd => ?_) | refine N.condB rfl (fun hcd => ?_) (fun hcd => ?_) | refine N.condU rfl ?_ ?_)
  | (show AK _ _ _ _ _ _ _; first | refine N.seq ?_ | refine N.block ?_ | refine N.skip ?_ | refine N.exit ?_ | refine N.ret ?_)
  | (show RK _ _ _ _ _ _ _; simp only [rk, rk0, reduceIte, Nat.reduceEqDiff])
  | (show WOpsT _ _ _ _ _ _; first | refine L.fad ?_ | refine L.fadd ?_ | refine L.st ?_ | refine L.zero ?_ | refine L.build ?_ | refine L.len ?_ | refine L.lenS ?_ | refine L.lenN ?_ | refine L.bsl ?_)
  | refine hQ _ _ _ rfl ?_
  | refine hQN _ _ _ rfl ?_)
  obtain ⟨hM1, hM2⟩ := hM
  clear hR hn4 hq hqn r4
  refine N.loop (σ := List Cyc × List Cyc × List Int) (fun s => [(0, .ptr 0 1 0 0), (5, .psl 1 (ac.length + 1) 0 ac.length), (41, I ac.length), (42, I s.1.length)]) (fun s => [strB s.2.2, ⟨ac.length + 1, 4, s.1.map cyQ ++ s.2.1.map cyQ⟩]) (fun s => s.1.length + s.2.1.length = ac.length ∧ (∀ c ∈ s.2.1, c.steps = []) ∧ goFill s.2.1 s.1 s.2.2 = F) (fun s => s.2.1.length) ([], ac, l2) ⟨by simp, hM2, hf⟩ (Weaks.sel (by repeat (first | exact trivial | refine ⟨.rfl, ?_⟩ | refine ⟨.any, ?_⟩)) rfl) fun w hi K2 hC => ?_
  obtain ⟨dn, td, l⟩ := w
  obtain ⟨hlen, hnil, hst⟩ := hi
  dsimp only at hlen hnil hst hC ⊢
  cases td with
  | nil =>
    rw [List.length_nil, Nat.add_zero] at hlen
    unfold goFill at hst
    subst hst
    rw [← hlen]
    repeat' (first
    | refine N.regS fun K hK => ?_
    | refine N.dregS fun K hK => ?_
    | refine N.regN fun K hK => ?_
    | refine N.dregN fun K hK => ?_
    | simp only [T.mv, sm, AO.ev, put, lk, enter, reduceIte, Nat.reduceEqDiff, Nat.reduceAdd, Nat.reduceMul, Nat.reduceSub, Int.reduceNeg, Int.reduceToNat, upto, renB, setAll]
    | (refine T.nil ?_; (first | refine hK _ _ _ (by rfl) ?_ | refine hK _ _ _ ?_); (try simp only [keep, List.map, lk, reduceIte, Nat.reduceEqDiff, enter]); clear hK K)
    | (show WOpsT _ (⟨_, .ld _ _, none⟩ :: _) _ _ _ _; first | refine L.ld ?_ | refine L.ldd ?_ | refine L.ldn ?_ | refine L.lddn ?_)
    | (show WOpsT _ (⟨_, .idx _ _ _ _, none⟩ :: _) _ _ _ _; first | refine L.idx ?_ | refine L.idxs ?_)
    | (show WOpsT _ (⟨_, .bin _ _ _, none⟩ :: _) _ _ _ _; first | refine L.add ?_ | refine L.bin ?_)
    | (show AKW _ _ _ _ _ _ _; first | refine N.now ?_)
    | (show UK _ _ _ _ _ _ _ _; first | refine N.round ?_)
    | (show UC _ _ _ _ _ _ _ _; first | refine N.ucN ?_)
    | (show AK _ _ (.cond _ _ _) _ _ _ _; first | refine N.c1 ?_ | refine N.c2 ?_ | refine N.c3 ?_ | refine N.c4 ?_ | refine N.condD rfl (fun hcd => ?_) (fun hcd => ?_) | refine N.condB rfl (fun hcd => ?_) (fun hcd => ?_) | refine N.condU rfl ?_ ?_)
    | (show AK _ _ _ _ _ _ _; first | refine N.seq ?_ | refine N.block ?_ | refine N.skip ?_ | refine N.exit ?_ | refine N.ret ?_)
    | (show RK _ _ _ _ _ _ _; simp only [rk, rk0, reduceIte, Nat.reduceEqDiff])
    | (show WOpsT _ _ _ _ _ _; first | refine L.fad ?_ | refine L.fadd ?_ | refine L.st ?_ | refine L.zero ?_ | refine L.build ?_ | refine L.len ?_ | refine L.lenS ?_ | refine L.lenN ?_ | refine L.bsl ?_)
    | refine hQ _ _ _ rfl ?_
    | refine hQN _ _ _ rfl ?_)
    exact WS.gc [0] 1 rfl rfl (by show Sub (out _ [0] 1 (.psl 1 (dn.length + 1) 0 dn.length)) _; rw [out_rowsK (f := cyQ) rfl rfl (Nat.le_refl _)]; exact sub_cyQ _)
  | cons c td =>
    obtain ⟨b, a, r, ss⟩ := c
    have hss : ss = [] := hnil _ (List.mem_cons_self ..)
    subst hss
    rw [List.length_cons] at hlen
    unfold goFill at hst
    have e0 : dn.map cyQ ++ ((⟨b, a, r, []⟩ : Cyc) :: td).map cyQ = rwQ dn td b a r (.c (.slice none 0 0)) := rfl
    rw [e0]
    have e3 : 0 + (dn.length : Int).toNat = dn.length := by omega
    have hd7 : dn.length + 1 ≤ 7 := by omega
    have hx := next_ok l 3 (by decide)
    have r3 := sval_range l 3 (by decide)
    have hs1 := mkStep_ok (srest l 3)
    have hs2 := mkStep_ok (mkStep (srest l 3)).2
    generalize srest l 3 = l3 at *
    generalize hn3 : sval l 3 = n3 at *
    have hdn : ∀ ss : List Stp, (dn ++ [(⟨b, a, r, ss⟩ : Cyc)]).length = dn.length + 1 := fun ss => by simp
    have hfin : ∀ ss : List Stp, (dn ++ [(⟨b, a, r, ss⟩ : Cyc)]).map cyQ ++ td.map cyQ = rwQ dn td b a r (stV ss) := fun ss => by rw [List.map_append, List.append_assoc]; rfl
    obtain rfl | rfl | rfl : n3 = 0 ∨ n3 = 1 ∨ n3 = 2 := by omega
    · skip
      repeat' (first
      | (show AK _ _ (.loop _) _ _ _ _; refine N.unroll 1 ?_)
      | refine N.regS fun K hK => ?_
      | refine N.dregS fun K hK => ?_
      | refine N.regN fun K hK => ?_
      | refine N.dregN fun K hK => ?_
      | simp only [T.mv, sm, AO.ev, put, lk, enter, reduceIte, Nat.reduceEqDiff, Nat.reduceAdd, Nat.reduceMul, Nat.reduceSub, Int.reduceNeg, Int.reduceToNat, upto, renB, setAll]
      | (refine T.nil ?_; (first | refine hK _ _ _ (by rfl) ?_ | refine hK _ _ _ ?_); (try simp only [keep, List.map, lk, reduceIte, Nat.reduceEqDiff, enter]); clear hK K)
      | (show WOpsT _ (⟨_, .call _ _, none⟩ :: _) _ _ _ _; first | refine T.call1 0 e56 rfl rfl (hx) ?_)
      | (show WOpsT _ (⟨_, .ld _ _, none⟩ :: _) _ _ _ _; first | refine L.ld ?_ | refine L.ldd ?_ | refine L.ldn ?_ | refine L.lddn ?_)
      | (show WOpsT _ (⟨_, .idx _ _ _ _, none⟩ :: _) _ _ _ _; first | refine L.idx ?_ | refine L.idxs ?_)
      | (show WOpsT _ (⟨_, .bin _ _ _, none⟩ :: _) _ _ _ _; first | refine L.add ?_ | refine L.bin ?_)
      | (show AKW _ _ _ _ _ _ _; first | refine N.now ?_)
      | (show UK _ _ _ _ _ _ _ _; first | refine N.round ?_)
      | (show UC _ _ _ _ _ _ _ _; first | refine N.ucN ?_)
      | (show AK _ _ (.cond _ _ _) _ _ _ _; first | refine N.c1 ?_ | refine N.c2 ?_ | refine N.c3 ?_ | refine N.c4 ?_ | refine N.condD rfl (fun hcd => ?_) (fun hcd => ?_) | refine N.condB rfl (fun hcd => ?_) (fun hcd => ?_) | refine N.condU rfl ?_ ?_)
      | (show AK _ _ _ _ _ _ _; first | refine N.seq ?_ | refine N.block ?_ | refine N.skip ?_ | refine N.exit ?_ | refine N.ret ?_)
      | (show RK _ _ _ _ _ _ _; simp only [rk, rk0, reduceIte, Nat.reduceEqDiff])
      | (show WOpsT _ _ _ _ _ _; first | refine L.fad ?_ | refine L.fadd ?_ | refine L.st ?_ | refine L.zero ?_ | refine L.build ?_ | refine L.len ?_ | refine L.lenS ?_ | refine L.lenN ?_ | refine L.bsl ?_)
      | refine hQ _ _ _ rfl ?_
      | refine hQN _ _ _ rfl ?_)
      refine hC _ _ (dn ++ [⟨b, a, r, []⟩], td, l3) ⟨by dsimp only; rw [hdn]; omega, fun c hc => hnil c (List.mem_cons_of_mem _ hc), hst⟩ (by dsimp only; rw [List.length_cons]; omega) ?_
      dsimp only
      rw [hdn, hfin]
      exact Weaks.gc [0, 1] 1 rfl (by repeat (first | exact trivial | refine ⟨.rfl, ?_⟩ | refine ⟨.any, ?_⟩)) (by show [_, _] = [_, outB _ _ _ ⟨ac.length + 1, 4, rwQ dn td b a r _⟩]; rw [rwQ_out]; rfl)
    · generalize hk : mkStep l3 = k1 at *
      obtain ⟨s1, l4⟩ := k1
      dsimp only at *
      repeat' (first
      | (show AK _ _ (.loop _) _ _ _ _; refine N.unroll 2 ?_)
      | rw [e3]
      | (show WOpsT _ (⟨_, .ld _ _, none⟩ :: _) _ _ _ _; refine T.ld rfl rfl rfl (rwQ_get dn td b a r _) rfl ?_)
      | (show WOpsT _ (⟨_, .app _ _ _ _, none⟩ :: _) _ _ _ _; refine T.appN rfl rfl ⟨by decide, by decide⟩ (by simp) (by simp) ?_)
      | (show WOpsT _ (⟨_, .st _ _ _, none⟩ :: _) _ _ _ _; refine T.st rfl rfl (vcells_psl rfl rfl) ⟨rfl, rfl⟩ (rwQ_get dn td b a r _) (Nat.le_of_ble_eq_true rfl) ?_)
      | rw [rwQ_set]
      | refine N.regS fun K hK => ?_
      | refine N.dregS fun K hK => ?_
      | refine N.regN fun K hK => ?_
      | refine N.dregN fun K hK => ?_
      | simp only [T.mv, sm, AO.ev, put, lk, enter, reduceIte, Nat.reduceEqDiff, Nat.reduceAdd, Nat.reduceMul, Nat.reduceSub, Int.reduceNeg, Int.reduceToNat, upto, renB, setAll]
      | (refine T.nil ?_; (first | refine hK _ _ _ (by rfl) ?_ | refine hK _ _ _ ?_); (try simp only [keep, List.map, lk, reduceIte, Nat.reduceEqDiff, enter]); clear hK K)
      | (show WOpsT _ (⟨_, .call _ _, none⟩ :: _) _ _ _ _; first | refine T.call1 0 e56 rfl rfl (hx) ?_ | refine T.call1 0 e163 rfl rfl (hs1) ?_)
      | (show WOpsT _ (⟨_, .ld _ _, none⟩ :: _) _ _ _ _; first | refine L.ld ?_ | refine L.ldd ?_ | refine L.ldn ?_ | refine L.lddn ?_)
      | (show WOpsT _ (⟨_, .idx _ _ _ _, none⟩ :: _) _ _ _ _; first | refine L.idx ?_ | refine L.idxs ?_)
      | (show WOpsT _ (⟨_, .bin _ _ _, none⟩ :: _) _ _ _ _; first | refine L.add ?_ | refine L.bin ?_)
      | (show AKW _ _ _ _ _ _ _; first | refine N.now ?_)
      | (show UK _ _ _ _ _ _ _ _; first | refine N.round ?_)
      | (show UC _ _ _ _ _ _ _ _; first | refine N.ucN ?_)
      | (show AK _ _ (.cond _ _ _) _ _ _ _; first | refine N.c1 ?_ | refine N.c2 ?_ | refine N.c3 ?_ | refine N.c4 ?_ | refine N.condD rfl (fun hcd => ?_) (fun hcd => ?_) | refine N.condB rfl (fun hcd => ?_) (fun hcd => ?_) | refine N.condU rfl ?_ ?_)
      | (show AK _ _ _ _ _ _ _; first | refine N.seq ?_ | refine N.block ?_ | refine N.skip ?_ | refine N.exit ?_ | refine N.ret ?_)
      | (show RK _ _ _ _ _ _ _; simp only [rk, rk0, reduceIte, Nat.reduceEqDiff])
      | (show WOpsT _ _ _ _ _ _; first | refine L.fad ?_ | refine L.fadd ?_ | refine L.st ?_ | refine L.zero ?_ | refine L.build ?_ | refine L.len ?_ | refine L.lenS ?_ | refine L.lenN ?_ | refine L.bsl ?_)
      | refine hQ _ _ _ rfl ?_
      | refine hQN _ _ _ rfl ?_)
      refine hC _ _ (dn ++ [⟨b, a, r, [s1]⟩], td, l4) ⟨by dsimp only; rw [hdn]; omega, fun c hc => hnil c (List.mem_cons_of_mem _ hc), by dsimp only [goSteps] at hst; rw [← hst, show (1 : Int).toNat = 1 from rfl]; dsimp only [goSteps]; rw [hk]⟩ (by dsimp only; rw [List.length_cons]; omega) ?_
      dsimp only
      rw [hdn, hfin]
      exact Weaks.gc [0, 1] 1 rfl (by repeat (first | exact trivial | refine ⟨.rfl, ?_⟩ | refine ⟨.any, ?_⟩)) (by show [_, _] = [_, outB _ _ _ ⟨ac.length + 1, 4, rwQ dn td b a r (.psl 3 1 0 1)⟩]; rw [rwQ_out]; rfl)
    · generalize hk : mkStep l3 = k1 at *
      obtain ⟨s1, l4⟩ := k1
      dsimp only at *
      generalize hk2 : mkStep l4 = k2 at *
      obtain ⟨s2, l5⟩ := k2
      dsimp only at *
      repeat' (first
      | (show AK _ _ (.loop _) _ _ _ _; refine N.unroll 3 ?_)
      | rw [e3]
      | (show WOpsT _ (⟨_, .ld _ _, none⟩ :: _) _ _ _ _; refine T.ld rfl rfl rfl (rwQ_get dn td b a r _) rfl ?_)
      | (show WOpsT _ (⟨_, .app _ _ _ _, none⟩ :: _) _ _ _ _; refine T.appN rfl rfl ⟨by decide, by decide⟩ (by simp) (by simp) ?_)
      | (show WOpsT _ (⟨_, .app _ _ _ _, none⟩ :: _) _ _ _ _; refine T.app rfl rfl rfl ⟨by decide, by decide⟩ ⟨rfl, rfl, rfl, by simp⟩ ?_)
      | (show WOpsT _ (⟨_, .st _ _ _, none⟩ :: _) _ _ _ _; refine T.st rfl rfl (vcells_psl rfl rfl) ⟨rfl, rfl⟩ (rwQ_get dn td b a r _) (Nat.le_of_ble_eq_true rfl) ?_)
      | rw [rwQ_set]
      | refine N.regS fun K hK => ?_
      | refine N.dregS fun K hK => ?_
      | refine N.regN fun K hK => ?_
      | refine N.dregN fun K hK => ?_
      | simp only [T.mv, sm, AO.ev, put, lk, enter, reduceIte, Nat.reduceEqDiff, Nat.reduceAdd, Nat.reduceMul, Nat.reduceSub, Int.reduceNeg, Int.reduceToNat, upto, renB, setAll]
      | (refine T.nil ?_; (first | refine hK _ _ _ (by rfl) ?_ | refine hK _ _ _ ?_); (try simp only [keep, List.map, lk, reduceIte, Nat.reduceEqDiff, enter]); clear hK K)
      | (show WOpsT _ (⟨_, .call _ _, none⟩ :: _) _ _ _ _; first | refine T.call1 0 e56 rfl rfl (hx) ?_ | refine T.call1 0 e163 rfl rfl (hs1) ?_ | refine T.call1 0 e163 rfl rfl (hs2) ?_)
      | (show WOpsT _ (⟨_, .ld _ _, none⟩ :: _) _ _ _ _; first | refine L.ld ?_ | refine L.ldd ?_ | refine L.ldn ?_ | refine L.lddn ?_)
      | (show WOpsT _ (⟨_, .idx _ _ _ _, none⟩ :: _) _ _ _ _; first | refine L.idx ?_ | refine L.idxs ?_)
      | (show WOpsT _ (⟨_, .bin _ _ _, none⟩ :: _) _ _ _ _; first | refine L.add ?_ | refine L.bin ?_)
      | (show AKW _ _ _ _ _ _ _; first | refine N.now ?_)
      | (show UK _ _ _ _ _ _ _ _; first | refine N.round ?_)
      | (show UC _ _ _ _ _ _ _ _; first | refine N.ucN ?_)
      | (show AK _ _ (.cond _ _ _) _ _ _ _; first | refine N.c1 ?_ | refine N.c2 ?_ | refine N.c3 ?_ | refine N.c4 ?_ | refine N.condD rfl (fun hcd => ?_) (fun hcd => ?_) | refine N.condB rfl (fun hcd => ?_) (fun hcd => ?_) | refine N.condU rfl ?_ ?_)
      | (show AK _ _ _ _ _ _ _; first | refine N.seq ?_ | refine N.block ?_ | refine N.skip ?_ | refine N.exit ?_ | refine N.ret ?_)
      | (show RK _ _ _ _ _ _ _; simp only [rk, rk0, reduceIte, Nat.reduceEqDiff])
      | (show WOpsT _ _ _ _ _ _; first | refine L.fad ?_ | refine L.fadd ?_ | refine L.st ?_ | refine L.zero ?_ | refine L.build ?_ | refine L.len ?_ | refine L.lenS ?_ | refine L.lenN ?_ | refine L.bsl ?_)
      | refine hQ _ _ _ rfl ?_
      | refine hQN _ _ _ rfl ?_)
      refine hC _ _ (dn ++ [⟨b, a, r, [s1, s2]⟩], td, l5) ⟨by dsimp only; rw [hdn]; omega, fun c hc => hnil c (List.mem_cons_of_mem _ hc), by rw [← hst, show (2 : Int).toNat = 2 from rfl]; dsimp only [goSteps]; rw [hk]; dsimp only; rw [hk2]⟩ (by dsimp only; rw [List.length_cons]; omega) ?_
      dsimp only
      rw [hdn, hfin]
      exact Weaks.gc [0, 1] 1 rfl (by repeat (first | exact trivial | refine ⟨.rfl, ?_⟩ | refine ⟨.any, ?_⟩)) (by show [_, _] = [_, outB _ _ _ ⟨ac.length + 1, 4, rwQ dn td b a r (.psl 3 2 0 2)⟩]; rw [rwQ_out]; rfl)
end Go.Proofs.Ytjmmompbmjhkpaa.Calc

namespace Go.Proofs.Ytjmmompbmjhkpaa.Calc
open Go Code
set_option linter.unusedSimpArgs false
set_option linter.unusedVariables false
set_option maxRecDepth 20000
set_option maxHeartbeats 4000000
attribute [local irreducible] WOpsT AW AK RK AKW UK UC
def rdN (m : Nat) : Nat := [0, 1, 1, 1, 2, 2, 2, 1, 1].getD m 0
def nameI (i : Int) : ByteArray := (⟨#[105, 110, 45]⟩ : ByteArray) ++ Utf8.encode (97 + i)
def nameC (i : Int) : ByteArray := (⟨#[99, 112, 117, 45]⟩ : ByteArray) ++ Utf8.encode (97 + i)
def mkIn (i : Nat) (at_ : Int) (l : List Int) : Ins := ⟨at_ + (1 + sval l 30) - 1, nameI i, sval (srest l 30) 9, (mkCycles (rdN (sval (srest l 30) 9).toNat) (srest (srest l 30) 9)).1⟩
def mkInR (l : List Int) : List Int := (mkCycles (rdN (sval (srest l 30) 9).toNat) (srest (srest l 30) 9)).2
def goIns : Nat → Nat → Int → List Ins → List Int → List Ins × List Int
  | 0, _, _, acc, l => (acc, l)
  | n + 1, i, at_, acc, l => goIns n (i + 1) (at_ + (1 + sval l 30)) (acc ++ [mkIn i at_ l]) (mkInR l)
def mkInsL (l : List Int) : List Ins × List Int := goIns (1 + sval (srest l 26) 8).toNat 0 0 [] (srest (srest l 26) 8)
def mkCpu (l : List Int) : Cpu := ⟨nameC (sval l 26), (mkInsL l).1, (mkCycles 0 (mkInsL l).2).1, (mkCycles 0 (mkCycles 0 (mkInsL l).2).2).1, (mkCycles 0 (mkCycles 0 (mkCycles 0 (mkInsL l).2).2).2).1⟩
def insV (acc : List Ins) : V := match acc with
  | [] => .c (.slice none 0 0)
  | a :: acc => .psl 3 (a :: acc).length 0 (a :: acc).length
def insH (acc : List Ins) : List Blk := match acc with
  | [] => []
  | a :: acc => [⟨(a :: acc).length, 4, (a :: acc).map inC⟩]
theorem wrap_i32 (n : Int) (h : 0 ≤ n ∧ n < 1000) : IntKind.wrap .i32 n = n := by
  simp [IntKind.wrap, IntKind.signed, IntKind.bits]; omega
theorem enc_size : ∀ v : Nat, v < 26 → (Utf8.encode (97 + (v : Int))).size = 1 := by decide +kernel
theorem cat_ok (a : ByteArray) (ha : a.size ≤ 10) (v : Int) (hv : 0 ≤ v ∧ v < 26) : binV .add (.string a) (.string (Utf8.encode (97 + v))) = some (.string (a ++ Utf8.encode (97 + v))) := by
  have := enc_size v.toNat (by omega)
  rw [show ((v.toNat : Nat) : Int) = v by omega] at this
  simp only [binV]
  rw [if_pos (by omega)]
theorem rows9 (m : Nat) (h : m < 9) : ([[I 0], [I 1], [I 1], [I 1], [I 2], [I 2], [I 2], [I 1], [I 1]] : List (List V))[m]? = some [I (rdN m : Nat)] := by
  match m with
  | 0 => rfl
  | 1 => rfl
  | 2 => rfl
  | 3 => rfl
  | 4 => rfl
  | 5 => rfl
  | 6 => rfl
  | 7 => rfl
  | 8 => rfl
theorem rdN_le (m : Nat) : rdN m ≤ 2 := by
  match m with
  | 0 => decide
  | 1 => decide
  | 2 => decide
  | 3 => decide
  | 4 => decide
  | 5 => decide
  | 6 => decide
  | 7 => decide
  | 8 => decide
  | m + 9 => exact Nat.zero_le _
theorem mkCpu_ok (l0 : List Int) : FnE Try.prog 58 [.sl 1 (cells l0)] [] (.agg (cpC (mkCpu l0))) [] := by
  have hn1 := next_ok l0 26 (by decide)
  have hn2 := next_ok (srest l0 26) 8 (by decide)
  have r1 := sval_range l0 26 (by decide)
  have r2 := sval_range (srest l0 26) 8 (by decide)
  have w1 : IntKind.wrap .i32 (97 + sval l0 26) = 97 + sval l0 26 := wrap_i32 _ (by omega)
  have hcpu : mkCpu l0 = mkCpu l0 := rfl
  unfold mkCpu at hcpu ⊢
  obtain ⟨N0, hN⟩ : ∃ N0 : Nat, 1 + sval (srest l0 26) 8 = (N0 : Int) := ⟨(1 + sval (srest l0 26) 8).toNat, by omega⟩
  generalize hI : mkInsL l0 = IR at *
  unfold mkInsL at hI
  rw [hN, Int.toNat_natCast] at hI
  obtain ⟨I1, I2⟩ := IR
  dsimp only
  clear hcpu
  have hc1 := mkCycles_ok 0 (by decide) I2
  generalize mkCycles 0 I2 = C1 at *
  obtain ⟨c1, m1⟩ := C1
  have hc2 := mkCycles_ok 0 (by decide) m1
  dsimp only at hc1 ⊢
  generalize mkCycles 0 m1 = C2 at *
  obtain ⟨c2, m2⟩ := C2
  have hc3 := mkCycles_ok 0 (by decide) m2
  dsimp only at hc2 ⊢
  generalize mkCycles 0 m2 = C3 at *
  obtain ⟨c3, m3⟩ := C3
  dsimp only at hc3 ⊢
  have hnm : binV .add (.string ⟨#[99, 112, 117, 45]⟩) (.string (Utf8.encode (97 + sval l0 26))) = some (.string (nameC (sval l0 26))) := cat_ok _ (by decide) _ r1
  generalize srest (srest l0 26) 8 = l8 at *
  refine N.fn Try.func58 k58 lb q58 fun Q hQ hQN => ?_
  rw [c58]
  repeat' (first
  | rw [w1]
  | (show WOpsT _ (⟨_, .bin .add (.k (.string _)) _, none⟩ :: _) _ _ _ _; refine T.bin rfl rfl hnm ?_)
  | rw [hN]
  | refine N.regS fun K hK => ?_
  | refine N.dregS fun K hK => ?_
  | refine N.regN fun K hK => ?_
  | refine N.dregN fun K hK => ?_
  | simp only [T.mv, sm, AO.ev, put, lk, enter, reduceIte, Nat.reduceEqDiff, Nat.reduceAdd, Nat.reduceMul, Nat.reduceSub, Int.reduceNeg, Int.reduceToNat, upto, renB, setAll]
  | (refine T.nil ?_; (first | refine hK _ _ _ (by rfl) ?_ | refine hK _ _ _ ?_); (try simp only [keep, List.map, lk, reduceIte, Nat.reduceEqDiff, enter]); clear hK K)
  | (show WOpsT _ (⟨_, .call _ _, none⟩ :: _) _ _ _ _; first | refine T.call1 1 e56 rfl rfl (hn1) ?_ | refine T.call1 1 e56 rfl rfl (hn2) ?_)
  | (show WOpsT _ (⟨_, .ld _ _, none⟩ :: _) _ _ _ _; first | refine L.ld ?_ | refine L.ldd ?_ | refine L.ldn ?_ | refine L.lddn ?_)
  | (show WOpsT _ (⟨_, .idx _ _ _ _, none⟩ :: _) _ _ _ _; first | refine L.idx ?_ | refine L.idxs ?_)
  | (show WOpsT _ (⟨_, .bin _ _ _, none⟩ :: _) _ _ _ _; first | refine L.add ?_ | refine L.sub ?_ | refine L.bin ?_)
  | (show AKW _ _ _ _ _ _ _; first | refine N.now ?_)
  | (show AK _ _ (.cond _ _ _) _ _ _ _; first | refine N.c1 ?_ | refine N.c2 ?_ | refine N.c3 ?_ | refine N.c4 ?_ | refine N.condD rfl (fun hcd => ?_) (fun hcd => ?_) | refine N.condB rfl (fun hcd => ?_) (fun hcd => ?_) | refine N.condU rfl ?_ ?_)
  | (show AK _ _ _ _ _ _ _; first | refine N.seq ?_ | refine N.block ?_ | refine N.skip ?_ | refine N.exit ?_ | refine N.ret ?_)
  | (show RK _ _ _ _ _ _ _; simp only [rk, rk0, reduceIte, Nat.reduceEqDiff])
  | (show WOpsT _ _ _ _ _ _; first | refine T.i2s rfl ?_ | refine T.cvt rfl ?_ | refine L.fad ?_ | refine L.fadd ?_ | refine L.st ?_ | refine L.new ?_ | refine L.zero ?_ | refine L.build ?_ | refine L.bsl ?_)
  | refine hQ _ _ _ rfl ?_
  | refine hQN _ _ _ rfl ?_)
  generalize nameC (sval l0 26) = nm at *
  have hN9 : N0 ≤ 8 := by omega
  have hN1 : 1 ≤ N0 := by omega
  clear hn1 hn2 r1 r2 w1 hnm
  refine N.loop (σ := Nat × Int × List Ins × List Int) (fun s => [(2, .ptr 0 1 0 0), (3, .ptr 1 1 0 0), (4, .ptr 2 1 0 0), (5, I s.2.1), (21, I N0), (22, I s.1)]) (fun s => [⟨1, 5, [[.c (.string ⟨#[]⟩), .c (.slice none 0 0), .c (.slice none 0 0), .c (.slice none 0 0), .c (.slice none 0 0)]]⟩, strB s.2.2.2, ⟨1, 5, [[.c (.string nm), insV s.2.2.1, .c (.slice none 0 0), .c (.slice none 0 0), .c (.slice none 0 0)]]⟩] ++ insH s.2.2.1) (fun s => s.1 ≤ N0 ∧ (0 ≤ s.2.1 ∧ s.2.1 ≤ 30 * s.1) ∧ s.2.2.1.length = s.1 ∧ goIns (N0 - s.1) s.1 s.2.1 s.2.2.1 s.2.2.2 = (I1, I2)) (fun s => N0 - s.1) (0, 0, [], l8) ⟨Nat.zero_le _, ⟨Int.le_refl 0, by show (0 : Int) ≤ 30 * 0; decide⟩, rfl, hI⟩ (Weaks.sel (by repeat (first | exact trivial | refine ⟨.rfl, ?_⟩ | refine ⟨.any, ?_⟩)) rfl) fun w hi K2 hC => ?_
  obtain ⟨i, at_, acc, l⟩ := w
  obtain ⟨hi, hat, hal, hst⟩ := hi
  dsimp only at hi hat hal hst hC ⊢
  by_cases hil : i < N0
  · have hx1 := next_ok l 30 (by decide)
    have hx2 := next_ok (srest l 30) 9 (by decide)
    have r1 := sval_range l 30 (by decide)
    have r2 := sval_range (srest l 30) 9 (by decide)
    rw [show N0 - i = N0 - (i + 1) + 1 by omega] at hst
    unfold goIns mkIn mkInR at hst
    generalize srest (srest l 30) 9 = l3 at *
    obtain ⟨m, hm⟩ : ∃ m : Nat, sval (srest l 30) 9 = (m : Int) := ⟨(sval (srest l 30) 9).toNat, by omega⟩
    rw [hm] at hx2 r2 hst
    rw [Int.toNat_natCast] at hst
    have hcy := mkCycles_ok (rdN m) (rdN_le m) l3
    generalize sval l 30 = v at *
    generalize srest l 30 = l2 at *
    generalize mkCycles (rdN m) l3 = cy at *
    obtain ⟨cy, l4⟩ := cy
    dsimp only at hst hcy
    have hcat : binV .add (.string ⟨#[105, 110, 45]⟩) (.string (Utf8.encode (97 + (i : Int)))) = some (.string (nameI i)) := cat_ok _ (by decide) _ (by omega)
    have wi : IntKind.wrap .i32 (97 + (i : Int)) = 97 + i := wrap_i32 _ (by omega)
    have e9 : 0 + (m : Int).toNat = m := by omega
    have h9 := rows9 m (by omega)
    have hr2 := rdN_le m
    cases acc with
    | nil =>
      repeat' (first
      | rw [wi]
      | (show WOpsT _ (⟨_, .bin .add (.k (.string _)) _, none⟩ :: _) _ _ _ _; refine T.bin rfl rfl hcat ?_)
      | rw [e9]
      | (show WOpsT _ (⟨_, .ld _ _, none⟩ :: _) _ _ _ _; refine T.ld rfl rfl rfl h9 rfl ?_)
      | (show WOpsT _ (⟨_, .app _ _ _ _, none⟩ :: _) _ _ _ _; refine T.appN rfl rfl ⟨by decide, by decide⟩ (by simp) (by simp) ?_)
      | (show WOpsT _ (⟨_, .st _ _ _, none⟩ :: _) _ _ _ _; refine T.st rfl rfl (vcells_psl rfl rfl) ⟨rfl, rfl⟩ rfl (Nat.le_of_ble_eq_true rfl) ?_)
      | refine N.regS fun K hK => ?_
      | refine N.dregS fun K hK => ?_
      | refine N.regN fun K hK => ?_
      | refine N.dregN fun K hK => ?_
      | simp only [T.mv, sm, AO.ev, put, lk, enter, reduceIte, Nat.reduceEqDiff, Nat.reduceAdd, Nat.reduceMul, Nat.reduceSub, Int.reduceNeg, Int.reduceToNat, upto, renB, setAll]
      | (refine T.nil ?_; (first | refine hK _ _ _ (by rfl) ?_ | refine hK _ _ _ ?_); (try simp only [keep, List.map, lk, reduceIte, Nat.reduceEqDiff, enter]); clear hK K)
      | (show WOpsT _ (⟨_, .call _ _, none⟩ :: _) _ _ _ _; first | refine T.call1 1 e56 rfl rfl (hx1) ?_ | refine T.call1 1 e56 rfl rfl (hx2) ?_ | refine T.call1 1 e112 rfl rfl (hcy) ?_)
      | (show WOpsT _ (⟨_, .ld _ _, none⟩ :: _) _ _ _ _; first | refine L.ld ?_ | refine L.ldd ?_ | refine L.ldn ?_ | refine L.lddn ?_)
      | (show WOpsT _ (⟨_, .idx _ _ _ _, none⟩ :: _) _ _ _ _; first | refine L.idx ?_ | refine L.idxs ?_)
      | (show WOpsT _ (⟨_, .bin _ _ _, none⟩ :: _) _ _ _ _; first | refine L.add ?_ | refine L.sub ?_ | refine L.bin ?_)
      | (show AKW _ _ _ _ _ _ _; first | refine N.now ?_)
      | (show AK _ _ (.cond _ _ _) _ _ _ _; first | refine N.c1 ?_ | refine N.c2 ?_ | refine N.c3 ?_ | refine N.c4 ?_ | refine N.condD rfl (fun hcd => ?_) (fun hcd => ?_) | refine N.condB rfl (fun hcd => ?_) (fun hcd => ?_) | refine N.condU rfl ?_ ?_)
      | (show AK _ _ _ _ _ _ _; first | refine N.seq ?_ | refine N.block ?_ | refine N.skip ?_ | refine N.exit ?_ | refine N.ret ?_)
      | (show RK _ _ _ _ _ _ _; simp only [rk, rk0, reduceIte, Nat.reduceEqDiff])
      | (show WOpsT _ _ _ _ _ _; first | refine T.i2s rfl ?_ | refine T.cvt rfl ?_ | refine L.fad ?_ | refine L.fadd ?_ | refine L.st ?_ | refine L.new ?_ | refine L.zero ?_ | refine L.build ?_ | refine L.bsl ?_)
      | refine hQ _ _ _ rfl ?_
      | refine hQN _ _ _ rfl ?_)
      refine hC _ _ (i + 1, at_ + (1 + v), [⟨at_ + (1 + v) - 1, nameI i, m, cy⟩], l4) ⟨by dsimp only; omega, by dsimp only; omega, by dsimp only at hal ⊢; rw [← hal]; rfl, hst⟩ (by dsimp only; omega) ?_
      exact Weaks.gc [0, 1, 2, 5] 1 rfl (by repeat (first | exact trivial | refine ⟨.rfl, ?_⟩ | refine ⟨.any, ?_⟩)) rfl
    | cons a acc =>
      have hln : (a :: acc).length = i := hal
      generalize hac : a :: acc = ac at *
      have hV : insV ac = .psl 3 ac.length 0 ac.length := by rw [← hac]; rfl
      have hH : insH ac = [⟨ac.length, 4, ac.map inC⟩] := by rw [← hac]; rfl
      have hV2 : ∀ x, insV (ac ++ [x]) = .psl 3 (ac.length + 1) 0 (ac.length + 1) := fun x => by rw [← hac]; show V.psl 3 (a :: (acc ++ [x])).length 0 (a :: (acc ++ [x])).length = _; simp
      have hH2 : ∀ x, insH (ac ++ [x]) = [⟨ac.length + 1, 4, ac.map inC ++ [inC x]⟩] := fun x => by rw [← hac]; show [(⟨(a :: (acc ++ [x])).length, 4, (a :: (acc ++ [x])).map inC⟩ : Blk)] = _; simp
      clear hac
      rw [hV, hH]
      repeat' (first
      | rw [wi]
      | (show WOpsT _ (⟨_, .bin .add (.k (.string _)) _, none⟩ :: _) _ _ _ _; refine T.bin rfl rfl hcat ?_)
      | rw [e9]
      | (show WOpsT _ (⟨_, .ld _ _, none⟩ :: _) _ _ _ _; refine T.ld rfl rfl rfl h9 rfl ?_)
      | (show WOpsT _ (⟨_, .app _ _ _ _, none⟩ :: _) _ _ _ _; refine T.app rfl rfl rfl ⟨by decide, by decide⟩ ⟨rfl, rfl, by rw [Nat.zero_add, List.length_map], by simp; omega⟩ ?_)
      | (show WOpsT _ (⟨_, .st _ _ _, none⟩ :: _) _ _ _ _; refine T.st rfl rfl (vcells_psl rfl rfl) ⟨rfl, rfl⟩ rfl (Nat.le_of_ble_eq_true rfl) ?_)
      | refine N.regS fun K hK => ?_
      | refine N.dregS fun K hK => ?_
      | refine N.regN fun K hK => ?_
      | refine N.dregN fun K hK => ?_
      | simp only [T.mv, sm, AO.ev, put, lk, enter, reduceIte, Nat.reduceEqDiff, Nat.reduceAdd, Nat.reduceMul, Nat.reduceSub, Int.reduceNeg, Int.reduceToNat, upto, renB, setAll]
      | (refine T.nil ?_; (first | refine hK _ _ _ (by rfl) ?_ | refine hK _ _ _ ?_); (try simp only [keep, List.map, lk, reduceIte, Nat.reduceEqDiff, enter]); clear hK K)
      | (show WOpsT _ (⟨_, .call _ _, none⟩ :: _) _ _ _ _; first | refine T.call1 1 e56 rfl rfl (hx1) ?_ | refine T.call1 1 e56 rfl rfl (hx2) ?_ | refine T.call1 1 e112 rfl rfl (hcy) ?_)
      | (show WOpsT _ (⟨_, .ld _ _, none⟩ :: _) _ _ _ _; first | refine L.ld ?_ | refine L.ldd ?_ | refine L.ldn ?_ | refine L.lddn ?_)
      | (show WOpsT _ (⟨_, .idx _ _ _ _, none⟩ :: _) _ _ _ _; first | refine L.idx ?_ | refine L.idxs ?_)
      | (show WOpsT _ (⟨_, .bin _ _ _, none⟩ :: _) _ _ _ _; first | refine L.add ?_ | refine L.sub ?_ | refine L.bin ?_)
      | (show AKW _ _ _ _ _ _ _; first | refine N.now ?_)
      | (show AK _ _ (.cond _ _ _) _ _ _ _; first | refine N.c1 ?_ | refine N.c2 ?_ | refine N.c3 ?_ | refine N.c4 ?_ | refine N.condD rfl (fun hcd => ?_) (fun hcd => ?_) | refine N.condB rfl (fun hcd => ?_) (fun hcd => ?_) | refine N.condU rfl ?_ ?_)
      | (show AK _ _ _ _ _ _ _; first | refine N.seq ?_ | refine N.block ?_ | refine N.skip ?_ | refine N.exit ?_ | refine N.ret ?_)
      | (show RK _ _ _ _ _ _ _; simp only [rk, rk0, reduceIte, Nat.reduceEqDiff])
      | (show WOpsT _ _ _ _ _ _; first | refine T.i2s rfl ?_ | refine T.cvt rfl ?_ | refine L.fad ?_ | refine L.fadd ?_ | refine L.st ?_ | refine L.new ?_ | refine L.zero ?_ | refine L.build ?_ | refine L.bsl ?_)
      | refine hQ _ _ _ rfl ?_
      | refine hQN _ _ _ rfl ?_)
      refine hC _ _ (i + 1, at_ + (1 + v), ac ++ [⟨at_ + (1 + v) - 1, nameI i, m, cy⟩], l4) ⟨by dsimp only; omega, by dsimp only; omega, by dsimp only; rw [List.length_append, hln]; rfl, hst⟩ (by dsimp only; omega) ?_
      dsimp only
      rw [hV2, hH2]
      exact Weaks.gc [0, 1, 2, 3] 1 rfl (by repeat (first | exact trivial | refine ⟨.rfl, ?_⟩ | refine ⟨.any, ?_⟩)) (by show [_, _, _, _] = [_, _, _, outB _ _ _ ⟨ac.length + 1, 4, ac.map inC ++ [inC ⟨at_ + (1 + v) - 1, nameI i, m, cy⟩]⟩]; rw [outB_flatA]; rfl)
  · obtain rfl : i = N0 := by omega
    rw [Nat.sub_self] at hst
    unfold goIns at hst
    obtain ⟨rfl, rfl⟩ := Prod.mk.inj hst
    clear hC hst hI
    cases acc with
    | nil =>
      exact absurd hal (by show ¬ (0 = i); omega)
    | cons a acc =>
      generalize hac : a :: acc = ac at *
      have hV : insV ac = .psl 3 ac.length 0 ac.length := by rw [← hac]; rfl
      have hH : insH ac = [⟨ac.length, 4, ac.map inC⟩] := by rw [← hac]; rfl
      clear hac
      rw [hV, hH]
      repeat' (first
      | refine N.regS fun K hK => ?_
      | refine N.dregS fun K hK => ?_
      | refine N.regN fun K hK => ?_
      | refine N.dregN fun K hK => ?_
      | simp only [T.mv, sm, AO.ev, put, lk, enter, reduceIte, Nat.reduceEqDiff, Nat.reduceAdd, Nat.reduceMul, Nat.reduceSub, Int.reduceNeg, Int.reduceToNat, upto, renB, setAll]
      | (refine T.nil ?_; (first | refine hK _ _ _ (by rfl) ?_ | refine hK _ _ _ ?_); (try simp only [keep, List.map, lk, reduceIte, Nat.reduceEqDiff, enter]); clear hK K)
      | (show WOpsT _ (⟨_, .call _ _, none⟩ :: _) _ _ _ _; first | refine T.call1 1 e112 rfl rfl (hc1) ?_ | refine T.call1 1 e112 rfl rfl (hc2) ?_ | refine T.call1 1 e112 rfl rfl (hc3) ?_)
      | (show WOpsT _ (⟨_, .ld _ _, none⟩ :: _) _ _ _ _; first | refine L.ld ?_ | refine L.ldd ?_ | refine L.ldn ?_ | refine L.lddn ?_)
      | (show WOpsT _ (⟨_, .idx _ _ _ _, none⟩ :: _) _ _ _ _; first | refine L.idx ?_ | refine L.idxs ?_)
      | (show WOpsT _ (⟨_, .bin _ _ _, none⟩ :: _) _ _ _ _; first | refine L.add ?_ | refine L.sub ?_ | refine L.bin ?_)
      | (show AKW _ _ _ _ _ _ _; first | refine N.now ?_)
      | (show AK _ _ (.cond _ _ _) _ _ _ _; first | refine N.c1 ?_ | refine N.c2 ?_ | refine N.c3 ?_ | refine N.c4 ?_ | refine N.condD rfl (fun hcd => ?_) (fun hcd => ?_) | refine N.condB rfl (fun hcd => ?_) (fun hcd => ?_) | refine N.condU rfl ?_ ?_)
      | (show AK _ _ _ _ _ _ _; first | refine N.seq ?_ | refine N.block ?_ | refine N.skip ?_ | refine N.exit ?_ | refine N.ret ?_)
      | (show RK _ _ _ _ _ _ _; simp only [rk, rk0, reduceIte, Nat.reduceEqDiff])
      | (show WOpsT _ _ _ _ _ _; first | refine T.i2s rfl ?_ | refine T.cvt rfl ?_ | refine L.fad ?_ | refine L.fadd ?_ | refine L.st ?_ | refine L.new ?_ | refine L.zero ?_ | refine L.build ?_ | refine L.bsl ?_)
      | refine hQ _ _ _ rfl ?_
      | refine hQN _ _ _ rfl ?_)
      exact WS.gc [] 1 rfl rfl (by show Sub (.agg [.c (.string nm), out _ [] 1 (.psl 3 ac.length 0 ac.length), .sl 4 _, .sl 4 _, .sl 4 _]) _; rw [out_rowsK (f := inC) rfl rfl (Nat.le_refl _)]; exact .rfl)
end Go.Proofs.Ytjmmompbmjhkpaa.Calc

namespace Go.Proofs.Ytjmmompbmjhkpaa.Calc
open Go Code
set_option linter.unusedSimpArgs false
set_option linter.unusedVariables false
set_option maxRecDepth 20000
set_option maxHeartbeats 4000000
attribute [local irreducible] WOpsT AW AK RK AKW UK UC
theorem byte_ind {p : Int → Prop} [DecidablePred p] (h : (List.range 256).all (fun n => decide (p (n : Int))) = true) (v : Int) (hv : 0 ≤ v ∧ v < 256) : p v := by
  have := List.all_eq_true.1 h v.toNat (List.mem_range.2 (by omega))
  have h2 := of_decide_eq_true this
  rwa [show ((v.toNat : Nat) : Int) = v by omega] at h2
theorem width8 : FnE Try.prog 92 [I 8] [] (I 8) [] := width_ok 8
theorem add8 (a b c : Int) (ha : 0 ≤ a ∧ a < 256) (hb : 0 ≤ b ∧ b < 256) (hc : c = 0 ∨ c = 1) : FnE Try.prog 157 [I a, I b, I c, I 8] [] (.tup [I ((a + b + c) % 256), I ((a + b + c) / 256)]) [] := by
  refine N.fn Try.func157 k157 lb q157 fun Q hQ hQN => ?_
  rw [c157]
  have e1 : c % 2 = c := by omega
  have e2 : (a + b + c) / 2 ^ min 8 IntKind.i64.bits = (a + b + c) / 256 := rfl
  repeat' (first
  | rw [bits1]
  | rw [e1]
  | rw [e2]
  | refine N.regS fun K hK => ?_
  | refine N.dregS fun K hK => ?_
  | refine N.regN fun K hK => ?_
  | refine N.dregN fun K hK => ?_
  | simp only [T.mv, sm, AO.ev, put, lk, enter, reduceIte, Nat.reduceEqDiff, Nat.reduceAdd, Nat.reduceMul, Nat.reduceSub, Int.reduceNeg, Int.reduceToNat, upto, renB, setAll]
  | (refine T.nil ?_; (first | refine hK _ _ _ (by rfl) ?_ | refine hK _ _ _ ?_); (try simp only [keep, List.map, lk, reduceIte, Nat.reduceEqDiff, enter]); clear hK K)
  | (show WOpsT _ (⟨_, .call _ _, none⟩ :: _) _ _ _ _; first | refine T.call0 e92 rfl (width8) ?_ | refine T.call0 e35 rfl (low_in a 8 8 rfl (by decide) ha) ?_ | refine T.call0 e35 rfl (low_in b 8 8 rfl (by decide) hb) ?_ | refine T.call0 e35 rfl (low_lit (a + b + c) 8 8 rfl (by decide)) ?_)
  | (show WOpsT _ (⟨_, .bin _ _ _, none⟩ :: _) _ _ _ _; first | refine L.add ?_ | refine T.shr rfl rfl (by omega) ?_ | refine L.bin ?_)
  | (show AKW _ _ _ _ _ _ _; first | refine N.now ?_)
  | (show AK _ _ _ _ _ _ _; first | refine N.seq ?_ | refine N.ret ?_)
  | (show RK _ _ _ _ _ _ _; simp only [rk, rk0, reduceIte, Nat.reduceEqDiff])
  | refine hQ _ _ _ rfl ?_
  | refine hQN _ _ _ rfl ?_)
  exact WS.tup2 rfl rfl rfl
theorem sub8 (a b c : Int) (ha : 0 ≤ a ∧ a < 256) (hb : 0 ≤ b ∧ b < 256) (hc : c = 0 ∨ c = 1) : FnE Try.prog 160 [I a, I b, I c, I 8] [] (.tup [I ((a - b - c) % 256), I (if a - b - c < 0 then 1 else 0)]) [] := by
  refine N.fn Try.func160 k160 lb q160 fun Q hQ hQN => ?_
  rw [c160]
  have e1 : c % 2 = c := by omega
  have e2 : IntKind.wrap .i64 (1 * 2 ^ min 8 IntKind.i64.bits) = 256 := rfl
  by_cases h : a - b - c < 0
  · rw [if_pos h] at hQ hQN
    repeat' (first
    | rw [bits1]
    | rw [e1]
    | rw [e2]
    | refine N.regS fun K hK => ?_
    | refine N.dregS fun K hK => ?_
    | refine N.regN fun K hK => ?_
    | refine N.dregN fun K hK => ?_
    | simp only [T.mv, sm, AO.ev, put, lk, enter, reduceIte, Nat.reduceEqDiff, Nat.reduceAdd, Nat.reduceMul, Nat.reduceSub, Int.reduceNeg, Int.reduceToNat, upto, renB, setAll]
    | (refine T.nil ?_; (first | refine hK _ _ _ (by rfl) ?_ | refine hK _ _ _ ?_); (try simp only [keep, List.map, lk, reduceIte, Nat.reduceEqDiff, enter]); clear hK K)
    | (show WOpsT _ (⟨_, .call _ _, none⟩ :: _) _ _ _ _; first | refine T.call0 e92 rfl (width8) ?_ | refine T.call0 e35 rfl (low_in a 8 8 rfl (by decide) ha) ?_ | refine T.call0 e35 rfl (low_in b 8 8 rfl (by decide) hb) ?_)
    | (show WOpsT _ (⟨_, .bin _ _ _, none⟩ :: _) _ _ _ _; first | refine L.add ?_ | refine L.sub ?_ | refine T.shl rfl rfl (by omega) ?_ | refine L.bin ?_)
    | (show AKW _ _ _ _ _ _ _; first | refine N.now ?_)
    | (show AK _ _ (.cond _ _ _) _ _ _ _; first | refine N.c1 ?_ | refine N.c2 ?_ | refine N.c3 ?_ | refine N.c4 ?_ | refine N.condD rfl (fun hcd => ?_) (fun hcd => ?_) | refine N.condB rfl (fun hcd => ?_) (fun hcd => ?_) | refine N.condU rfl ?_ ?_)
    | (show AK _ _ _ _ _ _ _; first | refine N.seq ?_ | refine N.skip ?_ | refine N.ret ?_)
    | (show RK _ _ _ _ _ _ _; simp only [rk, rk0, reduceIte, Nat.reduceEqDiff])
    | refine hQ _ _ _ rfl ?_
    | refine hQN _ _ _ rfl ?_)
    exact WS.tup2 rfl (by congr 1; omega) rfl
  · rw [if_neg h] at hQ hQN
    repeat' (first
    | rw [bits1]
    | rw [e1]
    | rw [e2]
    | refine N.regS fun K hK => ?_
    | refine N.dregS fun K hK => ?_
    | refine N.regN fun K hK => ?_
    | refine N.dregN fun K hK => ?_
    | simp only [T.mv, sm, AO.ev, put, lk, enter, reduceIte, Nat.reduceEqDiff, Nat.reduceAdd, Nat.reduceMul, Nat.reduceSub, Int.reduceNeg, Int.reduceToNat, upto, renB, setAll]
    | (refine T.nil ?_; (first | refine hK _ _ _ (by rfl) ?_ | refine hK _ _ _ ?_); (try simp only [keep, List.map, lk, reduceIte, Nat.reduceEqDiff, enter]); clear hK K)
    | (show WOpsT _ (⟨_, .call _ _, none⟩ :: _) _ _ _ _; first | refine T.call0 e92 rfl (width8) ?_ | refine T.call0 e35 rfl (low_in a 8 8 rfl (by decide) ha) ?_ | refine T.call0 e35 rfl (low_in b 8 8 rfl (by decide) hb) ?_)
    | (show WOpsT _ (⟨_, .bin _ _ _, none⟩ :: _) _ _ _ _; first | refine L.add ?_ | refine L.sub ?_ | refine T.shl rfl rfl (by omega) ?_ | refine L.bin ?_)
    | (show AKW _ _ _ _ _ _ _; first | refine N.now ?_)
    | (show AK _ _ (.cond _ _ _) _ _ _ _; first | refine N.c1 ?_ | refine N.c2 ?_ | refine N.c3 ?_ | refine N.c4 ?_ | refine N.condD rfl (fun hcd => ?_) (fun hcd => ?_) | refine N.condB rfl (fun hcd => ?_) (fun hcd => ?_) | refine N.condU rfl ?_ ?_)
    | (show AK _ _ _ _ _ _ _; first | refine N.seq ?_ | refine N.skip ?_ | refine N.ret ?_)
    | (show RK _ _ _ _ _ _ _; simp only [rk, rk0, reduceIte, Nat.reduceEqDiff])
    | refine hQ _ _ _ rfl ?_
    | refine hQN _ _ _ rfl ?_)
    exact WS.tup2 rfl (by congr 1; omega) rfl
theorem or_rol (v c : Int) (hv : 0 ≤ v ∧ v < 256) (hc : c = 0 ∨ c = 1) : bits .or .i64 (IntKind.wrap .i64 (v * 2 ^ min 1 IntKind.i64.bits)) c = 2 * v + c := by
  rcases hc with rfl | rfl
  · exact byte_ind (p := fun v => bits .or .i64 (IntKind.wrap .i64 (v * 2 ^ min 1 IntKind.i64.bits)) 0 = 2 * v + 0) (by decide +kernel) v hv
  · exact byte_ind (p := fun v => bits .or .i64 (IntKind.wrap .i64 (v * 2 ^ min 1 IntKind.i64.bits)) 1 = 2 * v + 1) (by decide +kernel) v hv
theorem or_ror (v c : Int) (hv : 0 ≤ v ∧ v < 256) (hc : c = 0 ∨ c = 1) : bits .or .i64 v (IntKind.wrap .i64 (c * 2 ^ min 8 IntKind.i64.bits)) = v + c * 256 := by
  rcases hc with rfl | rfl
  · exact byte_ind (p := fun v => bits .or .i64 v (IntKind.wrap .i64 (0 * 2 ^ min 8 IntKind.i64.bits)) = v + 0 * 256) (by decide +kernel) v hv
  · exact byte_ind (p := fun v => bits .or .i64 v (IntKind.wrap .i64 (1 * 2 ^ min 8 IntKind.i64.bits)) = v + 1 * 256) (by decide +kernel) v hv
theorem rol8 (v c : Int) (hc : c = 0 ∨ c = 1) : FnE Try.prog 161 [I v, I c, I 8] [] (.tup [I ((2 * (v % 256) + c) % 256), I ((2 * (v % 256) + c) / 256)]) [] := by
  refine N.fn Try.func161 k161 lb q161 fun Q hQ hQN => ?_
  rw [c161]
  have e1 : c % 2 = c := by omega
  have hl := low_lit v 8 8 rfl (by decide)
  rw [show v % 2 ^ 8 = v % 256 from rfl] at hl
  obtain ⟨u, hu⟩ : ∃ u, v % 256 = u := ⟨_, rfl⟩
  rw [hu] at hl hQ hQN
  have hv : 0 ≤ u ∧ u < 256 := by omega
  have e2 : (2 * u + c) / 2 ^ min 8 IntKind.i64.bits = (2 * u + c) / 256 := rfl
  repeat' (first
  | rw [bits1]
  | rw [e1]
  | rw [or_rol u c hv hc]
  | rw [e2]
  | refine N.regS fun K hK => ?_
  | refine N.dregS fun K hK => ?_
  | refine N.regN fun K hK => ?_
  | refine N.dregN fun K hK => ?_
  | simp only [T.mv, sm, AO.ev, put, lk, enter, reduceIte, Nat.reduceEqDiff, Nat.reduceAdd, Nat.reduceMul, Nat.reduceSub, Int.reduceNeg, Int.reduceToNat, upto, renB, setAll]
  | (refine T.nil ?_; (first | refine hK _ _ _ (by rfl) ?_ | refine hK _ _ _ ?_); (try simp only [keep, List.map, lk, reduceIte, Nat.reduceEqDiff, enter]); clear hK K)
  | (show WOpsT _ (⟨_, .call _ _, none⟩ :: _) _ _ _ _; first | refine T.call0 e92 rfl (width8) ?_ | refine T.call0 e35 rfl (hl) ?_ | refine T.call0 e35 rfl (low_lit (2 * u + c) 8 8 rfl (by decide)) ?_)
  | (show WOpsT _ (⟨_, .bin _ _ _, none⟩ :: _) _ _ _ _; first | refine T.shl rfl rfl (by omega) ?_ | refine T.shr rfl rfl (by omega) ?_ | refine L.bin ?_)
  | (show AKW _ _ _ _ _ _ _; first | refine N.now ?_)
  | (show AK _ _ _ _ _ _ _; first | refine N.seq ?_ | refine N.ret ?_)
  | (show RK _ _ _ _ _ _ _; simp only [rk, rk0, reduceIte, Nat.reduceEqDiff])
  | refine hQ _ _ _ rfl ?_
  | refine hQN _ _ _ rfl ?_)
  exact WS.tup2 rfl rfl rfl
theorem ror8 (v c : Int) (hc : c = 0 ∨ c = 1) : FnE Try.prog 162 [I v, I c, I 8] [] (.tup [I ((v % 256 + c * 256) / 2), I ((v % 256 + c * 256) % 2)]) [] := by
  refine N.fn Try.func162 k162 lb q162 fun Q hQ hQN => ?_
  rw [c162]
  have e1 : c % 2 = c := by omega
  have hl := low_lit v 8 8 rfl (by decide)
  rw [show v % 2 ^ 8 = v % 256 from rfl] at hl
  obtain ⟨u, hu⟩ : ∃ u, v % 256 = u := ⟨_, rfl⟩
  rw [hu] at hl hQ hQN
  have hv : 0 ≤ u ∧ u < 256 := by omega
  have e2 : (u + c * 256) / 2 ^ min 1 IntKind.i64.bits = (u + c * 256) / 2 := rfl
  repeat' (first
  | rw [bits1]
  | rw [e1]
  | rw [or_ror u c hv hc]
  | rw [e2]
  | refine N.regS fun K hK => ?_
  | refine N.dregS fun K hK => ?_
  | refine N.regN fun K hK => ?_
  | refine N.dregN fun K hK => ?_
  | simp only [T.mv, sm, AO.ev, put, lk, enter, reduceIte, Nat.reduceEqDiff, Nat.reduceAdd, Nat.reduceMul, Nat.reduceSub, Int.reduceNeg, Int.reduceToNat, upto, renB, setAll]
  | (refine T.nil ?_; (first | refine hK _ _ _ (by rfl) ?_ | refine hK _ _ _ ?_); (try simp only [keep, List.map, lk, reduceIte, Nat.reduceEqDiff, enter]); clear hK K)
  | (show WOpsT _ (⟨_, .call _ _, none⟩ :: _) _ _ _ _; first | refine T.call0 e92 rfl (width8) ?_ | refine T.call0 e35 rfl (hl) ?_)
  | (show WOpsT _ (⟨_, .bin _ _ _, none⟩ :: _) _ _ _ _; first | refine T.shl rfl rfl (by omega) ?_ | refine T.shr rfl rfl (by omega) ?_ | refine L.bin ?_)
  | (show AKW _ _ _ _ _ _ _; first | refine N.now ?_)
  | (show AK _ _ _ _ _ _ _; first | refine N.seq ?_ | refine N.ret ?_)
  | (show RK _ _ _ _ _ _ _; simp only [rk, rk0, reduceIte, Nat.reduceEqDiff])
  | refine hQ _ _ _ rfl ?_
  | refine hQN _ _ _ rfl ?_)
  exact WS.tup2 rfl rfl rfl
def sgn8 (v : Int) : Int := if 128 ≤ v % 256 then v % 256 - 256 else v % 256
theorem signed8 (v : Int) : FnE Try.prog 111 [I v, I 8] [] (I (sgn8 v)) [] := by
  refine N.fn Try.func111 k111 lb q111 fun Q hQ hQN => ?_
  rw [c111]
  have e1 : v % 2 ^ 8 / 2 ^ min 7 IntKind.i64.bits = v % 256 / 128 := rfl
  have e2 : IntKind.wrap .i64 (1 * 2 ^ min 8 IntKind.i64.bits) = 256 := rfl
  repeat' (first
  | rw [e1]
  | rw [e2]
  | rw [show (8 : Int) - 1 = 7 by decide]
  | refine N.regS fun K hK => ?_
  | refine N.dregS fun K hK => ?_
  | refine N.regN fun K hK => ?_
  | refine N.dregN fun K hK => ?_
  | simp only [T.mv, sm, AO.ev, put, lk, enter, reduceIte, Nat.reduceEqDiff, Nat.reduceAdd, Nat.reduceMul, Nat.reduceSub, Int.reduceNeg, Int.reduceToNat, upto, renB, setAll]
  | (refine T.nil ?_; (first | refine hK _ _ _ (by rfl) ?_ | refine hK _ _ _ ?_); (try simp only [keep, List.map, lk, reduceIte, Nat.reduceEqDiff, enter]); clear hK K)
  | (show WOpsT _ (⟨_, .call _ _, none⟩ :: _) _ _ _ _; first | refine T.call0 e92 rfl (width8) ?_ | refine T.call0 e35 rfl (low_lit v 8 8 rfl (by decide)) ?_)
  | (show WOpsT _ (⟨_, .bin _ _ _, none⟩ :: _) _ _ _ _; first | refine L.sub ?_ | refine T.shl rfl rfl (by omega) ?_ | refine T.shr rfl rfl (by omega) ?_ | refine L.bin ?_)
  | (show WOpsT _ (⟨_, _, some (_, true)⟩ :: _) _ _ _ _; first | refine L.goT ?_ | refine L.paT ?_ | refine L.go ?_ | refine L.pass ?_ | refine T.pU rfl ?_ | refine T.gT rfl (fun hgd => ?_) (fun hgd => ?_))
  | (show WOpsT _ (⟨_, .pick _ _ _, none⟩ :: _) _ _ _ _; first | refine L.pkT ?_ | refine L.pkF ?_ | refine L.pickT ?_ | refine L.pickF ?_ | refine L.pickB ?_ | refine T.pkD rfl (fun hgd => ?_) (fun hgd => ?_))
  | (show AKW _ _ _ _ _ _ _; first | refine N.now ?_)
  | (show AK _ _ (.cond _ _ _) _ _ _ _; first | refine N.c1 ?_ | refine N.c2 ?_ | refine N.c3 ?_ | refine N.c4 ?_ | refine N.condD rfl (fun hcd => ?_) (fun hcd => ?_) | refine N.condB rfl (fun hcd => ?_) (fun hcd => ?_) | refine N.condU rfl ?_ ?_)
  | (show AK _ _ _ _ _ _ _; first | refine N.seq ?_ | refine N.skip ?_ | refine N.ret ?_)
  | (show RK _ _ _ _ _ _ _; simp only [rk, rk0, reduceIte, Nat.reduceEqDiff])
  | refine hQ _ _ _ rfl ?_
  | refine hQN _ _ _ rfl ?_)
  all_goals (refine WS.c rfl ?_; unfold sgn8; congr 1; omega)
def fl (p m : Int) (on : Bool) : Int := if on then bits .or .i64 (bits .andNot .i64 p m) m else bits .andNot .i64 p m
end Go.Proofs.Ytjmmompbmjhkpaa.Calc

namespace Go.Proofs.Ytjmmompbmjhkpaa.Calc
open Go Code
set_option linter.unusedSimpArgs false
set_option linter.unusedVariables false
set_option maxRecDepth 20000
set_option maxHeartbeats 8000000
attribute [local irreducible] WOpsT AW AK RK AKW UK UC
def ri (r : Nat → Int) : List V := [I (r 0), I (r 1), I (r 2), I (r 3), I (r 4), I (r 5), I (r 6), I (r 7), I (r 8)]
def upd (r : Nat → Int) (k : Nat) (v : Int) : Nat → Int := fun i => if i = k then v else r i
theorem ri_get (r : Nat → Int) (k : Nat) (hk : k < 9) : (ri r)[k]? = some (I (r k)) := by
  match k, hk with
  | 0, _ => rfl
  | 1, _ => rfl
  | 2, _ => rfl
  | 3, _ => rfl
  | 4, _ => rfl
  | 5, _ => rfl
  | 6, _ => rfl
  | 7, _ => rfl
  | 8, _ => rfl
theorem ri_set (r : Nat → Int) (k : Nat) (v : Int) (hk : k < 9) : (ri r).set k (I v) = ri (upd r k v) := by
  match k, hk with
  | 0, _ => rfl
  | 1, _ => rfl
  | 2, _ => rfl
  | 3, _ => rfl
  | 4, _ => rfl
  | 5, _ => rfl
  | 6, _ => rfl
  | 7, _ => rfl
  | 8, _ => rfl
theorem ri_spl (r : Nat → Int) (k : Nat) (v : Int) (hk : k < 9) : spl (ri r) k [.c (.int .i64 v)] = ri (upd r k v) := ri_set r k v hk
theorem ri_eq {r q : Nat → Int} (h : ∀ i, i < 9 → r i = q i) : ri r = ri q := by
  unfold ri
  rw [h 0 (by decide), h 1 (by decide), h 2 (by decide), h 3 (by decide), h 4 (by decide), h 5 (by decide), h 6 (by decide), h 7 (by decide), h 8 (by decide)]
theorem Sub.ri {r q : Nat → Int} (h : ∀ i, i < 9 → r i = q i) : Sub (.agg (ri r)) (.agg (ri q)) := by rw [ri_eq h]; exact .rfl
theorem ri_ren (r : Nat → Int) (ks : List Nat) : ren ks (.agg (ri r)) = .agg (ri r) := rfl
theorem ri_spl0 (r q : Nat → Int) : spl (ri r) 0 (ri q) = ri q := rfl
theorem ri_splz (q : Nat → Int) : spl [I 0, I 0, I 0, I 0, I 0, I 0, I 0, I 0, I 0] 0 (ri q) = ri q := rfl
def wide (i : Int) : Bool := decide (i = 7 ∨ i = 8)
theorem wide_ok (i : Int) : FnE Try.prog 104 [I i] [] (.c (.bool (wide i))) [] := by
  refine N.fn Try.func104 k104 lb q104 fun Q hQ hQN => ?_
  rw [c104]
  repeat' (first
  | refine N.regS fun K hK => ?_
  | refine N.dregS fun K hK => ?_
  | refine N.regN fun K hK => ?_
  | refine N.dregN fun K hK => ?_
  | simp only [T.mv, sm, AO.ev, put, lk, enter, reduceIte, Nat.reduceEqDiff, Nat.reduceAdd, Nat.reduceMul, Nat.reduceSub, Int.reduceNeg, Int.reduceToNat, upto, renB, setAll]
  | (refine T.nil ?_; (first | refine hK _ _ _ (by rfl) ?_ | refine hK _ _ _ ?_); (try simp only [keep, List.map, lk, reduceIte, Nat.reduceEqDiff, enter]); clear hK K)
  | (show WOpsT _ (⟨_, .bin _ _ _, none⟩ :: _) _ _ _ _; first | refine L.bin ?_)
  | (show WOpsT _ (⟨_, _, some (_, false)⟩ :: _) _ _ _ _; first | refine L.goF ?_ | refine L.paF ?_ | refine L.go ?_ | refine L.pass ?_ | refine T.pU rfl ?_ | refine T.gF rfl (fun hgd => ?_) (fun hgd => ?_))
  | (show WOpsT _ (⟨_, .pick _ _ _, none⟩ :: _) _ _ _ _; first | refine L.pkT ?_ | refine L.pkF ?_ | refine L.pickT ?_ | refine L.pickF ?_ | refine L.pickB ?_ | refine T.pkD rfl (fun hgd => ?_) (fun hgd => ?_))
  | (show AKW _ _ _ _ _ _ _; first | refine N.now ?_)
  | (show AK _ _ _ _ _ _ _; first | refine N.seq ?_ | refine N.ret ?_)
  | (show RK _ _ _ _ _ _ _; simp only [rk, rk0, reduceIte, Nat.reduceEqDiff])
  | refine hQ _ _ _ rfl ?_
  | refine hQN _ _ _ rfl ?_)
  all_goals (refine WS.bool rfl ?_; unfold wide; simp only [decide_eq_true_eq, Bool.false_eq_true, iff_true, iff_false, true_iff, false_iff] <;> omega)
def bitsR (i : Int) : Int := if i = 7 ∨ i = 8 then 16 else 8
theorem bitsR_ok (i : Int) : FnE Try.prog 108 [I i] [] (I (bitsR i)) [] := by
  refine N.fn Try.func108 k108 lb q108 fun Q hQ hQN => ?_
  rw [c108]
  have hw : wide i = decide (i = 7 ∨ i = 8) := rfl
  by_cases h : i = 7 ∨ i = 8
  · skip
    repeat' (first
    | rw [hw]
    | refine N.cT rfl h ?_
    | refine N.regS fun K hK => ?_
    | refine N.dregS fun K hK => ?_
    | refine N.regN fun K hK => ?_
    | refine N.dregN fun K hK => ?_
    | simp only [T.mv, sm, AO.ev, put, lk, enter, reduceIte, Nat.reduceEqDiff, Nat.reduceAdd, Nat.reduceMul, Nat.reduceSub, Int.reduceNeg, Int.reduceToNat, upto, renB, setAll]
    | (refine T.nil ?_; (first | refine hK _ _ _ (by rfl) ?_ | refine hK _ _ _ ?_); (try simp only [keep, List.map, lk, reduceIte, Nat.reduceEqDiff, enter]); clear hK K)
    | (show WOpsT _ (⟨_, .call _ _, none⟩ :: _) _ _ _ _; first | refine T.call0 e104 rfl (wide_ok i) ?_)
    | (show AKW _ _ _ _ _ _ _; first | refine N.now ?_)
    | (show AK _ _ (.cond _ _ _) _ _ _ _; first | refine N.c1 ?_ | refine N.c2 ?_ | refine N.c3 ?_ | refine N.c4 ?_ | refine N.condD rfl (fun hcd => ?_) (fun hcd => ?_) | refine N.condB rfl (fun hcd => ?_) (fun hcd => ?_) | refine N.condU rfl ?_ ?_)
    | (show AK _ _ _ _ _ _ _; first | refine N.seq ?_ | refine N.skip ?_ | refine N.ret ?_)
    | (show RK _ _ _ _ _ _ _; simp only [rk, rk0, reduceIte, Nat.reduceEqDiff])
    | refine hQ _ _ _ rfl ?_
    | refine hQN _ _ _ rfl ?_)
    exact WS.c rfl (by unfold bitsR; rw [if_pos h])
  · skip
    repeat' (first
    | rw [hw]
    | refine N.cF rfl h ?_
    | refine N.regS fun K hK => ?_
    | refine N.dregS fun K hK => ?_
    | refine N.regN fun K hK => ?_
    | refine N.dregN fun K hK => ?_
    | simp only [T.mv, sm, AO.ev, put, lk, enter, reduceIte, Nat.reduceEqDiff, Nat.reduceAdd, Nat.reduceMul, Nat.reduceSub, Int.reduceNeg, Int.reduceToNat, upto, renB, setAll]
    | (refine T.nil ?_; (first | refine hK _ _ _ (by rfl) ?_ | refine hK _ _ _ ?_); (try simp only [keep, List.map, lk, reduceIte, Nat.reduceEqDiff, enter]); clear hK K)
    | (show WOpsT _ (⟨_, .call _ _, none⟩ :: _) _ _ _ _; first | refine T.call0 e104 rfl (wide_ok i) ?_)
    | (show AKW _ _ _ _ _ _ _; first | refine N.now ?_)
    | (show AK _ _ (.cond _ _ _) _ _ _ _; first | refine N.c1 ?_ | refine N.c2 ?_ | refine N.c3 ?_ | refine N.c4 ?_ | refine N.condD rfl (fun hcd => ?_) (fun hcd => ?_) | refine N.condB rfl (fun hcd => ?_) (fun hcd => ?_) | refine N.condU rfl ?_ ?_)
    | (show AK _ _ _ _ _ _ _; first | refine N.seq ?_ | refine N.skip ?_ | refine N.ret ?_)
    | (show RK _ _ _ _ _ _ _; simp only [rk, rk0, reduceIte, Nat.reduceEqDiff])
    | refine hQ _ _ _ rfl ?_
    | refine hQN _ _ _ rfl ?_)
    exact WS.c rfl (by unfold bitsR; rw [if_neg h])
def fitN (i : Nat) (v : Int) : Int := if i = 7 ∨ i = 8 then v % 65536 else v % 256
def fitR (r : Nat → Int) : Nat → Int := fun i => fitN i (r i)
def Fits (r : Nat → Int) : Prop := ∀ i, i < 9 → 0 ≤ r i ∧ r i < if i = 7 ∨ i = 8 then 65536 else 256
theorem fitR_fits (r : Nat → Int) : Fits (fitR r) := by
  intro i hi
  unfold fitR fitN
  split <;> omega
def fitI (r : Nat → Int) (n : Nat) : Nat → Int := fun i => if i < n then fitN i (r i) else r i
theorem fitI_step (r : Nat → Int) (n : Nat) (i : Nat) : upd (fitI r n) n (fitN n (fitI r n n)) i = fitI r (n + 1) i := by
  unfold upd fitI
  by_cases h : i = n
  · subst h; rw [if_pos rfl, if_pos (Nat.lt_succ_self _), if_neg (Nat.lt_irrefl _)]
  · rw [if_neg h]
    by_cases h2 : i < n
    · rw [if_pos h2, if_pos (by omega)]
    · rw [if_neg h2, if_neg (by omega)]
theorem Fit_ok (r : Nat → Int) : FnE Try.prog 57 [.agg (ri r)] [] (.agg (ri (fitR r))) [] := by
  refine N.fn Try.func57 k57 lb q57 fun Q hQ hQN => ?_
  rw [c57]
  repeat' (first
  | refine N.regS fun K hK => ?_
  | refine N.dregS fun K hK => ?_
  | refine N.regN fun K hK => ?_
  | refine N.dregN fun K hK => ?_
  | simp only [T.mv, sm, AO.ev, put, lk, enter, reduceIte, Nat.reduceEqDiff, Nat.reduceAdd, Nat.reduceMul, Nat.reduceSub, Int.reduceNeg, Int.reduceToNat, upto, renB, setAll]
  | (refine T.nil ?_; (first | refine hK _ _ _ (by rfl) ?_ | refine hK _ _ _ ?_); (try simp only [keep, List.map, lk, reduceIte, Nat.reduceEqDiff, enter]); clear hK K)
  | (show WOpsT _ (⟨_, .ld _ _, none⟩ :: _) _ _ _ _; first | refine L.ld ?_ | refine L.ldd ?_ | refine L.ldn ?_ | refine L.lddn ?_)
  | (show WOpsT _ (⟨_, .idx _ _ _ _, none⟩ :: _) _ _ _ _; first | refine L.idxa ?_ | refine L.idxd ?_)
  | (show WOpsT _ (⟨_, .bin _ _ _, none⟩ :: _) _ _ _ _; first | refine L.add ?_ | refine L.bin ?_)
  | (show AKW _ _ _ _ _ _ _; first | refine N.now ?_)
  | (show AK _ _ (.cond _ _ _) _ _ _ _; first | refine N.c1 ?_ | refine N.c2 ?_ | refine N.c3 ?_ | refine N.c4 ?_ | refine N.condD rfl (fun hcd => ?_) (fun hcd => ?_) | refine N.condB rfl (fun hcd => ?_) (fun hcd => ?_) | refine N.condU rfl ?_ ?_)
  | (show AK _ _ _ _ _ _ _; first | refine N.seq ?_ | refine N.skip ?_ | refine N.exit ?_ | refine N.ret ?_)
  | (show RK _ _ _ _ _ _ _; simp only [rk, rk0, reduceIte, Nat.reduceEqDiff])
  | (show WOpsT _ _ _ _ _ _; first | refine L.st ?_ | refine L.new ?_ | refine L.zero ?_)
  | refine hQ _ _ _ rfl ?_
  | refine hQN _ _ _ rfl ?_)
  refine N.block ?_
  refine N.loop (σ := Nat) (fun i => [(1, .ptr 0 1 0 0), (2, .ptr 1 1 0 0), (4, I i)]) (fun i => [⟨1, 9, [ri (fitI r i)]⟩, ⟨1, 9, [ri fun _ => 0]⟩]) (fun i => i ≤ 9) (fun i => 9 - i) 0 (by omega) (Weaks.sel (by repeat (first | exact trivial | refine ⟨.rfl, ?_⟩ | refine ⟨.any, ?_⟩)) rfl) fun i hi C hC => ?_
  by_cases h9 : i < 9
  · have e3 : (i : Int).toNat * 1 = i := by omega
    have hl := low_ok (fitI r i i) (bitsR i)
    have hb : fitI r i i % 2 ^ wd (bitsR i) = fitN i (fitI r i i) := by
      unfold fitN bitsR
      by_cases h7 : i = 7 ∨ i = 8
      · rw [if_pos h7, if_pos (by omega)]; rfl
      · rw [if_neg h7, if_neg (by omega)]; rfl
    rw [hb] at hl
    repeat' (first
    | (show WOpsT _ (⟨_, .ld _ _, none⟩ :: _) _ _ _ _; refine T.ld rfl rfl rfl rfl (ri_get _ _ (by omega)) ?_)
    | rw [e3]
    | (show WOpsT _ (⟨_, .st _ _ _, none⟩ :: _) _ _ _ _; refine T.st rfl rfl rfl ⟨rfl, rfl⟩ rfl (show _ ≤ 9 by omega) ?_)
    | rw [ri_spl _ _ _ h9]
    | refine N.regS fun K hK => ?_
    | refine N.dregS fun K hK => ?_
    | refine N.regN fun K hK => ?_
    | refine N.dregN fun K hK => ?_
    | simp only [T.mv, sm, AO.ev, put, lk, enter, reduceIte, Nat.reduceEqDiff, Nat.reduceAdd, Nat.reduceMul, Nat.reduceSub, Int.reduceNeg, Int.reduceToNat, upto, renB, setAll]
    | (refine T.nil ?_; (first | refine hK _ _ _ (by rfl) ?_ | refine hK _ _ _ ?_); (try simp only [keep, List.map, lk, reduceIte, Nat.reduceEqDiff, enter]); clear hK K)
    | (show WOpsT _ (⟨_, .call _ _, none⟩ :: _) _ _ _ _; first | refine T.call0 e108 rfl (bitsR_ok i) ?_ | refine T.call0 e35 rfl (hl) ?_)
    | (show WOpsT _ (⟨_, .ld _ _, none⟩ :: _) _ _ _ _; first | refine L.ld ?_ | refine L.ldd ?_ | refine L.ldn ?_ | refine L.lddn ?_)
    | (show WOpsT _ (⟨_, .idx _ _ _ _, none⟩ :: _) _ _ _ _; first | refine L.idxa ?_ | refine L.idxd ?_)
    | (show WOpsT _ (⟨_, .bin _ _ _, none⟩ :: _) _ _ _ _; first | refine L.add ?_ | refine L.bin ?_)
    | (show AKW _ _ _ _ _ _ _; first | refine N.now ?_)
    | (show AK _ _ (.cond _ _ _) _ _ _ _; first | refine N.c1 ?_ | refine N.c2 ?_ | refine N.c3 ?_ | refine N.c4 ?_ | refine N.condD rfl (fun hcd => ?_) (fun hcd => ?_) | refine N.condB rfl (fun hcd => ?_) (fun hcd => ?_) | refine N.condU rfl ?_ ?_)
    | (show AK _ _ _ _ _ _ _; first | refine N.seq ?_ | refine N.block ?_ | refine N.skip ?_ | refine N.exit ?_ | refine N.ret ?_)
    | (show RK _ _ _ _ _ _ _; simp only [rk, rk0, reduceIte, Nat.reduceEqDiff])
    | (show WOpsT _ _ _ _ _ _; first | refine L.st ?_ | refine L.new ?_ | refine L.zero ?_)
    | refine hQ _ _ _ rfl ?_
    | refine hQN _ _ _ rfl ?_)
    rw [show upd (fitI r i) i (fitN i (fitI r i i)) = fitI r (i + 1) from funext fun j => fitI_step r i j]
    exact hC _ _ (i + 1) (by omega) (by omega) (Weaks.sel (by repeat (first | exact trivial | refine ⟨.rfl, ?_⟩ | refine ⟨.any, ?_⟩)) rfl)
  · obtain rfl : i = 9 := by omega
    repeat' (first
    | refine N.regS fun K hK => ?_
    | refine N.dregS fun K hK => ?_
    | refine N.regN fun K hK => ?_
    | refine N.dregN fun K hK => ?_
    | simp only [T.mv, sm, AO.ev, put, lk, enter, reduceIte, Nat.reduceEqDiff, Nat.reduceAdd, Nat.reduceMul, Nat.reduceSub, Int.reduceNeg, Int.reduceToNat, upto, renB, setAll]
    | (refine T.nil ?_; (first | refine hK _ _ _ (by rfl) ?_ | refine hK _ _ _ ?_); (try simp only [keep, List.map, lk, reduceIte, Nat.reduceEqDiff, enter]); clear hK K)
    | (show WOpsT _ (⟨_, .ld _ _, none⟩ :: _) _ _ _ _; first | refine L.ld ?_ | refine L.ldd ?_ | refine L.ldn ?_ | refine L.lddn ?_)
    | (show WOpsT _ (⟨_, .idx _ _ _ _, none⟩ :: _) _ _ _ _; first | refine L.idxa ?_ | refine L.idxd ?_)
    | (show WOpsT _ (⟨_, .bin _ _ _, none⟩ :: _) _ _ _ _; first | refine L.add ?_ | refine L.bin ?_)
    | (show AKW _ _ _ _ _ _ _; first | refine N.now ?_)
    | (show AK _ _ (.cond _ _ _) _ _ _ _; first | refine N.c1 ?_ | refine N.c2 ?_ | refine N.c3 ?_ | refine N.c4 ?_ | refine N.condD rfl (fun hcd => ?_) (fun hcd => ?_) | refine N.condB rfl (fun hcd => ?_) (fun hcd => ?_) | refine N.condU rfl ?_ ?_)
    | (show AK _ _ _ _ _ _ _; first | refine N.seq ?_ | refine N.block ?_ | refine N.skip ?_ | refine N.exit ?_ | refine N.ret ?_)
    | (show RK _ _ _ _ _ _ _; simp only [rk, rk0, reduceIte, Nat.reduceEqDiff])
    | (show WOpsT _ _ _ _ _ _; first | refine L.st ?_ | refine L.new ?_ | refine L.zero ?_)
    | refine hQ _ _ _ rfl ?_
    | refine hQN _ _ _ rfl ?_)
    exact WS.drop (n := 0) rfl (by
      show _ = V.agg (ri (fitI r 9))
      rw [show ri (fitI r 9) = ri (fitR r) from ri_eq fun i hi => by unfold fitI; rw [if_pos hi]; rfl])
def flagR (r : Nat → Int) (f : Int) (on : Bool) : Nat → Int := upd r 4 (fl (r 4) f on)
theorem flag_ok (r : Nat → Int) (f : Int) (on : Bool) : FnE Try.prog 110 [.agg (ri r), I f, .c (.bool on)] [] (.agg (ri (flagR r f on))) [] := by
  refine N.fn Try.func110 k110 lb q110 fun Q hQ hQN => ?_
  rw [c110]
  cases on
  · skip
    repeat' (first
    | rw [ri_spl _ _ _ (by decide)]
    | refine N.regS fun K hK => ?_
    | refine N.dregS fun K hK => ?_
    | refine N.regN fun K hK => ?_
    | refine N.dregN fun K hK => ?_
    | simp only [T.mv, sm, AO.ev, put, lk, enter, reduceIte, Nat.reduceEqDiff, Nat.reduceAdd, Nat.reduceMul, Nat.reduceSub, Int.reduceNeg, Int.reduceToNat, upto, renB, setAll]
    | (refine T.nil ?_; (first | refine hK _ _ _ (by rfl) ?_ | refine hK _ _ _ ?_); (try simp only [keep, List.map, lk, reduceIte, Nat.reduceEqDiff, enter]); clear hK K)
    | (show WOpsT _ (⟨_, .ld _ _, none⟩ :: _) _ _ _ _; first | refine L.ld ?_ | refine L.ldd ?_ | refine L.ldn ?_ | refine L.lddn ?_)
    | (show WOpsT _ (⟨_, .idx _ _ _ _, none⟩ :: _) _ _ _ _; first | refine L.idxa ?_ | refine L.idxd ?_)
    | (show WOpsT _ (⟨_, .bin _ _ _, none⟩ :: _) _ _ _ _; first | refine L.bin ?_)
    | (show AKW _ _ _ _ _ _ _; first | refine N.now ?_)
    | (show AK _ _ (.cond _ _ _) _ _ _ _; first | refine N.c1 ?_ | refine N.c2 ?_ | refine N.c3 ?_ | refine N.c4 ?_ | refine N.condD rfl (fun hcd => ?_) (fun hcd => ?_) | refine N.condB rfl (fun hcd => ?_) (fun hcd => ?_) | refine N.condU rfl ?_ ?_)
    | (show AK _ _ _ _ _ _ _; first | refine N.seq ?_ | refine N.skip ?_ | refine N.ret ?_)
    | (show RK _ _ _ _ _ _ _; simp only [rk, rk0, reduceIte, Nat.reduceEqDiff])
    | (show WOpsT _ _ _ _ _ _; first | refine L.st ?_ | refine L.new ?_ | refine L.zero ?_)
    | refine hQ _ _ _ rfl ?_
    | refine hQN _ _ _ rfl ?_)
    exact WS.drop (n := 0) rfl rfl
  · skip
    repeat' (first
    | rw [ri_spl _ _ _ (by decide)]
    | refine N.regS fun K hK => ?_
    | refine N.dregS fun K hK => ?_
    | refine N.regN fun K hK => ?_
    | refine N.dregN fun K hK => ?_
    | simp only [T.mv, sm, AO.ev, put, lk, enter, reduceIte, Nat.reduceEqDiff, Nat.reduceAdd, Nat.reduceMul, Nat.reduceSub, Int.reduceNeg, Int.reduceToNat, upto, renB, setAll]
    | (refine T.nil ?_; (first | refine hK _ _ _ (by rfl) ?_ | refine hK _ _ _ ?_); (try simp only [keep, List.map, lk, reduceIte, Nat.reduceEqDiff, enter]); clear hK K)
    | (show WOpsT _ (⟨_, .ld _ _, none⟩ :: _) _ _ _ _; first | refine L.ld ?_ | refine L.ldd ?_ | refine L.ldn ?_ | refine L.lddn ?_)
    | (show WOpsT _ (⟨_, .idx _ _ _ _, none⟩ :: _) _ _ _ _; first | refine L.idxa ?_ | refine L.idxd ?_)
    | (show WOpsT _ (⟨_, .bin _ _ _, none⟩ :: _) _ _ _ _; first | refine L.bin ?_)
    | (show AKW _ _ _ _ _ _ _; first | refine N.now ?_)
    | (show AK _ _ (.cond _ _ _) _ _ _ _; first | refine N.c1 ?_ | refine N.c2 ?_ | refine N.c3 ?_ | refine N.c4 ?_ | refine N.condD rfl (fun hcd => ?_) (fun hcd => ?_) | refine N.condB rfl (fun hcd => ?_) (fun hcd => ?_) | refine N.condU rfl ?_ ?_)
    | (show AK _ _ _ _ _ _ _; first | refine N.seq ?_ | refine N.skip ?_ | refine N.ret ?_)
    | (show RK _ _ _ _ _ _ _; simp only [rk, rk0, reduceIte, Nat.reduceEqDiff])
    | (show WOpsT _ _ _ _ _ _; first | refine L.st ?_ | refine L.new ?_ | refine L.zero ?_)
    | refine hQ _ _ _ rfl ?_
    | refine hQN _ _ _ rfl ?_)
    exact WS.drop (n := 0) rfl rfl
def nzR (r : Nat → Int) (n : Int) : Nat → Int := flagR (flagR r 2 (decide (n = 0))) 128 (decide (128 ≤ n))
theorem nz_ok (r : Nat → Int) (n : Int) : FnE Try.prog 106 [.agg (ri r), I n] [] (.agg (ri (nzR r n))) [] := by
  refine N.fn Try.func106 k106 lb q106 fun Q hQ hQN => ?_
  rw [c106]
  repeat' (first
  | rw [ri_ren]
  | rw [ri_spl0]
  | refine N.regS fun K hK => ?_
  | refine N.dregS fun K hK => ?_
  | refine N.regN fun K hK => ?_
  | refine N.dregN fun K hK => ?_
  | simp only [T.mv, sm, AO.ev, put, lk, enter, reduceIte, Nat.reduceEqDiff, Nat.reduceAdd, Nat.reduceMul, Nat.reduceSub, Int.reduceNeg, Int.reduceToNat, upto, renB, setAll]
  | (refine T.nil ?_; (first | refine hK _ _ _ (by rfl) ?_ | refine hK _ _ _ ?_); (try simp only [keep, List.map, lk, reduceIte, Nat.reduceEqDiff, enter]); clear hK K)
  | (show WOpsT _ (⟨_, .call _ _, none⟩ :: _) _ _ _ _; first | refine T.call0 e110 rfl (flag_ok _ _ _) ?_)
  | (show WOpsT _ (⟨_, .ld _ _, none⟩ :: _) _ _ _ _; first | refine L.ldn ?_ | refine L.lddn ?_)
  | (show WOpsT _ (⟨_, .bin _ _ _, none⟩ :: _) _ _ _ _; first | refine L.bin ?_)
  | (show AKW _ _ _ _ _ _ _; first | refine N.now ?_)
  | (show AK _ _ _ _ _ _ _; first | refine N.seq ?_ | refine N.ret ?_)
  | (show RK _ _ _ _ _ _ _; simp only [rk, rk0, reduceIte, Nat.reduceEqDiff])
  | (show WOpsT _ _ _ _ _ _; first | refine L.st ?_ | refine L.new ?_ | refine L.zero ?_)
  | refine hQ _ _ _ rfl ?_
  | refine hQN _ _ _ rfl ?_)
  exact WS.drop (n := 0) rfl rfl
theorem carry_ok (r : Nat → Int) : FnE Try.prog 158 [.agg (ri r)] [] (I (r 4 % 2)) [] := by
  refine N.fn Try.func158 k158 lb q158 fun Q hQ hQN => ?_
  rw [c158]
  repeat' (first
  | rw [bits1]
  | refine N.regS fun K hK => ?_
  | refine N.dregS fun K hK => ?_
  | refine N.regN fun K hK => ?_
  | refine N.dregN fun K hK => ?_
  | simp only [T.mv, sm, AO.ev, put, lk, enter, reduceIte, Nat.reduceEqDiff, Nat.reduceAdd, Nat.reduceMul, Nat.reduceSub, Int.reduceNeg, Int.reduceToNat, upto, renB, setAll]
  | (refine T.nil ?_; (first | refine hK _ _ _ (by rfl) ?_ | refine hK _ _ _ ?_); (try simp only [keep, List.map, lk, reduceIte, Nat.reduceEqDiff, enter]); clear hK K)
  | (show WOpsT _ (⟨_, .ld _ _, none⟩ :: _) _ _ _ _; first | refine L.ld ?_ | refine L.ldd ?_)
  | (show WOpsT _ (⟨_, .idx _ _ _ _, none⟩ :: _) _ _ _ _; first | refine L.idxa ?_ | refine L.idxd ?_)
  | (show WOpsT _ (⟨_, .bin _ _ _, none⟩ :: _) _ _ _ _; first | refine L.bin ?_)
  | (show AKW _ _ _ _ _ _ _; first | refine N.now ?_)
  | (show AK _ _ _ _ _ _ _; first | refine N.seq ?_ | refine N.ret ?_)
  | (show RK _ _ _ _ _ _ _; simp only [rk, rk0, reduceIte, Nat.reduceEqDiff])
  | (show WOpsT _ _ _ _ _ _; first | refine L.new ?_)
  | refine hQ _ _ _ rfl ?_
  | refine hQN _ _ _ rfl ?_)
  exact WS.c rfl rfl
def ixR (i : Int) : Nat := (max 0 (min i 8)).toNat
theorem ixR_lt (i : Int) : ixR i < 9 := by unfold ixR; omega
theorem ixR_cast (i : Int) : max 0 (min i 8) = (ixR i : Int) := by unfold ixR; omega
theorem index_ok (i : Int) : FnE Try.prog 105 [I i] [] (I (ixR i)) [] := by
  refine N.fn Try.func105 k105 lb q105 fun Q hQ hQN => ?_
  rw [c105]
  repeat' (first
  | refine N.regS fun K hK => ?_
  | refine N.dregS fun K hK => ?_
  | refine N.regN fun K hK => ?_
  | refine N.dregN fun K hK => ?_
  | simp only [T.mv, sm, AO.ev, put, lk, enter, reduceIte, Nat.reduceEqDiff, Nat.reduceAdd, Nat.reduceMul, Nat.reduceSub, Int.reduceNeg, Int.reduceToNat, upto, renB, setAll]
  | (refine T.nil ?_; (first | refine hK _ _ _ (by rfl) ?_ | refine hK _ _ _ ?_); (try simp only [keep, List.map, lk, reduceIte, Nat.reduceEqDiff, enter]); clear hK K)
  | (show AKW _ _ _ _ _ _ _; first | refine N.now ?_)
  | (show AK _ _ _ _ _ _ _; first | refine N.seq ?_ | refine N.ret ?_)
  | (show RK _ _ _ _ _ _ _; simp only [rk, rk0, reduceIte, Nat.reduceEqDiff])
  | (show WOpsT _ _ _ _ _ _; first | refine T.min2 rfl rfl rfl ?_ | refine T.max2 rfl rfl rfl ?_)
  | refine hQ _ _ _ rfl ?_
  | refine hQN _ _ _ rfl ?_)
  exact WS.c rfl (by rw [ixR_cast])
def resR (r : Nat → Int) (t : Nat) (n c : Int) : Nat → Int := upd (flagR (nzR r n) 1 (decide (c = 1))) t n
theorem result_ok (r : Nat → Int) (t : Nat) (n c : Int) (ht : t < 9) : FnE Try.prog 159 [.agg (ri r), I t, I n, I c] [] (.agg (ri (resR r t n c))) [] := by
  refine N.fn Try.func159 k159 lb q159 fun Q hQ hQN => ?_
  rw [c159]
  have e3 : (t : Int).toNat * 1 = t := by omega
  repeat' (first
  | rw [ri_ren]
  | rw [ri_spl0]
  | (show WOpsT _ (⟨_, .st _ _ _, none⟩ :: _) _ _ _ _; refine T.st rfl rfl rfl ⟨rfl, rfl⟩ rfl (show _ ≤ 9 by omega) ?_)
  | rw [e3]
  | rw [ri_spl _ _ _ ht]
  | refine N.regS fun K hK => ?_
  | refine N.dregS fun K hK => ?_
  | refine N.regN fun K hK => ?_
  | refine N.dregN fun K hK => ?_
  | simp only [T.mv, sm, AO.ev, put, lk, enter, reduceIte, Nat.reduceEqDiff, Nat.reduceAdd, Nat.reduceMul, Nat.reduceSub, Int.reduceNeg, Int.reduceToNat, upto, renB, setAll]
  | (refine T.nil ?_; (first | refine hK _ _ _ (by rfl) ?_ | refine hK _ _ _ ?_); (try simp only [keep, List.map, lk, reduceIte, Nat.reduceEqDiff, enter]); clear hK K)
  | (show WOpsT _ (⟨_, .call _ _, none⟩ :: _) _ _ _ _; first | refine T.call0 e106 rfl (nz_ok _ _) ?_ | refine T.call0 e110 rfl (flag_ok _ _ _) ?_)
  | (show WOpsT _ (⟨_, .ld _ _, none⟩ :: _) _ _ _ _; first | refine L.ldn ?_ | refine L.lddn ?_)
  | (show WOpsT _ (⟨_, .idx _ _ _ _, none⟩ :: _) _ _ _ _; first | refine L.idxa ?_ | refine L.idxd ?_)
  | (show WOpsT _ (⟨_, .bin _ _ _, none⟩ :: _) _ _ _ _; first | refine L.bin ?_)
  | (show AKW _ _ _ _ _ _ _; first | refine N.now ?_)
  | (show AK _ _ _ _ _ _ _; first | refine N.seq ?_ | refine N.ret ?_)
  | (show RK _ _ _ _ _ _ _; simp only [rk, rk0, reduceIte, Nat.reduceEqDiff])
  | (show WOpsT _ _ _ _ _ _; first | refine L.st ?_ | refine L.new ?_ | refine L.zero ?_)
  | refine hQ _ _ _ rfl ?_
  | refine hQN _ _ _ rfl ?_)
  exact WS.drop (n := 0) rfl rfl
def binR (d : Int) (t f : Nat) (r : Nat → Int) : Nat → Int :=
  let a := r t % 256
  let b := r f % 256
  let c := r 4 % 2
  if d = 4 then resR r t ((a + b + c) % 256) ((a + b + c) / 256)
  else if d = 5 then resR r t ((a - b - (1 - c)) % 256) (if a - b - (1 - c) < 0 then 0 else 1)
  else if d = 6 then flagR (nzR r ((a - b) % 256)) 1 (decide (0 ≤ a - b))
  else let n := if d = 7 then bits .and .i64 a b else if d = 8 then bits .or .i64 a b else bits .xor .i64 a b
    upd (nzR r n) t n
theorem binary_ok (d : Int) (t f : Nat) (r : Nat → Int) (ht : t < 9) (hf : f < 9) : FnE Try.prog 107 [I d, I t, I f, .agg (ri r)] [] (.agg (ri (binR d t f r))) [] := by
  have e3 : (t : Int).toNat * 1 = t := by omega
  have e4 : (f : Int).toNat * 1 = f := by omega
  obtain ⟨a, ha⟩ : ∃ a, r t % 256 = a := ⟨_, rfl⟩
  obtain ⟨b, hb⟩ : ∃ b, r f % 256 = b := ⟨_, rfl⟩
  obtain ⟨c, hc⟩ : ∃ c, r 4 % 2 = c := ⟨_, rfl⟩
  have l1 := low_lit (r t) 8 8 rfl (by decide)
  have l2 := low_lit (r f) 8 8 rfl (by decide)
  rw [show r t % 2 ^ 8 = a from ha] at l1
  rw [show r f % 2 ^ 8 = b from hb] at l2
  have ha1 : 0 ≤ a ∧ a < 256 := by omega
  have hb1 : 0 ≤ b ∧ b < 256 := by omega
  have hc1 : c = 0 ∨ c = 1 := by omega
  have kc := carry_ok r
  rw [hc] at kc
  by_cases h4 : d = 4
  · subst h4
    have hs : binR 4 t f r = resR r t ((a + b + c) % 256) ((a + b + c) / 256) := by unfold binR; rw [ha, hb, hc]; rfl
    rw [hs]
    refine N.fn Try.func107 k107 lb q107 fun Q hQ hQN => ?_
    rw [c107]
    repeat' (first
    | rw [ri_ren]
    | rw [ri_spl0]
    | (show WOpsT _ (⟨_, .ld _ _, none⟩ :: _) _ _ _ _; refine T.ld rfl rfl rfl rfl (ri_get _ _ (by omega)) ?_)
    | rw [e3]
    | rw [e4]
    | refine N.regS fun K hK => ?_
    | refine N.dregS fun K hK => ?_
    | refine N.regN fun K hK => ?_
    | refine N.dregN fun K hK => ?_
    | simp only [T.mv, sm, AO.ev, put, lk, enter, reduceIte, Nat.reduceEqDiff, Nat.reduceAdd, Nat.reduceMul, Nat.reduceSub, Int.reduceNeg, Int.reduceToNat, upto, renB, setAll]
    | (refine T.nil ?_; (first | refine hK _ _ _ (by rfl) ?_ | refine hK _ _ _ ?_); (try simp only [keep, List.map, lk, reduceIte, Nat.reduceEqDiff, enter]); clear hK K)
    | (show WOpsT _ (⟨_, .call _ _, none⟩ :: _) _ _ _ _; first | refine T.call0 e35 rfl (l1) ?_ | refine T.call0 e35 rfl (l2) ?_ | refine T.call0 e158 rfl (kc) ?_ | refine T.call0 e157 rfl (add8 a b c ha1 hb1 hc1) ?_ | refine T.call0 e159 rfl (result_ok _ t _ _ ht) ?_)
    | (show WOpsT _ (⟨_, .ld _ _, none⟩ :: _) _ _ _ _; first | refine L.ld ?_ | refine L.ldd ?_ | refine L.ldn ?_ | refine L.lddn ?_)
    | (show WOpsT _ (⟨_, .idx _ _ _ _, none⟩ :: _) _ _ _ _; first | refine L.idxa ?_ | refine L.idxd ?_)
    | (show WOpsT _ (⟨_, .bin _ _ _, none⟩ :: _) _ _ _ _; first | refine L.sub ?_ | refine L.bin ?_)
    | (show AKW _ _ _ _ _ _ _; first | refine N.now ?_)
    | (show AK _ _ (.cond _ _ _) _ _ _ _; first | refine N.c1 ?_ | refine N.c2 ?_ | refine N.c3 ?_ | refine N.c4 ?_ | refine N.condD rfl (fun hcd => ?_) (fun hcd => ?_) | refine N.condB rfl (fun hcd => ?_) (fun hcd => ?_) | refine N.condU rfl ?_ ?_)
    | (show AK _ _ _ _ _ _ _; first | refine N.seq ?_ | refine N.block ?_ | refine N.ret ?_)
    | (show RK _ _ _ _ _ _ _; simp only [rk, rk0, reduceIte, Nat.reduceEqDiff])
    | (show WOpsT _ _ _ _ _ _; first | refine L.ext ?_ | refine L.st ?_ | refine L.new ?_ | refine L.zero ?_)
    | refine hQ _ _ _ rfl ?_
    | refine hQN _ _ _ rfl ?_)
    exact WS.drop (n := 0) rfl rfl
  by_cases h5 : d = 5
  · subst h5
    have hs : binR 5 t f r = resR r t ((a - b - (1 - c)) % 256) (1 - if a - b - (1 - c) < 0 then 1 else 0) := by
      unfold binR; rw [ha, hb, hc]
      show resR r t _ (if a - b - (1 - c) < 0 then 0 else 1) = _
      split <;> rfl
    rw [hs]
    refine N.fn Try.func107 k107 lb q107 fun Q hQ hQN => ?_
    rw [c107]
    repeat' (first
    | rw [ri_ren]
    | rw [ri_spl0]
    | (show WOpsT _ (⟨_, .ld _ _, none⟩ :: _) _ _ _ _; refine T.ld rfl rfl rfl rfl (ri_get _ _ (by omega)) ?_)
    | rw [e3]
    | rw [e4]
    | (show WOpsT _ (⟨_, .bin _ _ _, none⟩ :: _) _ _ _ _; refine T.sub rfl rfl (by split <;> omega) (by split <;> omega) ?_)
    | refine N.regS fun K hK => ?_
    | refine N.dregS fun K hK => ?_
    | refine N.regN fun K hK => ?_
    | refine N.dregN fun K hK => ?_
    | simp only [T.mv, sm, AO.ev, put, lk, enter, reduceIte, Nat.reduceEqDiff, Nat.reduceAdd, Nat.reduceMul, Nat.reduceSub, Int.reduceNeg, Int.reduceToNat, upto, renB, setAll]
    | (refine T.nil ?_; (first | refine hK _ _ _ (by rfl) ?_ | refine hK _ _ _ ?_); (try simp only [keep, List.map, lk, reduceIte, Nat.reduceEqDiff, enter]); clear hK K)
    | (show WOpsT _ (⟨_, .call _ _, none⟩ :: _) _ _ _ _; first | refine T.call0 e35 rfl (l1) ?_ | refine T.call0 e35 rfl (l2) ?_ | refine T.call0 e158 rfl (kc) ?_ | refine T.call0 e160 rfl (sub8 a b (1 - c) ha1 hb1 (by omega)) ?_ | refine T.call0 e159 rfl (result_ok _ t _ _ ht) ?_)
    | (show WOpsT _ (⟨_, .ld _ _, none⟩ :: _) _ _ _ _; first | refine L.ld ?_ | refine L.ldd ?_ | refine L.ldn ?_ | refine L.lddn ?_)
    | (show WOpsT _ (⟨_, .idx _ _ _ _, none⟩ :: _) _ _ _ _; first | refine L.idxa ?_ | refine L.idxd ?_)
    | (show WOpsT _ (⟨_, .bin _ _ _, none⟩ :: _) _ _ _ _; first | refine L.sub ?_ | refine L.bin ?_)
    | (show AKW _ _ _ _ _ _ _; first | refine N.now ?_)
    | (show AK _ _ (.cond _ _ _) _ _ _ _; first | refine N.c1 ?_ | refine N.c2 ?_ | refine N.c3 ?_ | refine N.c4 ?_ | refine N.condD rfl (fun hcd => ?_) (fun hcd => ?_) | refine N.condB rfl (fun hcd => ?_) (fun hcd => ?_) | refine N.condU rfl ?_ ?_)
    | (show AK _ _ _ _ _ _ _; first | refine N.seq ?_ | refine N.block ?_ | refine N.ret ?_)
    | (show RK _ _ _ _ _ _ _; simp only [rk, rk0, reduceIte, Nat.reduceEqDiff])
    | (show WOpsT _ _ _ _ _ _; first | refine L.ext ?_ | refine L.st ?_ | refine L.new ?_ | refine L.zero ?_)
    | refine hQ _ _ _ rfl ?_
    | refine hQN _ _ _ rfl ?_)
    exact WS.drop (n := 0) rfl rfl
  by_cases h6 : d = 6
  · subst h6
    have hs : binR 6 t f r = flagR (nzR r ((a - b - 0) % 256)) 1 (decide ((if a - b - 0 < 0 then (1 : Int) else 0) = 0)) := by
      unfold binR; rw [ha, hb, hc]
      show flagR (nzR r ((a - b) % 256)) 1 (decide (0 ≤ a - b)) = _
      rw [Int.sub_zero]
      congr 2
      split <;> simp <;> omega
    rw [hs]
    refine N.fn Try.func107 k107 lb q107 fun Q hQ hQN => ?_
    rw [c107]
    repeat' (first
    | rw [ri_ren]
    | rw [ri_spl0]
    | (show WOpsT _ (⟨_, .ld _ _, none⟩ :: _) _ _ _ _; refine T.ld rfl rfl rfl rfl (ri_get _ _ (by omega)) ?_)
    | rw [e3]
    | rw [e4]
    | refine N.regS fun K hK => ?_
    | refine N.dregS fun K hK => ?_
    | refine N.regN fun K hK => ?_
    | refine N.dregN fun K hK => ?_
    | simp only [T.mv, sm, AO.ev, put, lk, enter, reduceIte, Nat.reduceEqDiff, Nat.reduceAdd, Nat.reduceMul, Nat.reduceSub, Int.reduceNeg, Int.reduceToNat, upto, renB, setAll]
    | (refine T.nil ?_; (first | refine hK _ _ _ (by rfl) ?_ | refine hK _ _ _ ?_); (try simp only [keep, List.map, lk, reduceIte, Nat.reduceEqDiff, enter]); clear hK K)
    | (show WOpsT _ (⟨_, .call _ _, none⟩ :: _) _ _ _ _; first | refine T.call0 e35 rfl (l1) ?_ | refine T.call0 e35 rfl (l2) ?_ | refine T.call0 e160 rfl (sub8 a b 0 ha1 hb1 (by omega)) ?_ | refine T.call0 e106 rfl (nz_ok _ _) ?_ | refine T.call0 e110 rfl (flag_ok _ _ _) ?_)
    | (show WOpsT _ (⟨_, .ld _ _, none⟩ :: _) _ _ _ _; first | refine L.ld ?_ | refine L.ldd ?_ | refine L.ldn ?_ | refine L.lddn ?_)
    | (show WOpsT _ (⟨_, .idx _ _ _ _, none⟩ :: _) _ _ _ _; first | refine L.idxa ?_ | refine L.idxd ?_)
    | (show WOpsT _ (⟨_, .bin _ _ _, none⟩ :: _) _ _ _ _; first | refine L.sub ?_ | refine L.bin ?_)
    | (show AKW _ _ _ _ _ _ _; first | refine N.now ?_)
    | (show AK _ _ (.cond _ _ _) _ _ _ _; first | refine N.c1 ?_ | refine N.c2 ?_ | refine N.c3 ?_ | refine N.c4 ?_ | refine N.condD rfl (fun hcd => ?_) (fun hcd => ?_) | refine N.condB rfl (fun hcd => ?_) (fun hcd => ?_) | refine N.condU rfl ?_ ?_)
    | (show AK _ _ _ _ _ _ _; first | refine N.seq ?_ | refine N.block ?_ | refine N.ret ?_)
    | (show RK _ _ _ _ _ _ _; simp only [rk, rk0, reduceIte, Nat.reduceEqDiff])
    | (show WOpsT _ _ _ _ _ _; first | refine L.ext ?_ | refine L.st ?_ | refine L.new ?_ | refine L.zero ?_)
    | refine hQ _ _ _ rfl ?_
    | refine hQN _ _ _ rfl ?_)
    exact WS.drop (n := 0) rfl rfl
  by_cases h7 : d = 7
  · subst h7
    have hs : binR 7 t f r = upd (nzR r (bits .and .i64 a b)) t (bits .and .i64 a b) := by unfold binR; rw [ha, hb, hc]; rfl
    rw [hs]
    refine N.fn Try.func107 k107 lb q107 fun Q hQ hQN => ?_
    rw [c107]
    repeat' (first
    | rw [ri_ren]
    | rw [ri_spl0]
    | (show WOpsT _ (⟨_, .ld _ _, none⟩ :: _) _ _ _ _; refine T.ld rfl rfl rfl rfl (ri_get _ _ (by omega)) ?_)
    | rw [e3]
    | rw [e4]
    | (show WOpsT _ (⟨_, .st _ _ _, none⟩ :: _) _ _ _ _; refine T.st rfl rfl rfl ⟨rfl, rfl⟩ rfl (show _ ≤ 9 by omega) ?_)
    | rw [ri_spl _ _ _ ht]
    | refine N.regS fun K hK => ?_
    | refine N.dregS fun K hK => ?_
    | refine N.regN fun K hK => ?_
    | refine N.dregN fun K hK => ?_
    | simp only [T.mv, sm, AO.ev, put, lk, enter, reduceIte, Nat.reduceEqDiff, Nat.reduceAdd, Nat.reduceMul, Nat.reduceSub, Int.reduceNeg, Int.reduceToNat, upto, renB, setAll]
    | (refine T.nil ?_; (first | refine hK _ _ _ (by rfl) ?_ | refine hK _ _ _ ?_); (try simp only [keep, List.map, lk, reduceIte, Nat.reduceEqDiff, enter]); clear hK K)
    | (show WOpsT _ (⟨_, .call _ _, none⟩ :: _) _ _ _ _; first | refine T.call0 e35 rfl (l1) ?_ | refine T.call0 e35 rfl (l2) ?_ | refine T.call0 e106 rfl (nz_ok _ _) ?_)
    | (show WOpsT _ (⟨_, .ld _ _, none⟩ :: _) _ _ _ _; first | refine L.ld ?_ | refine L.ldd ?_ | refine L.ldn ?_ | refine L.lddn ?_)
    | (show WOpsT _ (⟨_, .idx _ _ _ _, none⟩ :: _) _ _ _ _; first | refine L.idxa ?_ | refine L.idxd ?_)
    | (show WOpsT _ (⟨_, .bin _ _ _, none⟩ :: _) _ _ _ _; first | refine L.sub ?_ | refine L.bin ?_)
    | (show AKW _ _ _ _ _ _ _; first | refine N.now ?_)
    | (show AK _ _ (.cond _ _ _) _ _ _ _; first | refine N.c1 ?_ | refine N.c2 ?_ | refine N.c3 ?_ | refine N.c4 ?_ | refine N.condD rfl (fun hcd => ?_) (fun hcd => ?_) | refine N.condB rfl (fun hcd => ?_) (fun hcd => ?_) | refine N.condU rfl ?_ ?_)
    | (show AK _ _ _ _ _ _ _; first | refine N.seq ?_ | refine N.block ?_ | refine N.ret ?_)
    | (show RK _ _ _ _ _ _ _; simp only [rk, rk0, reduceIte, Nat.reduceEqDiff])
    | (show WOpsT _ _ _ _ _ _; first | refine L.ext ?_ | refine L.st ?_ | refine L.new ?_ | refine L.zero ?_)
    | refine hQ _ _ _ rfl ?_
    | refine hQN _ _ _ rfl ?_)
    exact WS.drop (n := 0) rfl rfl
  by_cases h8 : d = 8
  · subst h8
    have hs : binR 8 t f r = upd (nzR r (bits .or .i64 a b)) t (bits .or .i64 a b) := by unfold binR; rw [ha, hb, hc]; rfl
    rw [hs]
    refine N.fn Try.func107 k107 lb q107 fun Q hQ hQN => ?_
    rw [c107]
    repeat' (first
    | rw [ri_ren]
    | rw [ri_spl0]
    | (show WOpsT _ (⟨_, .ld _ _, none⟩ :: _) _ _ _ _; refine T.ld rfl rfl rfl rfl (ri_get _ _ (by omega)) ?_)
    | rw [e3]
    | rw [e4]
    | (show WOpsT _ (⟨_, .st _ _ _, none⟩ :: _) _ _ _ _; refine T.st rfl rfl rfl ⟨rfl, rfl⟩ rfl (show _ ≤ 9 by omega) ?_)
    | rw [ri_spl _ _ _ ht]
    | refine N.regS fun K hK => ?_
    | refine N.dregS fun K hK => ?_
    | refine N.regN fun K hK => ?_
    | refine N.dregN fun K hK => ?_
    | simp only [T.mv, sm, AO.ev, put, lk, enter, reduceIte, Nat.reduceEqDiff, Nat.reduceAdd, Nat.reduceMul, Nat.reduceSub, Int.reduceNeg, Int.reduceToNat, upto, renB, setAll]
    | (refine T.nil ?_; (first | refine hK _ _ _ (by rfl) ?_ | refine hK _ _ _ ?_); (try simp only [keep, List.map, lk, reduceIte, Nat.reduceEqDiff, enter]); clear hK K)
    | (show WOpsT _ (⟨_, .call _ _, none⟩ :: _) _ _ _ _; first | refine T.call0 e35 rfl (l1) ?_ | refine T.call0 e35 rfl (l2) ?_ | refine T.call0 e106 rfl (nz_ok _ _) ?_)
    | (show WOpsT _ (⟨_, .ld _ _, none⟩ :: _) _ _ _ _; first | refine L.ld ?_ | refine L.ldd ?_ | refine L.ldn ?_ | refine L.lddn ?_)
    | (show WOpsT _ (⟨_, .idx _ _ _ _, none⟩ :: _) _ _ _ _; first | refine L.idxa ?_ | refine L.idxd ?_)
    | (show WOpsT _ (⟨_, .bin _ _ _, none⟩ :: _) _ _ _ _; first | refine L.sub ?_ | refine L.bin ?_)
    | (show AKW _ _ _ _ _ _ _; first | refine N.now ?_)
    | (show AK _ _ (.cond _ _ _) _ _ _ _; first | refine N.c1 ?_ | refine N.c2 ?_ | refine N.c3 ?_ | refine N.c4 ?_ | refine N.condD rfl (fun hcd => ?_) (fun hcd => ?_) | refine N.condB rfl (fun hcd => ?_) (fun hcd => ?_) | refine N.condU rfl ?_ ?_)
    | (show AK _ _ _ _ _ _ _; first | refine N.seq ?_ | refine N.block ?_ | refine N.ret ?_)
    | (show RK _ _ _ _ _ _ _; simp only [rk, rk0, reduceIte, Nat.reduceEqDiff])
    | (show WOpsT _ _ _ _ _ _; first | refine L.ext ?_ | refine L.st ?_ | refine L.new ?_ | refine L.zero ?_)
    | refine hQ _ _ _ rfl ?_
    | refine hQN _ _ _ rfl ?_)
    exact WS.drop (n := 0) rfl rfl
  · have hs : binR d t f r = upd (nzR r (bits .xor .i64 a b)) t (bits .xor .i64 a b) := by
      unfold binR; rw [ha, hb, hc]
      dsimp only
      rw [if_neg h4, if_neg h5, if_neg h6, if_neg h7, if_neg h8]
    rw [hs]
    refine N.fn Try.func107 k107 lb q107 fun Q hQ hQN => ?_
    rw [c107]
    repeat' (first
    | rw [ri_ren]
    | rw [ri_spl0]
    | (show WOpsT _ (⟨_, .ld _ _, none⟩ :: _) _ _ _ _; refine T.ld rfl rfl rfl rfl (ri_get _ _ (by omega)) ?_)
    | rw [e3]
    | rw [e4]
    | (show WOpsT _ (⟨_, .st _ _ _, none⟩ :: _) _ _ _ _; refine T.st rfl rfl rfl ⟨rfl, rfl⟩ rfl (show _ ≤ 9 by omega) ?_)
    | rw [ri_spl _ _ _ ht]
    | refine N.regS fun K hK => ?_
    | refine N.dregS fun K hK => ?_
    | refine N.regN fun K hK => ?_
    | refine N.dregN fun K hK => ?_
    | simp only [T.mv, sm, AO.ev, put, lk, enter, reduceIte, Nat.reduceEqDiff, Nat.reduceAdd, Nat.reduceMul, Nat.reduceSub, Int.reduceNeg, Int.reduceToNat, upto, renB, setAll]
    | (refine T.nil ?_; (first | refine hK _ _ _ (by rfl) ?_ | refine hK _ _ _ ?_); (try simp only [keep, List.map, lk, reduceIte, Nat.reduceEqDiff, enter]); clear hK K)
    | (show WOpsT _ (⟨_, .call _ _, none⟩ :: _) _ _ _ _; first | refine T.call0 e35 rfl (l1) ?_ | refine T.call0 e35 rfl (l2) ?_ | refine T.call0 e106 rfl (nz_ok _ _) ?_)
    | (show WOpsT _ (⟨_, .ld _ _, none⟩ :: _) _ _ _ _; first | refine L.ld ?_ | refine L.ldd ?_ | refine L.ldn ?_ | refine L.lddn ?_)
    | (show WOpsT _ (⟨_, .idx _ _ _ _, none⟩ :: _) _ _ _ _; first | refine L.idxa ?_ | refine L.idxd ?_)
    | (show WOpsT _ (⟨_, .bin _ _ _, none⟩ :: _) _ _ _ _; first | refine L.sub ?_ | refine L.bin ?_)
    | (show AKW _ _ _ _ _ _ _; first | refine N.now ?_)
    | (show AK _ _ (.cond _ _ _) _ _ _ _; first | refine N.c1 ?_ | refine N.c2 ?_ | refine N.c3 ?_ | refine N.c4 ?_ | refine N.condD rfl (fun hcd => ?_) (fun hcd => ?_) | refine N.condB rfl (fun hcd => ?_) (fun hcd => ?_) | refine N.condU rfl ?_ ?_)
    | (show AK _ _ _ _ _ _ _; first | refine N.seq ?_ | refine N.block ?_ | refine N.ret ?_)
    | (show RK _ _ _ _ _ _ _; simp only [rk, rk0, reduceIte, Nat.reduceEqDiff])
    | (show WOpsT _ _ _ _ _ _; first | refine L.ext ?_ | refine L.st ?_ | refine L.new ?_ | refine L.zero ?_)
    | refine hQ _ _ _ rfl ?_
    | refine hQN _ _ _ rfl ?_)
    exact WS.drop (n := 0) rfl rfl
def shiftR (d : Int) (t : Nat) (r : Nat → Int) : Nat → Int :=
  let c := if d = 12 ∨ d = 13 then 0 else r 4 % 2
  if d = 12 ∨ d = 14 then resR r t ((2 * (r t % 256) + c) % 256) ((2 * (r t % 256) + c) / 256) else resR r t ((r t % 256 + c * 256) / 2) ((r t % 256 + c * 256) % 2)
theorem shift_ok (d : Int) (t : Nat) (r : Nat → Int) (ht : t < 9) : FnE Try.prog 109 [I d, I t, .agg (ri r)] [] (.agg (ri (shiftR d t r))) [] := by
  have e3 : (t : Int).toNat * 1 = t := by omega
  obtain ⟨c, hc⟩ : ∃ c, r 4 % 2 = c := ⟨_, rfl⟩
  have hc1 : c = 0 ∨ c = 1 := by omega
  have kc := carry_ok r
  rw [hc] at kc
  by_cases h1 : d = 12 ∨ d = 13
  · by_cases h2 : d = 12 ∨ d = 14
    · have hs : shiftR d t r = resR r t ((2 * (r t % 256) + 0) % 256) ((2 * (r t % 256) + 0) / 256) := by unfold shiftR; dsimp only; rw [if_pos h1, if_pos h2]
      rw [hs]
      refine N.fn Try.func109 k109 lb q109 fun Q hQ hQN => ?_
      rw [c109]
      repeat' (first
      | rw [ri_ren]
      | rw [ri_spl0]
      | (show WOpsT _ (⟨_, .ld _ _, none⟩ :: _) _ _ _ _; refine T.ld rfl rfl rfl rfl (ri_get _ _ (by omega)) ?_)
      | rw [e3]
      | refine N.regS fun K hK => ?_
      | refine N.dregS fun K hK => ?_
      | refine N.regN fun K hK => ?_
      | refine N.dregN fun K hK => ?_
      | simp only [T.mv, sm, AO.ev, put, lk, enter, reduceIte, Nat.reduceEqDiff, Nat.reduceAdd, Nat.reduceMul, Nat.reduceSub, Int.reduceNeg, Int.reduceToNat, upto, renB, setAll]
      | (refine T.nil ?_; (first | refine hK _ _ _ (by rfl) ?_ | refine hK _ _ _ ?_); (try simp only [keep, List.map, lk, reduceIte, Nat.reduceEqDiff, enter]); clear hK K)
      | (show WOpsT _ (⟨_, .call _ _, none⟩ :: _) _ _ _ _; first | refine T.call0 e158 rfl (kc) ?_ | refine T.call0 e161 rfl (rol8 (r t) 0 (by omega)) ?_ | refine T.call0 e159 rfl (result_ok _ t _ _ ht) ?_)
      | (show WOpsT _ (⟨_, .ld _ _, none⟩ :: _) _ _ _ _; first | refine L.ld ?_ | refine L.ldd ?_ | refine L.ldn ?_ | refine L.lddn ?_)
      | (show WOpsT _ (⟨_, .idx _ _ _ _, none⟩ :: _) _ _ _ _; first | refine L.idxa ?_ | refine L.idxd ?_)
      | (show WOpsT _ (⟨_, .bin _ _ _, none⟩ :: _) _ _ _ _; first | refine L.bin ?_)
      | (show WOpsT _ (⟨_, _, some (_, false)⟩ :: _) _ _ _ _; first | refine L.goF ?_ | refine L.paF ?_ | refine L.go ?_ | refine L.pass ?_ | refine T.pU rfl ?_ | refine T.gF rfl (fun hgd => ?_) (fun hgd => ?_))
      | (show WOpsT _ (⟨_, .pick _ _ _, none⟩ :: _) _ _ _ _; first | refine L.pkT ?_ | refine L.pkF ?_ | refine L.pickT ?_ | refine L.pickF ?_ | refine L.pickB ?_ | refine T.pkD rfl (fun hgd => ?_) (fun hgd => ?_))
      | (show AKW _ _ _ _ _ _ _; first | refine N.now ?_)
      | (show AK _ _ (.cond _ _ _) _ _ _ _; first | refine N.c1 ?_ | refine N.c2 ?_ | refine N.c3 ?_ | refine N.c4 ?_ | refine N.condD rfl (fun hcd => ?_) (fun hcd => ?_) | refine N.condB rfl (fun hcd => ?_) (fun hcd => ?_) | refine N.condU rfl ?_ ?_)
      | (show AK _ _ _ _ _ _ _; first | refine N.seq ?_ | refine N.skip ?_ | refine N.ret ?_)
      | (show RK _ _ _ _ _ _ _; simp only [rk, rk0, reduceIte, Nat.reduceEqDiff])
      | (show WOpsT _ _ _ _ _ _; first | refine L.ext ?_ | refine L.st ?_ | refine L.new ?_ | refine L.zero ?_)
      | refine hQ _ _ _ rfl ?_
      | refine hQN _ _ _ rfl ?_)
      all_goals exact WS.drop (n := 0) rfl rfl
    · have hs : shiftR d t r = resR r t ((r t % 256 + 0 * 256) / 2) ((r t % 256 + 0 * 256) % 2) := by unfold shiftR; dsimp only; rw [if_pos h1, if_neg h2]
      rw [hs]
      refine N.fn Try.func109 k109 lb q109 fun Q hQ hQN => ?_
      rw [c109]
      repeat' (first
      | rw [ri_ren]
      | rw [ri_spl0]
      | (show WOpsT _ (⟨_, .ld _ _, none⟩ :: _) _ _ _ _; refine T.ld rfl rfl rfl rfl (ri_get _ _ (by omega)) ?_)
      | rw [e3]
      | refine N.regS fun K hK => ?_
      | refine N.dregS fun K hK => ?_
      | refine N.regN fun K hK => ?_
      | refine N.dregN fun K hK => ?_
      | simp only [T.mv, sm, AO.ev, put, lk, enter, reduceIte, Nat.reduceEqDiff, Nat.reduceAdd, Nat.reduceMul, Nat.reduceSub, Int.reduceNeg, Int.reduceToNat, upto, renB, setAll]
      | (refine T.nil ?_; (first | refine hK _ _ _ (by rfl) ?_ | refine hK _ _ _ ?_); (try simp only [keep, List.map, lk, reduceIte, Nat.reduceEqDiff, enter]); clear hK K)
      | (show WOpsT _ (⟨_, .call _ _, none⟩ :: _) _ _ _ _; first | refine T.call0 e158 rfl (kc) ?_ | refine T.call0 e162 rfl (ror8 (r t) 0 (by omega)) ?_ | refine T.call0 e159 rfl (result_ok _ t _ _ ht) ?_)
      | (show WOpsT _ (⟨_, .ld _ _, none⟩ :: _) _ _ _ _; first | refine L.ld ?_ | refine L.ldd ?_ | refine L.ldn ?_ | refine L.lddn ?_)
      | (show WOpsT _ (⟨_, .idx _ _ _ _, none⟩ :: _) _ _ _ _; first | refine L.idxa ?_ | refine L.idxd ?_)
      | (show WOpsT _ (⟨_, .bin _ _ _, none⟩ :: _) _ _ _ _; first | refine L.bin ?_)
      | (show WOpsT _ (⟨_, _, some (_, false)⟩ :: _) _ _ _ _; first | refine L.goF ?_ | refine L.paF ?_ | refine L.go ?_ | refine L.pass ?_ | refine T.pU rfl ?_ | refine T.gF rfl (fun hgd => ?_) (fun hgd => ?_))
      | (show WOpsT _ (⟨_, .pick _ _ _, none⟩ :: _) _ _ _ _; first | refine L.pkT ?_ | refine L.pkF ?_ | refine L.pickT ?_ | refine L.pickF ?_ | refine L.pickB ?_ | refine T.pkD rfl (fun hgd => ?_) (fun hgd => ?_))
      | (show AKW _ _ _ _ _ _ _; first | refine N.now ?_)
      | (show AK _ _ (.cond _ _ _) _ _ _ _; first | refine N.c1 ?_ | refine N.c2 ?_ | refine N.c3 ?_ | refine N.c4 ?_ | refine N.condD rfl (fun hcd => ?_) (fun hcd => ?_) | refine N.condB rfl (fun hcd => ?_) (fun hcd => ?_) | refine N.condU rfl ?_ ?_)
      | (show AK _ _ _ _ _ _ _; first | refine N.seq ?_ | refine N.skip ?_ | refine N.ret ?_)
      | (show RK _ _ _ _ _ _ _; simp only [rk, rk0, reduceIte, Nat.reduceEqDiff])
      | (show WOpsT _ _ _ _ _ _; first | refine L.ext ?_ | refine L.st ?_ | refine L.new ?_ | refine L.zero ?_)
      | refine hQ _ _ _ rfl ?_
      | refine hQN _ _ _ rfl ?_)
      all_goals exact WS.drop (n := 0) rfl rfl
  · by_cases h2 : d = 12 ∨ d = 14
    · have hs : shiftR d t r = resR r t ((2 * (r t % 256) + c) % 256) ((2 * (r t % 256) + c) / 256) := by unfold shiftR; dsimp only; rw [if_neg h1, if_pos h2, hc]
      rw [hs]
      refine N.fn Try.func109 k109 lb q109 fun Q hQ hQN => ?_
      rw [c109]
      repeat' (first
      | rw [ri_ren]
      | rw [ri_spl0]
      | (show WOpsT _ (⟨_, .ld _ _, none⟩ :: _) _ _ _ _; refine T.ld rfl rfl rfl rfl (ri_get _ _ (by omega)) ?_)
      | rw [e3]
      | refine N.regS fun K hK => ?_
      | refine N.dregS fun K hK => ?_
      | refine N.regN fun K hK => ?_
      | refine N.dregN fun K hK => ?_
      | simp only [T.mv, sm, AO.ev, put, lk, enter, reduceIte, Nat.reduceEqDiff, Nat.reduceAdd, Nat.reduceMul, Nat.reduceSub, Int.reduceNeg, Int.reduceToNat, upto, renB, setAll]
      | (refine T.nil ?_; (first | refine hK _ _ _ (by rfl) ?_ | refine hK _ _ _ ?_); (try simp only [keep, List.map, lk, reduceIte, Nat.reduceEqDiff, enter]); clear hK K)
      | (show WOpsT _ (⟨_, .call _ _, none⟩ :: _) _ _ _ _; first | refine T.call0 e158 rfl (kc) ?_ | refine T.call0 e161 rfl (rol8 (r t) c hc1) ?_ | refine T.call0 e159 rfl (result_ok _ t _ _ ht) ?_)
      | (show WOpsT _ (⟨_, .ld _ _, none⟩ :: _) _ _ _ _; first | refine L.ld ?_ | refine L.ldd ?_ | refine L.ldn ?_ | refine L.lddn ?_)
      | (show WOpsT _ (⟨_, .idx _ _ _ _, none⟩ :: _) _ _ _ _; first | refine L.idxa ?_ | refine L.idxd ?_)
      | (show WOpsT _ (⟨_, .bin _ _ _, none⟩ :: _) _ _ _ _; first | refine L.bin ?_)
      | (show WOpsT _ (⟨_, _, some (_, false)⟩ :: _) _ _ _ _; first | refine L.goF ?_ | refine L.paF ?_ | refine L.go ?_ | refine L.pass ?_ | refine T.pU rfl ?_ | refine T.gF rfl (fun hgd => ?_) (fun hgd => ?_))
      | (show WOpsT _ (⟨_, .pick _ _ _, none⟩ :: _) _ _ _ _; first | refine L.pkT ?_ | refine L.pkF ?_ | refine L.pickT ?_ | refine L.pickF ?_ | refine L.pickB ?_ | refine T.pkD rfl (fun hgd => ?_) (fun hgd => ?_))
      | (show AKW _ _ _ _ _ _ _; first | refine N.now ?_)
      | (show AK _ _ (.cond _ _ _) _ _ _ _; first | refine N.c1 ?_ | refine N.c2 ?_ | refine N.c3 ?_ | refine N.c4 ?_ | refine N.condD rfl (fun hcd => ?_) (fun hcd => ?_) | refine N.condB rfl (fun hcd => ?_) (fun hcd => ?_) | refine N.condU rfl ?_ ?_)
      | (show AK _ _ _ _ _ _ _; first | refine N.seq ?_ | refine N.skip ?_ | refine N.ret ?_)
      | (show RK _ _ _ _ _ _ _; simp only [rk, rk0, reduceIte, Nat.reduceEqDiff])
      | (show WOpsT _ _ _ _ _ _; first | refine L.ext ?_ | refine L.st ?_ | refine L.new ?_ | refine L.zero ?_)
      | refine hQ _ _ _ rfl ?_
      | refine hQN _ _ _ rfl ?_)
      all_goals exact WS.drop (n := 0) rfl rfl
    · have hs : shiftR d t r = resR r t ((r t % 256 + c * 256) / 2) ((r t % 256 + c * 256) % 2) := by unfold shiftR; dsimp only; rw [if_neg h1, if_neg h2, hc]
      rw [hs]
      refine N.fn Try.func109 k109 lb q109 fun Q hQ hQN => ?_
      rw [c109]
      repeat' (first
      | rw [ri_ren]
      | rw [ri_spl0]
      | (show WOpsT _ (⟨_, .ld _ _, none⟩ :: _) _ _ _ _; refine T.ld rfl rfl rfl rfl (ri_get _ _ (by omega)) ?_)
      | rw [e3]
      | refine N.regS fun K hK => ?_
      | refine N.dregS fun K hK => ?_
      | refine N.regN fun K hK => ?_
      | refine N.dregN fun K hK => ?_
      | simp only [T.mv, sm, AO.ev, put, lk, enter, reduceIte, Nat.reduceEqDiff, Nat.reduceAdd, Nat.reduceMul, Nat.reduceSub, Int.reduceNeg, Int.reduceToNat, upto, renB, setAll]
      | (refine T.nil ?_; (first | refine hK _ _ _ (by rfl) ?_ | refine hK _ _ _ ?_); (try simp only [keep, List.map, lk, reduceIte, Nat.reduceEqDiff, enter]); clear hK K)
      | (show WOpsT _ (⟨_, .call _ _, none⟩ :: _) _ _ _ _; first | refine T.call0 e158 rfl (kc) ?_ | refine T.call0 e162 rfl (ror8 (r t) c hc1) ?_ | refine T.call0 e159 rfl (result_ok _ t _ _ ht) ?_)
      | (show WOpsT _ (⟨_, .ld _ _, none⟩ :: _) _ _ _ _; first | refine L.ld ?_ | refine L.ldd ?_ | refine L.ldn ?_ | refine L.lddn ?_)
      | (show WOpsT _ (⟨_, .idx _ _ _ _, none⟩ :: _) _ _ _ _; first | refine L.idxa ?_ | refine L.idxd ?_)
      | (show WOpsT _ (⟨_, .bin _ _ _, none⟩ :: _) _ _ _ _; first | refine L.bin ?_)
      | (show WOpsT _ (⟨_, _, some (_, false)⟩ :: _) _ _ _ _; first | refine L.goF ?_ | refine L.paF ?_ | refine L.go ?_ | refine L.pass ?_ | refine T.pU rfl ?_ | refine T.gF rfl (fun hgd => ?_) (fun hgd => ?_))
      | (show WOpsT _ (⟨_, .pick _ _ _, none⟩ :: _) _ _ _ _; first | refine L.pkT ?_ | refine L.pkF ?_ | refine L.pickT ?_ | refine L.pickF ?_ | refine L.pickB ?_ | refine T.pkD rfl (fun hgd => ?_) (fun hgd => ?_))
      | (show AKW _ _ _ _ _ _ _; first | refine N.now ?_)
      | (show AK _ _ (.cond _ _ _) _ _ _ _; first | refine N.c1 ?_ | refine N.c2 ?_ | refine N.c3 ?_ | refine N.c4 ?_ | refine N.condD rfl (fun hcd => ?_) (fun hcd => ?_) | refine N.condB rfl (fun hcd => ?_) (fun hcd => ?_) | refine N.condU rfl ?_ ?_)
      | (show AK _ _ _ _ _ _ _; first | refine N.seq ?_ | refine N.skip ?_ | refine N.ret ?_)
      | (show RK _ _ _ _ _ _ _; simp only [rk, rk0, reduceIte, Nat.reduceEqDiff])
      | (show WOpsT _ _ _ _ _ _; first | refine L.ext ?_ | refine L.st ?_ | refine L.new ?_ | refine L.zero ?_)
      | refine hQ _ _ _ rfl ?_
      | refine hQN _ _ _ rfl ?_)
      all_goals exact WS.drop (n := 0) rfl rfl
end Go.Proofs.Ytjmmompbmjhkpaa.Calc

namespace Go.Proofs.Ytjmmompbmjhkpaa.Calc
open Go Code
set_option linter.unusedSimpArgs false
set_option linter.unusedVariables false
set_option maxRecDepth 20000
set_option maxHeartbeats 8000000
attribute [local irreducible] WOpsT AW AK RK AKW UK UC
def midR (d : Int) (t f : Nat) (n : Int) (r : Nat → Int) : Nat → Int :=
  if d = 1 then upd r t (r f)
  else if d = 2 then upd r t n
  else if d = 3 then nzR r (r t % 256)
  else if 4 ≤ d ∧ d ≤ 9 then binR d t f r
  else if d = 10 ∨ d = 11 then
    let m := (r t + 1 - 2 * (d - 10)) % 2 ^ wd (bitsR t)
    upd (if t = 7 ∨ t = 8 then r else nzR r m) t m
  else if 12 ≤ d ∧ d ≤ 15 then shiftR d t r
  else if d = 16 ∨ d = 17 then flagR r (n % 256) (decide (d = 16))
  else if d = 18 then upd r t (putv (r t) 0 8 (r f))
  else if d = 19 then upd r t (putv (r t) 8 8 (r f))
  else if d = 20 then upd r t (r f / 2 ^ 0 % 2 ^ 8)
  else if d = 21 then upd r t (r f / 2 ^ 8 % 2 ^ 8)
  else if d = 22 then upd r t (r t + r f % 256)
  else if d = 23 then upd r t (r t + sgn8 (r f))
  else r
def doR (d t f n : Int) (r : Nat → Int) : (Nat → Int) × Bool :=
  if d = 24 then (fitR r, xor (decide (bits .and .i64 (fitR r 4) (n % 256) ≠ 0)) (decide (f = 1)))
  else (fitR (midR d (ixR t) (ixR f) n (fitR r)), false)
theorem low8 (v : Int) : FnE Try.prog 35 [I v, I 8] [] (I (v % 256)) [] := low_lit v 8 8 rfl (by decide)
end Go.Proofs.Ytjmmompbmjhkpaa.Calc

namespace Go.Proofs.Ytjmmompbmjhkpaa.Calc
open Go
set_option linter.unusedVariables false
def coA (r : Nat → Int) (op a : Int) (nmi : Bool) : List V := [I (r 0), I (r 1), I (r 2), I (r 3), I (r 4), I (r 5), I (r 6), I (r 7), I (r 8), I op, I a, .c (.bool nmi)]
structure Core where
  r : Nat → Int
  op : Int
  a : Int
  nmi : Bool
def coC (k : Core) : List V := coA k.r k.op k.a k.nmi
def cycM (c : Cpu) (op : Int) : List Cyc :=
  if op = 256 then c.irq else if op = 257 then c.nmi else if op = 258 then c.res
  else if 0 ≤ op ∧ op ≤ 255 then (match c.ins.findIdx? (fun x => decide (x.op = op)) with
    | some i => (match c.ins[i]? with | some x => x.cy | none => [])
    | none => []) else []
def doingM (c : Cpu) (op a : Int) : Option Cyc := if op = -1 ∨ a < 0 then none else (cycM c op)[a.toNat]?
def fixM (a : Int) : Int := [65534, 65535, 65530, 65531, 65532, 65533].getD (a - 6).toNat 0
def placeM (a : Int) (r : Nat → Int) : Int × (Nat → Int) :=
  if a = 0 then (r 7, upd r 7 ((r 7 + 1) % 65536))
  else if a = 1 then (r 7, r)
  else if a = 2 then (r 8, r)
  else if a = 3 then ((r 8 + 1) % 65536, r)
  else if a = 4 then (256 + r 3, upd r 3 ((r 3 - 1) % 256))
  else if a = 5 then (256 + (r 3 + 1) % 256, upd r 3 ((r 3 + 1) % 256))
  else if a < 0 ∨ 12 ≤ a then (0, r)
  else (fixM a, r)
def startM (c : Cpu) (k : Core) (irq : Bool) : Core :=
  if k.nmi = true ∧ 0 < c.nmi.length then ⟨k.r, 257, 0, false⟩
  else if irq = true ∧ bits .and .i64 (k.r 4) 4 = 0 ∧ 0 < c.irq.length then ⟨k.r, 256, 0, k.nmi⟩
  else k
structure Bus where
  d : Int
  addr : Int
  data : Int
def buC (b : Bus) : List V := [I b.d, I b.addr, I b.data]
def askA (c : Cpu) (k : Core) (irq : Bool) : Core := if k.op = -1 then startM c ⟨fitR k.r, k.op, k.a, k.nmi⟩ irq else ⟨fitR k.r, k.op, k.a, k.nmi⟩
def dataM (x : Cyc) (r : Nat → Int) : Int := if x.bus = 2 ∧ 0 ≤ x.reg ∧ x.reg < 9 then r x.reg.toNat % 256 else 0
def askB (c : Cpu) (k : Core) : Core × Bus :=
  if k.op = -1 then (⟨(placeM 0 k.r).2, k.op, k.a, k.nmi⟩, ⟨1, (placeM 0 k.r).1, 0⟩)
  else match doingM c k.op k.a with
    | none => (k, ⟨0, 0, 0⟩)
    | some x => if x.bus = 0 then (k, ⟨0, 0, 0⟩) else (⟨(placeM x.at_ k.r).2, k.op, k.a, k.nmi⟩, ⟨x.bus, (placeM x.at_ k.r).1, dataM x k.r⟩)
def askM (c : Cpu) (k : Core) (irq : Bool) : Core × Bus := askB c (askA c k irq)
def stepsM : List Stp → (Nat → Int) → (Nat → Int) × Bool
  | [], r => (r, false)
  | s :: l, r => if (doR s.op s.to s.fr s.n r).2 = true then ((doR s.op s.to s.fr s.n r).1, true) else stepsM l (doR s.op s.to s.fr s.n r).1
def regM (x : Cyc) (r : Nat → Int) (data : Int) : Nat → Int := if x.bus = 1 ∧ 0 ≤ x.reg ∧ x.reg < 9 then upd r x.reg.toNat data else r
def tellA (c : Cpu) (r : Nat → Int) (a : Int) (nmi : Bool) (data : Int) : Core :=
  if (gotM (fun x => decide (x.op = data)) c.ins).2 = false then ⟨r, 259, 0, nmi⟩
  else if 0 < (gotM (fun x => decide (x.op = data)) c.ins).1.cy.length then ⟨r, data, 0, nmi⟩ else ⟨r, -1, 0, nmi⟩
def tellB (c : Cpu) (k : Core) (data : Int) : Core := match doingM c k.op k.a with
    | none => if k.op = 259 then k else ⟨k.r, -1, 0, k.nmi⟩
    | some x =>
      if (stepsM x.steps (regM x k.r data)).2 = true ∨ ((cycM c k.op).length : Int) ≤ k.a + 1 then ⟨(stepsM x.steps (regM x k.r data)).1, -1, 0, k.nmi⟩
      else ⟨(stepsM x.steps (regM x k.r data)).1, k.op, k.a + 1, k.nmi⟩
def tellM (c : Cpu) (k : Core) (data : Int) : Core :=
  if k.op = -1 then tellA c (fitR k.r) k.a k.nmi (data % 256) else tellB c ⟨fitR k.r, k.op, k.a, k.nmi⟩ (data % 256)
end Go.Proofs.Ytjmmompbmjhkpaa.Calc

namespace Go.Proofs.Ytjmmompbmjhkpaa.Calc
open Go Code
set_option linter.unusedSimpArgs false
set_option linter.unusedVariables false
set_option maxRecDepth 20000
set_option maxHeartbeats 16000000
attribute [local irreducible] WOpsT AW AK RK AKW UK UC
theorem sgn8_in (v : Int) : -128 ≤ sgn8 v ∧ sgn8 v < 128 := by unfold sgn8; split <;> omega
theorem doGa_ok (d t f n : Int) (r : Nat → Int) (hd : d = 1 ∨ d = 2 ∨ d = 3 ∨ d = 16 ∨ d = 17 ∨ d = 18) : FnE Try.prog 54 [.agg [I d, I t, I f, I n], .agg (ri r)] [] (.tup [.agg (ri (doR d t f n r).1), .c (.bool (doR d t f n r).2)]) [] := by
  have iT := index_ok t
  have iF := index_ok f
  have kF := Fit_ok r
  have hRf := fitR_fits r
  have hs : doR d t f n r = (fitR (midR d (ixR t) (ixR f) n (fitR r)), false) := by unfold doR; rw [if_neg (by omega)]
  rw [hs]
  obtain ⟨q, hq⟩ : ∃ q, fitR r = q := ⟨_, rfl⟩
  rw [hq] at kF hRf ⊢
  have hT := ixR_lt t
  have hF := ixR_lt f
  obtain ⟨a, ha⟩ : ∃ a, ixR t = a := ⟨_, rfl⟩
  obtain ⟨b, hb⟩ : ∃ b, ixR f = b := ⟨_, rfl⟩
  rw [ha] at iT hT ⊢
  rw [hb] at iF hF ⊢
  have rT := hRf a hT
  have rF := hRf b hF
  have sT : 0 ≤ q a ∧ q a < 65536 := by split at rT <;> omega
  have sF : 0 ≤ q b ∧ q b < 65536 := by split at rF <;> omega
  have eT : (a : Int).toNat * 1 = a := by omega
  have eF : (b : Int).toNat * 1 = b := by omega
  have sg := sgn8_in (q b)
  rcases hd with rfl | rfl | rfl | rfl | rfl | rfl
  all_goals
    refine N.fn Try.func54 k54 lb q54 fun Q hQ hQN => ?_
    rw [c54]
    repeat' (first
    | rw [ri_ren]
    | rw [ri_spl0]
    | rw [ri_splz]
    | (show WOpsT _ (⟨_, .ld _ _, none⟩ :: _) _ _ _ _; refine T.ld rfl rfl rfl rfl (ri_get _ _ (by omega)) ?_)
    | rw [eT]
    | rw [eF]
    | (show WOpsT _ (⟨_, .st _ _ _, none⟩ :: _) _ _ _ _; refine T.st rfl rfl rfl ⟨rfl, rfl⟩ rfl (show _ ≤ 9 by omega) ?_)
    | rw [ri_spl _ _ _ hT]
    | refine N.regS fun K hK => ?_
    | refine N.dregS fun K hK => ?_
    | refine N.regN fun K hK => ?_
    | refine N.dregN fun K hK => ?_
    | simp only [T.mv, sm, AO.ev, put, lk, enter, reduceIte, Nat.reduceEqDiff, Nat.reduceAdd, Nat.reduceMul, Nat.reduceSub, Int.reduceNeg, Int.reduceToNat, upto, renB, setAll]
    | (refine T.nil ?_; (first | refine hK _ _ _ (by rfl) ?_ | refine hK _ _ _ ?_); (try simp only [keep, List.map, lk, reduceIte, Nat.reduceEqDiff, enter]); clear hK K)
    | (show WOpsT _ (⟨_, .call _ _, none⟩ :: _) _ _ _ _; first | refine T.call0 e105 rfl (iT) ?_ | refine T.call0 e105 rfl (iF) ?_ | refine T.call0 e57 rfl (kF) ?_ | refine T.call0 e57 rfl (Fit_ok _) ?_ | refine T.call0 e35 rfl (low8 _) ?_ | refine T.call0 e106 rfl (nz_ok _ _) ?_ | refine T.call0 e110 rfl (flag_ok _ _ _) ?_ | refine T.call0 e95 rfl (put_ok _ _ 0 8 (by decide)) ?_)
    | (show WOpsT _ (⟨_, .ld _ _, none⟩ :: _) _ _ _ _; first | refine L.ld ?_ | refine L.ldd ?_ | refine L.ldn ?_ | refine L.lddn ?_)
    | (show WOpsT _ (⟨_, .idx _ _ _ _, none⟩ :: _) _ _ _ _; first | refine L.idxa ?_ | refine L.idxd ?_)
    | (show WOpsT _ (⟨_, .bin _ _ _, none⟩ :: _) _ _ _ _; first | refine L.add ?_ | refine L.sub ?_ | refine T.mul rfl rfl (by omega) (by omega) ?_ | refine L.bin ?_)
    | (show AKW _ _ _ _ _ _ _; first | refine N.now ?_)
    | (show AK _ _ (.cond _ _ _) _ _ _ _; first | refine N.c1 ?_ | refine N.c2 ?_ | refine N.c3 ?_ | refine N.c4 ?_ | refine N.condD rfl (fun hcd => ?_) (fun hcd => ?_) | refine N.condB rfl (fun hcd => ?_) (fun hcd => ?_) | refine N.condU rfl ?_ ?_)
    | (show AK _ _ _ _ _ _ _; first | refine N.seq ?_ | refine N.block ?_ | refine N.skip ?_ | refine N.ret ?_)
    | (show RK _ _ _ _ _ _ _; simp only [rk, rk0, reduceIte, Nat.reduceEqDiff])
    | (show WOpsT _ _ _ _ _ _; first | refine T.notD rfl ?_ | refine T.not rfl ?_ | refine T.eqb0 rfl rfl ?_ | refine T.eqb1 rfl rfl ?_ | refine L.fad ?_ | refine L.fadd ?_ | refine L.st ?_ | refine L.new ?_ | refine L.zero ?_)
    | refine hQ _ _ _ rfl ?_
    | refine hQN _ _ _ rfl ?_)
    exact WS.drop (n := 0) rfl rfl
theorem doGb_ok (d t f n : Int) (r : Nat → Int) (hd : d = 19 ∨ d = 20 ∨ d = 21 ∨ d = 22 ∨ d = 23) : FnE Try.prog 54 [.agg [I d, I t, I f, I n], .agg (ri r)] [] (.tup [.agg (ri (doR d t f n r).1), .c (.bool (doR d t f n r).2)]) [] := by
  have iT := index_ok t
  have iF := index_ok f
  have kF := Fit_ok r
  have hRf := fitR_fits r
  have hs : doR d t f n r = (fitR (midR d (ixR t) (ixR f) n (fitR r)), false) := by unfold doR; rw [if_neg (by omega)]
  rw [hs]
  obtain ⟨q, hq⟩ : ∃ q, fitR r = q := ⟨_, rfl⟩
  rw [hq] at kF hRf ⊢
  have hT := ixR_lt t
  have hF := ixR_lt f
  obtain ⟨a, ha⟩ : ∃ a, ixR t = a := ⟨_, rfl⟩
  obtain ⟨b, hb⟩ : ∃ b, ixR f = b := ⟨_, rfl⟩
  rw [ha] at iT hT ⊢
  rw [hb] at iF hF ⊢
  have rT := hRf a hT
  have rF := hRf b hF
  have sT : 0 ≤ q a ∧ q a < 65536 := by split at rT <;> omega
  have sF : 0 ≤ q b ∧ q b < 65536 := by split at rF <;> omega
  have eT : (a : Int).toNat * 1 = a := by omega
  have eF : (b : Int).toNat * 1 = b := by omega
  have sg := sgn8_in (q b)
  rcases hd with rfl | rfl | rfl | rfl | rfl
  all_goals
    refine N.fn Try.func54 k54 lb q54 fun Q hQ hQN => ?_
    rw [c54]
    repeat' (first
    | rw [ri_ren]
    | rw [ri_spl0]
    | rw [ri_splz]
    | (show WOpsT _ (⟨_, .ld _ _, none⟩ :: _) _ _ _ _; refine T.ld rfl rfl rfl rfl (ri_get _ _ (by omega)) ?_)
    | rw [eT]
    | rw [eF]
    | (show WOpsT _ (⟨_, .st _ _ _, none⟩ :: _) _ _ _ _; refine T.st rfl rfl rfl ⟨rfl, rfl⟩ rfl (show _ ≤ 9 by omega) ?_)
    | rw [ri_spl _ _ _ hT]
    | refine N.regS fun K hK => ?_
    | refine N.dregS fun K hK => ?_
    | refine N.regN fun K hK => ?_
    | refine N.dregN fun K hK => ?_
    | simp only [T.mv, sm, AO.ev, put, lk, enter, reduceIte, Nat.reduceEqDiff, Nat.reduceAdd, Nat.reduceMul, Nat.reduceSub, Int.reduceNeg, Int.reduceToNat, upto, renB, setAll]
    | (refine T.nil ?_; (first | refine hK _ _ _ (by rfl) ?_ | refine hK _ _ _ ?_); (try simp only [keep, List.map, lk, reduceIte, Nat.reduceEqDiff, enter]); clear hK K)
    | (show WOpsT _ (⟨_, .call _ _, none⟩ :: _) _ _ _ _; first | refine T.call0 e105 rfl (iT) ?_ | refine T.call0 e105 rfl (iF) ?_ | refine T.call0 e57 rfl (kF) ?_ | refine T.call0 e57 rfl (Fit_ok _) ?_ | refine T.call0 e35 rfl (low8 _) ?_ | refine T.call0 e99 rfl (get_ok _ 0 8 (by decide)) ?_ | refine T.call0 e99 rfl (get_ok _ 8 8 (by decide)) ?_ | refine T.call0 e95 rfl (put_ok _ _ 8 8 (by decide)) ?_ | refine T.call0 e111 rfl (signed8 _) ?_)
    | (show WOpsT _ (⟨_, .ld _ _, none⟩ :: _) _ _ _ _; first | refine L.ld ?_ | refine L.ldd ?_ | refine L.ldn ?_ | refine L.lddn ?_)
    | (show WOpsT _ (⟨_, .idx _ _ _ _, none⟩ :: _) _ _ _ _; first | refine L.idxa ?_ | refine L.idxd ?_)
    | (show WOpsT _ (⟨_, .bin _ _ _, none⟩ :: _) _ _ _ _; first | refine L.add ?_ | refine L.sub ?_ | refine T.mul rfl rfl (by omega) (by omega) ?_ | refine L.bin ?_)
    | (show AKW _ _ _ _ _ _ _; first | refine N.now ?_)
    | (show AK _ _ (.cond _ _ _) _ _ _ _; first | refine N.c1 ?_ | refine N.c2 ?_ | refine N.c3 ?_ | refine N.c4 ?_ | refine N.condD rfl (fun hcd => ?_) (fun hcd => ?_) | refine N.condB rfl (fun hcd => ?_) (fun hcd => ?_) | refine N.condU rfl ?_ ?_)
    | (show AK _ _ _ _ _ _ _; first | refine N.seq ?_ | refine N.block ?_ | refine N.skip ?_ | refine N.ret ?_)
    | (show RK _ _ _ _ _ _ _; simp only [rk, rk0, reduceIte, Nat.reduceEqDiff])
    | (show WOpsT _ _ _ _ _ _; first | refine T.notD rfl ?_ | refine T.not rfl ?_ | refine T.eqb0 rfl rfl ?_ | refine T.eqb1 rfl rfl ?_ | refine L.fad ?_ | refine L.fadd ?_ | refine L.st ?_ | refine L.new ?_ | refine L.zero ?_)
    | refine hQ _ _ _ rfl ?_
    | refine hQN _ _ _ rfl ?_)
    exact WS.drop (n := 0) rfl rfl
theorem doGc_ok (d t f n : Int) (r : Nat → Int) (hd : d = 4 ∨ d = 5 ∨ d = 6 ∨ d = 7 ∨ d = 8 ∨ d = 9) : FnE Try.prog 54 [.agg [I d, I t, I f, I n], .agg (ri r)] [] (.tup [.agg (ri (doR d t f n r).1), .c (.bool (doR d t f n r).2)]) [] := by
  have iT := index_ok t
  have iF := index_ok f
  have kF := Fit_ok r
  have hRf := fitR_fits r
  have hs : doR d t f n r = (fitR (midR d (ixR t) (ixR f) n (fitR r)), false) := by unfold doR; rw [if_neg (by omega)]
  rw [hs]
  obtain ⟨q, hq⟩ : ∃ q, fitR r = q := ⟨_, rfl⟩
  rw [hq] at kF hRf ⊢
  have hT := ixR_lt t
  have hF := ixR_lt f
  obtain ⟨a, ha⟩ : ∃ a, ixR t = a := ⟨_, rfl⟩
  obtain ⟨b, hb⟩ : ∃ b, ixR f = b := ⟨_, rfl⟩
  rw [ha] at iT hT ⊢
  rw [hb] at iF hF ⊢
  have rT := hRf a hT
  have rF := hRf b hF
  have sT : 0 ≤ q a ∧ q a < 65536 := by split at rT <;> omega
  have sF : 0 ≤ q b ∧ q b < 65536 := by split at rF <;> omega
  have eT : (a : Int).toNat * 1 = a := by omega
  have eF : (b : Int).toNat * 1 = b := by omega
  have sg := sgn8_in (q b)
  have hm : midR d a b n q = binR d a b q := by unfold midR; rw [if_neg (by omega), if_neg (by omega), if_neg (by omega), if_pos (by omega)]
  have hbin := binary_ok d a b q hT hF
  rw [hm]
  clear hm hs
  generalize binR d a b q = z at *
  rcases hd with rfl | rfl | rfl | rfl | rfl | rfl
  all_goals
    refine N.fn Try.func54 k54 lb q54 fun Q hQ hQN => ?_
    rw [c54]
    repeat' (first
    | rw [ri_ren]
    | rw [ri_spl0]
    | rw [ri_splz]
    | (show WOpsT _ (⟨_, .ld _ _, none⟩ :: _) _ _ _ _; refine T.ld rfl rfl rfl rfl (ri_get _ _ (by omega)) ?_)
    | rw [eT]
    | rw [eF]
    | refine N.regS fun K hK => ?_
    | refine N.dregS fun K hK => ?_
    | refine N.regN fun K hK => ?_
    | refine N.dregN fun K hK => ?_
    | simp only [T.mv, sm, AO.ev, put, lk, enter, reduceIte, Nat.reduceEqDiff, Nat.reduceAdd, Nat.reduceMul, Nat.reduceSub, Int.reduceNeg, Int.reduceToNat, upto, renB, setAll]
    | (refine T.nil ?_; (first | refine hK _ _ _ (by rfl) ?_ | refine hK _ _ _ ?_); (try simp only [keep, List.map, lk, reduceIte, Nat.reduceEqDiff, enter]); clear hK K)
    | (show WOpsT _ (⟨_, .call _ _, none⟩ :: _) _ _ _ _; first | refine T.call0 e105 rfl (iT) ?_ | refine T.call0 e105 rfl (iF) ?_ | refine T.call0 e57 rfl (kF) ?_ | refine T.call0 e57 rfl (Fit_ok _) ?_ | refine T.call0 e107 rfl (hbin) ?_)
    | (show WOpsT _ (⟨_, .ld _ _, none⟩ :: _) _ _ _ _; first | refine L.ld ?_ | refine L.ldd ?_ | refine L.ldn ?_ | refine L.lddn ?_)
    | (show WOpsT _ (⟨_, .idx _ _ _ _, none⟩ :: _) _ _ _ _; first | refine L.idxa ?_ | refine L.idxd ?_)
    | (show WOpsT _ (⟨_, .bin _ _ _, none⟩ :: _) _ _ _ _; first | refine L.add ?_ | refine L.sub ?_ | refine T.mul rfl rfl (by omega) (by omega) ?_ | refine L.bin ?_)
    | (show AKW _ _ _ _ _ _ _; first | refine N.now ?_)
    | (show AK _ _ (.cond _ _ _) _ _ _ _; first | refine N.c1 ?_ | refine N.c2 ?_ | refine N.c3 ?_ | refine N.c4 ?_ | refine N.condD rfl (fun hcd => ?_) (fun hcd => ?_) | refine N.condB rfl (fun hcd => ?_) (fun hcd => ?_) | refine N.condU rfl ?_ ?_)
    | (show AK _ _ _ _ _ _ _; first | refine N.seq ?_ | refine N.block ?_ | refine N.skip ?_ | refine N.ret ?_)
    | (show RK _ _ _ _ _ _ _; simp only [rk, rk0, reduceIte, Nat.reduceEqDiff])
    | (show WOpsT _ _ _ _ _ _; first | refine T.notD rfl ?_ | refine T.not rfl ?_ | refine T.eqb0 rfl rfl ?_ | refine T.eqb1 rfl rfl ?_ | refine L.fad ?_ | refine L.fadd ?_ | refine L.st ?_ | refine L.new ?_ | refine L.zero ?_)
    | refine hQ _ _ _ rfl ?_
    | refine hQN _ _ _ rfl ?_)
    exact WS.drop (n := 0) rfl rfl
theorem doGd_ok (d t f n : Int) (r : Nat → Int) (hd : d = 12 ∨ d = 13 ∨ d = 14 ∨ d = 15) : FnE Try.prog 54 [.agg [I d, I t, I f, I n], .agg (ri r)] [] (.tup [.agg (ri (doR d t f n r).1), .c (.bool (doR d t f n r).2)]) [] := by
  have iT := index_ok t
  have iF := index_ok f
  have kF := Fit_ok r
  have hRf := fitR_fits r
  have hs : doR d t f n r = (fitR (midR d (ixR t) (ixR f) n (fitR r)), false) := by unfold doR; rw [if_neg (by omega)]
  rw [hs]
  obtain ⟨q, hq⟩ : ∃ q, fitR r = q := ⟨_, rfl⟩
  rw [hq] at kF hRf ⊢
  have hT := ixR_lt t
  have hF := ixR_lt f
  obtain ⟨a, ha⟩ : ∃ a, ixR t = a := ⟨_, rfl⟩
  obtain ⟨b, hb⟩ : ∃ b, ixR f = b := ⟨_, rfl⟩
  rw [ha] at iT hT ⊢
  rw [hb] at iF hF ⊢
  have rT := hRf a hT
  have rF := hRf b hF
  have sT : 0 ≤ q a ∧ q a < 65536 := by split at rT <;> omega
  have sF : 0 ≤ q b ∧ q b < 65536 := by split at rF <;> omega
  have eT : (a : Int).toNat * 1 = a := by omega
  have eF : (b : Int).toNat * 1 = b := by omega
  have sg := sgn8_in (q b)
  have hm : midR d a b n q = shiftR d a q := by unfold midR; rw [if_neg (by omega), if_neg (by omega), if_neg (by omega), if_neg (by omega), if_neg (by omega), if_pos (by omega)]
  have hsh := shift_ok d a q hT
  rw [hm]
  clear hm hs
  generalize shiftR d a q = z at *
  rcases hd with rfl | rfl | rfl | rfl
  all_goals
    refine N.fn Try.func54 k54 lb q54 fun Q hQ hQN => ?_
    rw [c54]
    repeat' (first
    | rw [ri_ren]
    | rw [ri_spl0]
    | rw [ri_splz]
    | (show WOpsT _ (⟨_, .ld _ _, none⟩ :: _) _ _ _ _; refine T.ld rfl rfl rfl rfl (ri_get _ _ (by omega)) ?_)
    | rw [eT]
    | rw [eF]
    | refine N.regS fun K hK => ?_
    | refine N.dregS fun K hK => ?_
    | refine N.regN fun K hK => ?_
    | refine N.dregN fun K hK => ?_
    | simp only [T.mv, sm, AO.ev, put, lk, enter, reduceIte, Nat.reduceEqDiff, Nat.reduceAdd, Nat.reduceMul, Nat.reduceSub, Int.reduceNeg, Int.reduceToNat, upto, renB, setAll]
    | (refine T.nil ?_; (first | refine hK _ _ _ (by rfl) ?_ | refine hK _ _ _ ?_); (try simp only [keep, List.map, lk, reduceIte, Nat.reduceEqDiff, enter]); clear hK K)
    | (show WOpsT _ (⟨_, .call _ _, none⟩ :: _) _ _ _ _; first | refine T.call0 e105 rfl (iT) ?_ | refine T.call0 e105 rfl (iF) ?_ | refine T.call0 e57 rfl (kF) ?_ | refine T.call0 e57 rfl (Fit_ok _) ?_ | refine T.call0 e109 rfl (hsh) ?_)
    | (show WOpsT _ (⟨_, .ld _ _, none⟩ :: _) _ _ _ _; first | refine L.ld ?_ | refine L.ldd ?_ | refine L.ldn ?_ | refine L.lddn ?_)
    | (show WOpsT _ (⟨_, .idx _ _ _ _, none⟩ :: _) _ _ _ _; first | refine L.idxa ?_ | refine L.idxd ?_)
    | (show WOpsT _ (⟨_, .bin _ _ _, none⟩ :: _) _ _ _ _; first | refine L.add ?_ | refine L.sub ?_ | refine T.mul rfl rfl (by omega) (by omega) ?_ | refine L.bin ?_)
    | (show AKW _ _ _ _ _ _ _; first | refine N.now ?_)
    | (show AK _ _ (.cond _ _ _) _ _ _ _; first | refine N.c1 ?_ | refine N.c2 ?_ | refine N.c3 ?_ | refine N.c4 ?_ | refine N.condD rfl (fun hcd => ?_) (fun hcd => ?_) | refine N.condB rfl (fun hcd => ?_) (fun hcd => ?_) | refine N.condU rfl ?_ ?_)
    | (show AK _ _ _ _ _ _ _; first | refine N.seq ?_ | refine N.block ?_ | refine N.skip ?_ | refine N.ret ?_)
    | (show RK _ _ _ _ _ _ _; simp only [rk, rk0, reduceIte, Nat.reduceEqDiff])
    | (show WOpsT _ _ _ _ _ _; first | refine T.notD rfl ?_ | refine T.not rfl ?_ | refine T.eqb0 rfl rfl ?_ | refine T.eqb1 rfl rfl ?_ | refine L.fad ?_ | refine L.fadd ?_ | refine L.st ?_ | refine L.new ?_ | refine L.zero ?_)
    | refine hQ _ _ _ rfl ?_
    | refine hQN _ _ _ rfl ?_)
    exact WS.drop (n := 0) rfl rfl
theorem doI_ok (d t f n : Int) (r : Nat → Int) (hd : d = 10 ∨ d = 11) : FnE Try.prog 54 [.agg [I d, I t, I f, I n], .agg (ri r)] [] (.tup [.agg (ri (doR d t f n r).1), .c (.bool (doR d t f n r).2)]) [] := by
  have iT := index_ok t
  have iF := index_ok f
  have kF := Fit_ok r
  have hRf := fitR_fits r
  have hs : doR d t f n r = (fitR (midR d (ixR t) (ixR f) n (fitR r)), false) := by unfold doR; rw [if_neg (by omega)]
  rw [hs]
  obtain ⟨q, hq⟩ : ∃ q, fitR r = q := ⟨_, rfl⟩
  rw [hq] at kF hRf ⊢
  have hT := ixR_lt t
  have hF := ixR_lt f
  obtain ⟨a, ha⟩ : ∃ a, ixR t = a := ⟨_, rfl⟩
  obtain ⟨b, hb⟩ : ∃ b, ixR f = b := ⟨_, rfl⟩
  rw [ha] at iT hT ⊢
  rw [hb] at iF hF ⊢
  have rT := hRf a hT
  have rF := hRf b hF
  have sT : 0 ≤ q a ∧ q a < 65536 := by split at rT <;> omega
  have sF : 0 ≤ q b ∧ q b < 65536 := by split at rF <;> omega
  have eT : (a : Int).toNat * 1 = a := by omega
  have eF : (b : Int).toNat * 1 = b := by omega
  have hl := low_ok (q a + 1 - 2 * (d - 10)) (bitsR a)
  have hm : midR d a b n q = upd (if a = 7 ∨ a = 8 then q else nzR q ((q a + 1 - 2 * (d - 10)) % 2 ^ wd (bitsR a))) a ((q a + 1 - 2 * (d - 10)) % 2 ^ wd (bitsR a)) := by
    rcases hd with rfl | rfl <;> rfl
  rw [hm]
  have hw : wide a = decide ((a : Int) = 7 ∨ (a : Int) = 8) := rfl
  obtain ⟨m, hm2⟩ : ∃ m, (q a + 1 - 2 * (d - 10)) % 2 ^ wd (bitsR a) = m := ⟨_, rfl⟩
  rw [hm2] at hl ⊢
  obtain ⟨w, hw2, hz⟩ : ∃ w, wide a = w ∧ (if a = 7 ∨ a = 8 then q else nzR q m) = if w = true then q else nzR q m := by
    by_cases h7 : a = 7 ∨ a = 8
    · exact ⟨true, by rw [hw]; exact decide_eq_true (by omega), by rw [if_pos h7, if_pos rfl]⟩
    · exact ⟨false, by rw [hw]; exact decide_eq_false (by omega), by rw [if_neg h7, if_neg (by decide)]⟩
  rw [hz]
  clear hz hs hm hw
  rcases hd with rfl | rfl <;> cases w
  all_goals
    refine N.fn Try.func54 k54 lb q54 fun Q hQ hQN => ?_
    rw [c54]
    repeat' (first
    | rw [ri_ren]
    | rw [ri_spl0]
    | rw [ri_splz]
    | (show WOpsT _ (⟨_, .ld _ _, none⟩ :: _) _ _ _ _; refine T.ld rfl rfl rfl rfl (ri_get _ _ (by omega)) ?_)
    | rw [eT]
    | rw [eF]
    | rw [hw2]
    | (show WOpsT _ (⟨_, .st _ _ _, none⟩ :: _) _ _ _ _; refine T.st rfl rfl rfl ⟨rfl, rfl⟩ rfl (show _ ≤ 9 by omega) ?_)
    | rw [ri_spl _ _ _ hT]
    | refine N.regS fun K hK => ?_
    | refine N.dregS fun K hK => ?_
    | refine N.regN fun K hK => ?_
    | refine N.dregN fun K hK => ?_
    | simp only [T.mv, sm, AO.ev, put, lk, enter, reduceIte, Nat.reduceEqDiff, Nat.reduceAdd, Nat.reduceMul, Nat.reduceSub, Int.reduceNeg, Int.reduceToNat, upto, renB, setAll]
    | (refine T.nil ?_; (first | refine hK _ _ _ (by rfl) ?_ | refine hK _ _ _ ?_); (try simp only [keep, List.map, lk, reduceIte, Nat.reduceEqDiff, enter]); clear hK K)
    | (show WOpsT _ (⟨_, .call _ _, none⟩ :: _) _ _ _ _; first | refine T.call0 e105 rfl (iT) ?_ | refine T.call0 e105 rfl (iF) ?_ | refine T.call0 e57 rfl (kF) ?_ | refine T.call0 e57 rfl (Fit_ok _) ?_ | refine T.call0 e108 rfl (bitsR_ok a) ?_ | refine T.call0 e35 rfl (hl) ?_ | refine T.call0 e104 rfl (wide_ok a) ?_ | refine T.call0 e106 rfl (nz_ok _ _) ?_)
    | (show WOpsT _ (⟨_, .ld _ _, none⟩ :: _) _ _ _ _; first | refine L.ld ?_ | refine L.ldd ?_ | refine L.ldn ?_ | refine L.lddn ?_)
    | (show WOpsT _ (⟨_, .idx _ _ _ _, none⟩ :: _) _ _ _ _; first | refine L.idxa ?_ | refine L.idxd ?_)
    | (show WOpsT _ (⟨_, .bin _ _ _, none⟩ :: _) _ _ _ _; first | refine L.add ?_ | refine L.sub ?_ | refine T.mul rfl rfl (by omega) (by omega) ?_ | refine L.bin ?_)
    | (show AKW _ _ _ _ _ _ _; first | refine N.now ?_)
    | (show AK _ _ (.cond _ _ _) _ _ _ _; first | refine N.c1 ?_ | refine N.c2 ?_ | refine N.c3 ?_ | refine N.c4 ?_ | refine N.condD rfl (fun hcd => ?_) (fun hcd => ?_) | refine N.condB rfl (fun hcd => ?_) (fun hcd => ?_) | refine N.condU rfl ?_ ?_)
    | (show AK _ _ _ _ _ _ _; first | refine N.seq ?_ | refine N.block ?_ | refine N.skip ?_ | refine N.ret ?_)
    | (show RK _ _ _ _ _ _ _; simp only [rk, rk0, reduceIte, Nat.reduceEqDiff])
    | (show WOpsT _ _ _ _ _ _; first | refine T.notD rfl ?_ | refine T.not rfl ?_ | refine T.eqb0 rfl rfl ?_ | refine T.eqb1 rfl rfl ?_ | refine L.fad ?_ | refine L.fadd ?_ | refine L.st ?_ | refine L.new ?_ | refine L.zero ?_)
    | refine hQ _ _ _ rfl ?_
    | refine hQN _ _ _ rfl ?_)
    exact WS.drop (n := 0) rfl rfl
end Go.Proofs.Ytjmmompbmjhkpaa.Calc

namespace Go.Proofs.Ytjmmompbmjhkpaa.Calc
open Go Code
set_option linter.unusedSimpArgs false
set_option linter.unusedVariables false
set_option maxRecDepth 20000
set_option maxHeartbeats 8000000
attribute [local irreducible] WOpsT AW AK RK AKW UK UC
theorem doX_ok (d t f n : Int) (r : Nat → Int) (hd : d < 1 ∨ 24 < d) : FnE Try.prog 54 [.agg [I d, I t, I f, I n], .agg (ri r)] [] (.tup [.agg (ri (doR d t f n r).1), .c (.bool (doR d t f n r).2)]) [] := by
  have iT := index_ok t
  have iF := index_ok f
  have kF := Fit_ok r
  have hs : doR d t f n r = (fitR (fitR r), false) := by
    unfold doR midR
    repeat rw [if_neg (by omega)]
  rw [hs]
  refine N.fn Try.func54 k54 lb q54 fun Q hQ hQN => ?_
  rw [c54]
  repeat' (first
  | rw [ri_ren]
  | rw [ri_spl0]
  | rw [ri_splz]
  | refine N.regS fun K hK => ?_
  | refine N.dregS fun K hK => ?_
  | refine N.regN fun K hK => ?_
  | refine N.dregN fun K hK => ?_
  | simp only [T.mv, sm, AO.ev, put, lk, enter, reduceIte, Nat.reduceEqDiff, Nat.reduceAdd, Nat.reduceMul, Nat.reduceSub, Int.reduceNeg, Int.reduceToNat, upto, renB, setAll]
  | (refine T.nil ?_; (first | refine hK _ _ _ (by rfl) ?_ | refine hK _ _ _ ?_); (try simp only [keep, List.map, lk, reduceIte, Nat.reduceEqDiff, enter]); clear hK K)
  | (show WOpsT _ (⟨_, .call _ _, none⟩ :: _) _ _ _ _; first | refine T.call0 e105 rfl (iT) ?_ | refine T.call0 e105 rfl (iF) ?_ | refine T.call0 e57 rfl (kF) ?_ | refine T.call0 e57 rfl (Fit_ok _) ?_)
  | (show WOpsT _ (⟨_, .ld _ _, none⟩ :: _) _ _ _ _; first | refine L.ld ?_ | refine L.ldd ?_ | refine L.ldn ?_ | refine L.lddn ?_)
  | (show WOpsT _ (⟨_, .idx _ _ _ _, none⟩ :: _) _ _ _ _; first | refine L.idxa ?_ | refine L.idxd ?_)
  | (show WOpsT _ (⟨_, .bin _ _ _, none⟩ :: _) _ _ _ _; first | refine L.add ?_ | refine L.sub ?_ | refine T.mul rfl rfl (by omega) (by omega) ?_ | refine L.bin ?_)
  | (show AKW _ _ _ _ _ _ _; first | refine N.now ?_)
  | (show AK _ _ (.cond _ _ _) _ _ _ _; first | refine N.c1 ?_ | refine N.c2 ?_ | refine N.c3 ?_ | refine N.c4 ?_ | refine N.condD rfl (fun hcd => ?_) (fun hcd => ?_) | refine N.condB rfl (fun hcd => ?_) (fun hcd => ?_) | refine N.condU rfl ?_ ?_)
  | (show AK _ _ _ _ _ _ _; first | refine N.seq ?_ | refine N.block ?_ | refine N.skip ?_ | refine N.ret ?_)
  | (show RK _ _ _ _ _ _ _; simp only [rk, rk0, reduceIte, Nat.reduceEqDiff])
  | (show WOpsT _ _ _ _ _ _; first | refine T.notD rfl ?_ | refine T.not rfl ?_ | refine T.eqb0 rfl rfl ?_ | refine T.eqb1 rfl rfl ?_ | refine L.fad ?_ | refine L.fadd ?_ | refine L.st ?_ | refine L.new ?_ | refine L.zero ?_)
  | refine hQ _ _ _ rfl ?_
  | refine hQN _ _ _ rfl ?_)
  exact WS.drop (n := 0) rfl rfl
theorem do24_ok (t f n : Int) (r : Nat → Int) : FnE Try.prog 54 [.agg [I 24, I t, I f, I n], .agg (ri r)] [] (.tup [.agg (ri (doR 24 t f n r).1), .c (.bool (doR 24 t f n r).2)]) [] := by
  have iT := index_ok t
  have iF := index_ok f
  have kF := Fit_ok r
  have hs : doR 24 t f n r = (fitR r, xor (decide (bits .and .i64 (fitR r 4) (n % 256) ≠ 0)) (decide (f = 1))) := rfl
  rw [hs]
  obtain ⟨q, hq⟩ : ∃ q, fitR r = q := ⟨_, rfl⟩
  rw [hq] at kF ⊢
  refine N.fn Try.func54 k54 lb q54 fun Q hQ hQN => ?_
  rw [c54]
  repeat' (first
  | rw [ri_ren]
  | rw [ri_spl0]
  | rw [ri_splz]
  | refine N.regS fun K hK => ?_
  | refine N.dregS fun K hK => ?_
  | refine N.regN fun K hK => ?_
  | refine N.dregN fun K hK => ?_
  | simp only [T.mv, sm, AO.ev, put, lk, enter, reduceIte, Nat.reduceEqDiff, Nat.reduceAdd, Nat.reduceMul, Nat.reduceSub, Int.reduceNeg, Int.reduceToNat, upto, renB, setAll]
  | (refine T.nil ?_; (first | refine hK _ _ _ (by rfl) ?_ | refine hK _ _ _ ?_); (try simp only [keep, List.map, lk, reduceIte, Nat.reduceEqDiff, enter]); clear hK K)
  | (show WOpsT _ (⟨_, .call _ _, none⟩ :: _) _ _ _ _; first | refine T.call0 e105 rfl (iT) ?_ | refine T.call0 e105 rfl (iF) ?_ | refine T.call0 e57 rfl (kF) ?_ | refine T.call0 e35 rfl (low8 _) ?_)
  | (show WOpsT _ (⟨_, .ld _ _, none⟩ :: _) _ _ _ _; first | refine L.ld ?_ | refine L.ldd ?_ | refine L.ldn ?_ | refine L.lddn ?_)
  | (show WOpsT _ (⟨_, .idx _ _ _ _, none⟩ :: _) _ _ _ _; first | refine L.idxa ?_ | refine L.idxd ?_)
  | (show WOpsT _ (⟨_, .bin _ _ _, none⟩ :: _) _ _ _ _; first | refine L.add ?_ | refine L.sub ?_ | refine T.mul rfl rfl (by omega) (by omega) ?_ | refine L.bin ?_)
  | (show AKW _ _ _ _ _ _ _; first | refine N.now ?_)
  | (show AK _ _ (.cond _ _ _) _ _ _ _; first | refine N.c1 ?_ | refine N.c2 ?_ | refine N.c3 ?_ | refine N.c4 ?_ | refine N.condD rfl (fun hcd => ?_) (fun hcd => ?_) | refine N.condB rfl (fun hcd => ?_) (fun hcd => ?_) | refine N.condU rfl ?_ ?_)
  | (show AK _ _ _ _ _ _ _; first | refine N.seq ?_ | refine N.block ?_ | refine N.skip ?_ | refine N.ret ?_)
  | (show RK _ _ _ _ _ _ _; simp only [rk, rk0, reduceIte, Nat.reduceEqDiff])
  | (show WOpsT _ _ _ _ _ _; first | refine T.notD rfl ?_ | refine T.not rfl ?_ | refine T.eqb0 rfl rfl ?_ | refine T.eqb1 rfl rfl ?_ | refine L.fad ?_ | refine L.fadd ?_ | refine L.st ?_ | refine L.new ?_ | refine L.zero ?_)
  | refine hQ _ _ _ rfl ?_
  | refine hQN _ _ _ rfl ?_)
  have e : decide (¬(bits .and .i64 (q 4) (n % 256) ≠ 0 ↔ f = 1)) = xor (decide (bits .and .i64 (q 4) (n % 256) ≠ 0)) (decide (f = 1)) := by
    by_cases h1 : bits .and .i64 (q 4) (n % 256) ≠ 0 <;> by_cases h2 : f = 1 <;> simp [h1, h2]
  rw [← e]
  exact WS.drop (n := 0) rfl rfl
theorem do_ok (d t f n : Int) (r : Nat → Int) : FnE Try.prog 54 [.agg [I d, I t, I f, I n], .agg (ri r)] [] (.tup [.agg (ri (doR d t f n r).1), .c (.bool (doR d t f n r).2)]) [] := by
  by_cases hd : d < 1 ∨ 24 < d
  · exact doX_ok d t f n r hd
  · by_cases h24 : d = 24
    · subst h24; exact do24_ok t f n r
    by_cases h10 : d = 10 ∨ d = 11
    · exact doI_ok d t f n r h10
    by_cases ha : d = 1 ∨ d = 2 ∨ d = 3 ∨ d = 16 ∨ d = 17 ∨ d = 18
    · exact doGa_ok d t f n r ha
    by_cases hb : d = 19 ∨ d = 20 ∨ d = 21 ∨ d = 22 ∨ d = 23
    · exact doGb_ok d t f n r hb
    by_cases hc : d = 12 ∨ d = 13 ∨ d = 14 ∨ d = 15
    · exact doGd_ok d t f n r hc
    · exact doGc_ok d t f n r (by omega)
end Go.Proofs.Ytjmmompbmjhkpaa.Calc

namespace Go.Proofs.Ytjmmompbmjhkpaa.Calc
open Go Code
set_option linter.unusedSimpArgs false
set_option linter.unusedVariables false
set_option maxRecDepth 20000
set_option maxHeartbeats 8000000
attribute [local irreducible] WOpsT AW AK RK AKW UK UC
theorem ri_mren (r : Nat → Int) (ks : List Nat) : (ri r).map (ren ks) = ri r := rfl
def regStep (i : Nat) (s : List Int × (Nat → Int)) : List Int × (Nat → Int) :=
  if i = 7 ∨ i = 8 then (srest (srest s.1 256) 65536, upd (upd s.2 i (sval s.1 256)) i (sval (srest s.1 256) 65536)) else (srest s.1 256, upd s.2 i (sval s.1 256))
def regAt (l : List Int) : Nat → List Int × (Nat → Int)
  | 0 => (l, fun _ => 0)
  | i + 1 => regStep i (regAt l i)
def regsOf (l : List Int) : Nat → Int := (regAt l 9).2
theorem registers_ok (l : List Int) : FnE Try.prog 53 [.sl 1 (cells l)] [] (.agg (ri (regsOf l))) [] := by
  refine N.fn Try.func53 k53 lb q53 fun Q hQ hQN => ?_
  rw [c53]
  repeat' (first
  | refine N.regS fun K hK => ?_
  | refine N.dregS fun K hK => ?_
  | refine N.regN fun K hK => ?_
  | refine N.dregN fun K hK => ?_
  | simp only [T.mv, sm, AO.ev, put, lk, enter, reduceIte, Nat.reduceEqDiff, Nat.reduceAdd, Nat.reduceMul, Nat.reduceSub, Int.reduceNeg, Int.reduceToNat, upto, renB, setAll]
  | (refine T.nil ?_; (first | refine hK _ _ _ (by rfl) ?_ | refine hK _ _ _ ?_); (try simp only [keep, List.map, lk, reduceIte, Nat.reduceEqDiff, enter]); clear hK K)
  | (show WOpsT _ (⟨_, .ld _ _, none⟩ :: _) _ _ _ _; first | refine L.ldn ?_ | refine L.lddn ?_)
  | (show WOpsT _ (⟨_, .idx _ _ _ _, none⟩ :: _) _ _ _ _; first | refine L.idxa ?_ | refine L.idxd ?_)
  | (show WOpsT _ (⟨_, .bin _ _ _, none⟩ :: _) _ _ _ _; first | refine L.add ?_ | refine L.bin ?_)
  | (show AKW _ _ _ _ _ _ _; first | refine N.now ?_)
  | (show AK _ _ (.cond _ _ _) _ _ _ _; first | refine N.c1 ?_ | refine N.c2 ?_ | refine N.c3 ?_ | refine N.c4 ?_ | refine N.condD rfl (fun hcd => ?_) (fun hcd => ?_) | refine N.condB rfl (fun hcd => ?_) (fun hcd => ?_) | refine N.condU rfl ?_ ?_)
  | (show AK _ _ _ _ _ _ _; first | refine N.seq ?_ | refine N.skip ?_ | refine N.exit ?_ | refine N.ret ?_)
  | (show RK _ _ _ _ _ _ _; simp only [rk, rk0, reduceIte, Nat.reduceEqDiff])
  | (show WOpsT _ _ _ _ _ _; first | refine L.st ?_ | refine L.new ?_ | refine L.zero ?_ | refine L.build ?_)
  | refine hQ _ _ _ rfl ?_
  | refine hQN _ _ _ rfl ?_)
  refine N.block ?_
  refine N.loop (σ := Nat) (fun i => [(2, .ptr 0 1 0 0), (3, .ptr 1 1 0 0), (4, .ptr 2 1 0 0), (9, I i)]) (fun i => [⟨1, 9, [ri fun _ => 0]⟩, strB (regAt l i).1, ⟨1, 9, [ri (regAt l i).2]⟩]) (fun i => i ≤ 9) (fun i => 9 - i) 0 (by omega) (Weaks.sel (by repeat (first | exact trivial | refine ⟨.rfl, ?_⟩ | refine ⟨.any, ?_⟩)) rfl) fun i hi C hC => ?_
  by_cases h9 : i < 9
  · have e3 : (i : Int).toNat * 1 = i := by omega
    have n1 := next_ok (regAt l i).1 256 (by decide)
    have n2 := next_ok (srest (regAt l i).1 256) 65536 (by decide)
    have hw : wide i = decide ((i : Int) = 7 ∨ (i : Int) = 8) := rfl
    by_cases h7 : i = 7 ∨ i = 8
    · have hw2 : wide i = true := by rw [hw]; exact decide_eq_true (by omega)
      have hst : regAt l (i + 1) = (srest (srest (regAt l i).1 256) 65536, upd (upd (regAt l i).2 i (sval (regAt l i).1 256)) i (sval (srest (regAt l i).1 256) 65536)) := by
        simp only [regAt, regStep]; rw [if_pos h7]
      repeat' (first
      | rw [e3]
      | (show WOpsT _ (⟨_, .st _ _ _, none⟩ :: _) _ _ _ _; refine T.st rfl rfl rfl ⟨rfl, rfl⟩ rfl (show _ ≤ 9 by omega) ?_)
      | rw [ri_spl _ _ _ h9]
      | rw [hw2]
      | refine N.regS fun K hK => ?_
      | refine N.dregS fun K hK => ?_
      | refine N.regN fun K hK => ?_
      | refine N.dregN fun K hK => ?_
      | simp only [T.mv, sm, AO.ev, put, lk, enter, reduceIte, Nat.reduceEqDiff, Nat.reduceAdd, Nat.reduceMul, Nat.reduceSub, Int.reduceNeg, Int.reduceToNat, upto, renB, setAll]
      | (refine T.nil ?_; (first | refine hK _ _ _ (by rfl) ?_ | refine hK _ _ _ ?_); (try simp only [keep, List.map, lk, reduceIte, Nat.reduceEqDiff, enter]); clear hK K)
      | (show WOpsT _ (⟨_, .call _ _, none⟩ :: _) _ _ _ _; first | refine T.call1 1 e56 rfl rfl (n1) ?_ | refine T.call1 1 e56 rfl rfl (n2) ?_ | refine T.call0 e104 rfl (wide_ok i) ?_)
      | (show WOpsT _ (⟨_, .ld _ _, none⟩ :: _) _ _ _ _; first | refine L.ldn ?_ | refine L.lddn ?_)
      | (show WOpsT _ (⟨_, .idx _ _ _ _, none⟩ :: _) _ _ _ _; first | refine L.idxa ?_ | refine L.idxd ?_)
      | (show WOpsT _ (⟨_, .bin _ _ _, none⟩ :: _) _ _ _ _; first | refine L.add ?_ | refine L.bin ?_)
      | (show AKW _ _ _ _ _ _ _; first | refine N.now ?_)
      | (show AK _ _ (.cond _ _ _) _ _ _ _; first | refine N.c1 ?_ | refine N.c2 ?_ | refine N.c3 ?_ | refine N.c4 ?_ | refine N.condD rfl (fun hcd => ?_) (fun hcd => ?_) | refine N.condB rfl (fun hcd => ?_) (fun hcd => ?_) | refine N.condU rfl ?_ ?_)
      | (show AK _ _ _ _ _ _ _; first | refine N.seq ?_ | refine N.block ?_ | refine N.skip ?_ | refine N.exit ?_ | refine N.ret ?_)
      | (show RK _ _ _ _ _ _ _; simp only [rk, rk0, reduceIte, Nat.reduceEqDiff])
      | (show WOpsT _ _ _ _ _ _; first | refine L.st ?_ | refine L.new ?_ | refine L.zero ?_ | refine L.build ?_)
      | refine hQ _ _ _ rfl ?_
      | refine hQN _ _ _ rfl ?_)
      exact hC _ _ (i + 1) (by omega) (by omega) (Weaks.sel (by repeat (first | exact trivial | refine ⟨.rfl, ?_⟩ | refine ⟨.any, ?_⟩)) (by rw [hst]))
    · have hw2 : wide i = false := by rw [hw]; exact decide_eq_false (by omega)
      have hst : regAt l (i + 1) = (srest (regAt l i).1 256, upd (regAt l i).2 i (sval (regAt l i).1 256)) := by
        simp only [regAt, regStep]; rw [if_neg h7]
      repeat' (first
      | rw [e3]
      | (show WOpsT _ (⟨_, .st _ _ _, none⟩ :: _) _ _ _ _; refine T.st rfl rfl rfl ⟨rfl, rfl⟩ rfl (show _ ≤ 9 by omega) ?_)
      | rw [ri_spl _ _ _ h9]
      | rw [hw2]
      | refine N.regS fun K hK => ?_
      | refine N.dregS fun K hK => ?_
      | refine N.regN fun K hK => ?_
      | refine N.dregN fun K hK => ?_
      | simp only [T.mv, sm, AO.ev, put, lk, enter, reduceIte, Nat.reduceEqDiff, Nat.reduceAdd, Nat.reduceMul, Nat.reduceSub, Int.reduceNeg, Int.reduceToNat, upto, renB, setAll]
      | (refine T.nil ?_; (first | refine hK _ _ _ (by rfl) ?_ | refine hK _ _ _ ?_); (try simp only [keep, List.map, lk, reduceIte, Nat.reduceEqDiff, enter]); clear hK K)
      | (show WOpsT _ (⟨_, .call _ _, none⟩ :: _) _ _ _ _; first | refine T.call1 1 e56 rfl rfl (n1) ?_ | refine T.call1 1 e56 rfl rfl (n2) ?_ | refine T.call0 e104 rfl (wide_ok i) ?_)
      | (show WOpsT _ (⟨_, .ld _ _, none⟩ :: _) _ _ _ _; first | refine L.ldn ?_ | refine L.lddn ?_)
      | (show WOpsT _ (⟨_, .idx _ _ _ _, none⟩ :: _) _ _ _ _; first | refine L.idxa ?_ | refine L.idxd ?_)
      | (show WOpsT _ (⟨_, .bin _ _ _, none⟩ :: _) _ _ _ _; first | refine L.add ?_ | refine L.bin ?_)
      | (show AKW _ _ _ _ _ _ _; first | refine N.now ?_)
      | (show AK _ _ (.cond _ _ _) _ _ _ _; first | refine N.c1 ?_ | refine N.c2 ?_ | refine N.c3 ?_ | refine N.c4 ?_ | refine N.condD rfl (fun hcd => ?_) (fun hcd => ?_) | refine N.condB rfl (fun hcd => ?_) (fun hcd => ?_) | refine N.condU rfl ?_ ?_)
      | (show AK _ _ _ _ _ _ _; first | refine N.seq ?_ | refine N.block ?_ | refine N.skip ?_ | refine N.exit ?_ | refine N.ret ?_)
      | (show RK _ _ _ _ _ _ _; simp only [rk, rk0, reduceIte, Nat.reduceEqDiff])
      | (show WOpsT _ _ _ _ _ _; first | refine L.st ?_ | refine L.new ?_ | refine L.zero ?_ | refine L.build ?_)
      | refine hQ _ _ _ rfl ?_
      | refine hQN _ _ _ rfl ?_)
      exact hC _ _ (i + 1) (by omega) (by omega) (Weaks.sel (by repeat (first | exact trivial | refine ⟨.rfl, ?_⟩ | refine ⟨.any, ?_⟩)) (by rw [hst]))
  · obtain rfl : i = 9 := by omega
    repeat' (first
    | rw [ri_splz]
    | refine N.regS fun K hK => ?_
    | refine N.dregS fun K hK => ?_
    | refine N.regN fun K hK => ?_
    | refine N.dregN fun K hK => ?_
    | simp only [T.mv, sm, AO.ev, put, lk, enter, reduceIte, Nat.reduceEqDiff, Nat.reduceAdd, Nat.reduceMul, Nat.reduceSub, Int.reduceNeg, Int.reduceToNat, upto, renB, setAll]
    | (refine T.nil ?_; (first | refine hK _ _ _ (by rfl) ?_ | refine hK _ _ _ ?_); (try simp only [keep, List.map, lk, reduceIte, Nat.reduceEqDiff, enter]); clear hK K)
    | (show WOpsT _ (⟨_, .ld _ _, none⟩ :: _) _ _ _ _; first | refine L.ldn ?_ | refine L.lddn ?_)
    | (show WOpsT _ (⟨_, .idx _ _ _ _, none⟩ :: _) _ _ _ _; first | refine L.idxa ?_ | refine L.idxd ?_)
    | (show WOpsT _ (⟨_, .bin _ _ _, none⟩ :: _) _ _ _ _; first | refine L.add ?_ | refine L.bin ?_)
    | (show AKW _ _ _ _ _ _ _; first | refine N.now ?_)
    | (show AK _ _ (.cond _ _ _) _ _ _ _; first | refine N.c1 ?_ | refine N.c2 ?_ | refine N.c3 ?_ | refine N.c4 ?_ | refine N.condD rfl (fun hcd => ?_) (fun hcd => ?_) | refine N.condB rfl (fun hcd => ?_) (fun hcd => ?_) | refine N.condU rfl ?_ ?_)
    | (show AK _ _ _ _ _ _ _; first | refine N.seq ?_ | refine N.block ?_ | refine N.skip ?_ | refine N.exit ?_ | refine N.ret ?_)
    | (show RK _ _ _ _ _ _ _; simp only [rk, rk0, reduceIte, Nat.reduceEqDiff])
    | (show WOpsT _ _ _ _ _ _; first | refine L.st ?_ | refine L.new ?_ | refine L.zero ?_ | refine L.build ?_)
    | refine hQ _ _ _ rfl ?_
    | refine hQN _ _ _ rfl ?_)
    exact WS.drop (n := 0) rfl rfl
end Go.Proofs.Ytjmmompbmjhkpaa.Calc

