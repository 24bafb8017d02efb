/- Several texts in one (BitsA, FnBase, FnStream, FnBytes, FnField, FnKit, FnTable, FnTableB, FnTableC, FnChip, FnChipB), for the proof of LawChipBanks. No condition beyond those in each lemma. -/
import Derived.Laws.BitsLemmas
import Derived.Laws.Wrap64
import Derived.RowKit
import Derived.Test.YtjmmompbmjhkpaaPLawChipBanksD
import Derived.Test.YtjmmompbmjhkpaaPLawChipBanksC
namespace Go.Proofs.Ytjmmompbmjhkpaa.BA
open Go Go.RowKit

theorem wrap_small (n : Int) (h0 : -9223372036854775808 ≤ n) (h1 : n < 9223372036854775808) : IntKind.i64.wrap n = n := by
  rw [IntKind.wrap_i64]; omega

theorem w63 (n : Int) (h0 : 0 ≤ n) (h1 : n < 2 ^ 63) : IntKind.i64.wrap n = n := by
  apply wrap_small <;> omega

def andn (a b : Nat) : Nat := a ^^^ (a &&& b)
theorem low_eq (n : Int) (w : Nat) (hw : w ≤ 62) : bits .and .i64 n (2 ^ w - 1) = n % 2 ^ w := by
  have hpos : 0 < 2 ^ w := Nat.two_pow_pos w
  have hlt : 2 ^ w ≤ 2 ^ 62 := Nat.pow_le_pow_right (by decide) hw
  have hc : ((2 : Int) ^ w - 1) = ((2 ^ w - 1 : Nat) : Int) := by rw [Int.natCast_sub hpos]; simp
  rw [hc]
  have hm : (2 ^ w - 1) % 2 ^ 64 = 2 ^ w - 1 := Nat.mod_eq_of_lt (by omega)
  have hd : (2 ^ w : Nat) ∣ 2 ^ 64 := Nat.pow_dvd_pow 2 (by omega)
  show IntKind.i64.wrap ((BitVec.ofInt 64 n &&& BitVec.ofInt 64 ((2 ^ w - 1 : Nat) : Int)).toNat : Nat) = _
  rw [BitVec.ofInt_natCast, BitVec.toNat_and, BitVec.toNat_ofInt, BitVec.toNat_ofNat, hm, Nat.and_two_pow_sub_one_eq_mod]
  have e : (((n % ((2 ^ 64 : Nat) : Int)).toNat % 2 ^ w : Nat) : Int) = n % 2 ^ w := by
    rw [Int.natCast_emod, Int.toNat_of_nonneg (Int.emod_nonneg _ (by decide))]
    rw [Int.emod_emod_of_dvd _ (by exact_mod_cast hd)]
    simp
  rw [e]
  have h2 : (0 : Int) < 2 ^ w := by exact_mod_cast hpos
  have h3 := Int.emod_nonneg n (b := 2 ^ w) (by omega)
  have h4 := Int.emod_lt_of_pos n h2
  have h5 : (2 : Int) ^ w ≤ 2 ^ 62 := by exact_mod_cast hlt
  exact w63 _ h3 (by omega)

def bitAt (n : Int) (i : Nat) : Nat := (n / 2 ^ i % 2).toNat
def rev : Nat → Int → Nat
  | 0, _ => 0
  | w + 1, n => 2 * rev w n + bitAt n w
def lo : Nat → Int → Nat
  | 0, _ => 0
  | w + 1, n => lo w n + bitAt n w * 2 ^ w
def pc : Nat → Int → Nat
  | 0, _ => 0
  | w + 1, n => pc w n + bitAt n w
end Go.Proofs.Ytjmmompbmjhkpaa.BA

namespace Go.Proofs.Ytjmmompbmjhkpaa.Calc
open Go Code
set_option linter.unusedSimpArgs false
set_option linter.unusedVariables false
set_option maxRecDepth 20000
attribute [local irreducible] WOpsT AW AK RK AKW UK UC
def wd (w : Int) : Nat := (max 0 (min w 62)).toNat
theorem wd_le (w : Int) : wd w ≤ 62 := by unfold wd; omega
theorem wd_cast (w : Int) : max 0 (min w 62) = (wd w : Int) := by unfold wd; omega
theorem pow_le (w : Nat) (hw : w ≤ 62) : (2 : Int) ^ w ≤ 4611686018427387904 := by
  have : (2 : Int) ^ w ≤ 2 ^ 62 := by
    have := Nat.pow_le_pow_right (n := 2) (by decide) hw
    exact_mod_cast this
  exact Int.le_trans this (by decide)
theorem pow_pos' (w : Nat) : (1 : Int) ≤ 2 ^ w := by
  have := Nat.pow_pos (n := w) (a := 2) (by decide)
  exact_mod_cast this
theorem min64 (w : Nat) (hw : w ≤ 62) : min ((w : Int)).toNat IntKind.i64.bits = w := by
  have : IntKind.i64.bits = 64 := rfl
  omega

theorem width_ok (w : Int) : FnE Try.prog 92 [I w] [] (I (wd w)) [] := by
  refine fnI Try.func92 k92 lb q92 fun Q hQ => ?_
  rw [c92]
  repeat (first
    | refine AW.regS fun K hK => ?_
    | refine AW.dregS fun K hK => ?_
    | refine AW.regN fun K hK => ?_
    | refine AW.dregN fun K hK => ?_
    | simp only [T.mv, sm, AO.ev, put, lk, enter, reduceIte, Nat.reduceEqDiff, Nat.reduceAdd, Nat.reduceMul, Nat.reduceSub, Int.reduceNeg, Int.reduceToNat, upto, renB, setAll]
    | refine T.nil ?_
    | (first | refine hK _ _ _ (by rfl) ?_ | refine hK _ _ _ ?_); simp only [keep, List.map, lk, reduceIte, Nat.reduceEqDiff, enter]; clear hK; clear K
    | refine T.add rfl rfl (by omega) (by omega) ?_
    | refine T.sub rfl rfl (by omega) (by omega) ?_
    | refine T.bin rfl rfl rfl ?_
    | refine T.rem rfl rfl (by omega) ?_
    | refine T.quo rfl rfl (by omega) ?_
    | refine T.shl rfl rfl (by omega) ?_
    | refine T.shr rfl rfl (by omega) ?_
    | refine T.min2 rfl rfl rfl ?_
    | refine T.max2 rfl rfl rfl ?_
    | refine T.ext rfl rfl ?_
    | refine T.lenc ?_
    | refine T.eqnP rfl rfl ⟨rfl, by decide⟩ ?_
    | refine T.eqnN rfl ?_
    | refine T.neg rfl ?_
    | refine T.xorn rfl ?_
    | refine T.notD rfl ?_
    | refine T.not rfl ?_
    | refine T.eqb0 rfl rfl ?_
    | refine T.eqb1 rfl rfl ?_
    | refine T.cvt rfl ?_
    | refine T.ld rfl rfl rfl rfl rfl ?_
    | refine T.ldd rfl rfl ?_
    | refine T.ldn rfl rfl rfl rfl lb ?_
    | refine T.lddn rfl lb ?_
    | refine T.fad rfl rfl rfl ?_
    | refine T.fadd rfl ?_
    | refine T.nilc rfl rfl rfl ?_
    | refine T.nilcd rfl ?_
    | refine T.st rfl rfl rfl ⟨rfl, rfl⟩ rfl lb ?_
    | refine T.fld rfl rfl ?_
    | refine T.new rfl ⟨rfl, by decide⟩ ?_
    | refine T.zero (by decide) ?_
    | refine T.build rfl ?_
    | refine T.len rfl rfl rfl ?_
    | refine T.lenS rfl ?_
    | refine T.lenN rfl ?_
    | refine T.mkf ?_
    | refine T.mki ?_
    | refine T.mksl rfl rfl (by decide) ?_
    | refine T.copy rfl rfl rfl ⟨rfl, rfl⟩ ?_
    | refine T.idx rfl rfl rfl ⟨rfl, rfl⟩ (by omega) ?_
    | refine T.idxa rfl rfl rfl rfl (by omega) ?_
    | refine T.idxd rfl rfl (by omega) ?_
    | refine T.bsl rfl (by decide) ?_
    | refine T.slc rfl rfl rfl rfl ⟨rfl, rfl⟩ (by omega) ?_
    | refine T.go rfl rfl ?_
    | refine T.pass rfl rfl ?_
    | refine T.pickB rfl rfl rfl ?_
    | refine AW.retI ?_)
  exact hQ _ _ _ rfl (WeakV.cE rfl (by rw [wd_cast]))

theorem low_ok (v w : Int) : FnE Try.prog 35 [I v, I w] [] (I (v % 2 ^ wd w)) [] := by
  refine fnI Try.func35 k35 lb q35 fun Q hQ => ?_
  rw [c35]
  have h1 := pow_le (wd w) (wd_le w)
  have h2 := pow_pos' (wd w)
  have h3 := wd_le w
  repeat (first
    | refine T.call0 e92 rfl (width_ok _) ?_
    | refine AW.regS fun K hK => ?_
    | refine AW.dregS fun K hK => ?_
    | refine AW.regN fun K hK => ?_
    | refine AW.dregN fun K hK => ?_
    | simp only [T.mv, sm, AO.ev, put, lk, enter, reduceIte, Nat.reduceEqDiff, Nat.reduceAdd, Nat.reduceMul, Nat.reduceSub, Int.reduceNeg, Int.reduceToNat, upto, renB, setAll]
    | refine T.nil ?_
    | (first | refine hK _ _ _ (by rfl) ?_ | refine hK _ _ _ ?_); simp only [keep, List.map, lk, reduceIte, Nat.reduceEqDiff, enter]; clear hK; clear K
    | refine T.add rfl rfl (by omega) (by omega) ?_
    | refine T.sub rfl rfl (by omega) (by omega) ?_
    | refine T.bin rfl rfl rfl ?_
    | refine T.rem rfl rfl (by omega) ?_
    | refine T.quo rfl rfl (by omega) ?_
    | refine T.shl rfl rfl (by omega) ?_
    | refine T.shr rfl rfl (by omega) ?_
    | refine T.min2 rfl rfl rfl ?_
    | refine T.max2 rfl rfl rfl ?_
    | refine T.ext rfl rfl ?_
    | refine T.lenc ?_
    | refine T.eqnP rfl rfl ⟨rfl, by decide⟩ ?_
    | refine T.eqnN rfl ?_
    | refine T.neg rfl ?_
    | refine T.xorn rfl ?_
    | refine T.notD rfl ?_
    | refine T.not rfl ?_
    | refine T.eqb0 rfl rfl ?_
    | refine T.eqb1 rfl rfl ?_
    | refine T.cvt rfl ?_
    | refine T.ld rfl rfl rfl rfl rfl ?_
    | refine T.ldd rfl rfl ?_
    | refine T.ldn rfl rfl rfl rfl lb ?_
    | refine T.lddn rfl lb ?_
    | refine T.fad rfl rfl rfl ?_
    | refine T.fadd rfl ?_
    | refine T.nilc rfl rfl rfl ?_
    | refine T.nilcd rfl ?_
    | refine T.st rfl rfl rfl ⟨rfl, rfl⟩ rfl lb ?_
    | refine T.fld rfl rfl ?_
    | refine T.new rfl ⟨rfl, by decide⟩ ?_
    | refine T.zero (by decide) ?_
    | refine T.build rfl ?_
    | refine T.len rfl rfl rfl ?_
    | refine T.lenS rfl ?_
    | refine T.lenN rfl ?_
    | refine T.mkf ?_
    | refine T.mki ?_
    | refine T.mksl rfl rfl (by decide) ?_
    | refine T.copy rfl rfl rfl ⟨rfl, rfl⟩ ?_
    | refine T.idx rfl rfl rfl ⟨rfl, rfl⟩ (by omega) ?_
    | refine T.idxa rfl rfl rfl rfl (by omega) ?_
    | refine T.idxd rfl rfl (by omega) ?_
    | refine T.bsl rfl (by decide) ?_
    | refine T.slc rfl rfl rfl rfl ⟨rfl, rfl⟩ (by omega) ?_
    | refine T.go rfl rfl ?_
    | refine T.pass rfl rfl ?_
    | refine T.pickB rfl rfl rfl ?_
    | refine AW.retI ?_)
  refine hQ _ _ _ rfl (WeakV.cE rfl ?_)
  rw [min64 _ h3, Int.one_mul, wrap64 (n := 2 ^ wd w) (by omega) (by omega), wrap64 (by omega) (by omega), BA.low_eq _ _ h3]

theorem lowN_ok (v : Int) (n : Nat) (hn : n ≤ 62) : FnE Try.prog 35 [I v, I n] [] (I (v % 2 ^ n)) [] := by
  have := low_ok v n
  rwa [show wd (n : Int) = n by unfold wd; omega] at this
theorem below_ok (x n : Int) (hn : 0 < n) (hn2 : n < 4611686018427387904) : FnE Try.prog 29 [I x, I n] [] (I (x % n)) [] := by
  refine fnI Try.func29 k29 lb q29 fun Q hQ => ?_
  rw [c29]
  repeat (first
    | refine AW.regS fun K hK => ?_
    | refine AW.dregS fun K hK => ?_
    | refine AW.regN fun K hK => ?_
    | refine AW.dregN fun K hK => ?_
    | simp only [T.mv, sm, AO.ev, put, lk, enter, reduceIte, Nat.reduceEqDiff, Nat.reduceAdd, Nat.reduceMul, Nat.reduceSub, Int.reduceNeg, Int.reduceToNat, upto, renB, setAll]
    | refine T.nil ?_
    | (first | refine hK _ _ _ (by rfl) ?_ | refine hK _ _ _ ?_); simp only [keep, List.map, lk, reduceIte, Nat.reduceEqDiff, enter]; clear hK; clear K
    | refine T.add rfl rfl (by omega) (by omega) ?_
    | refine T.sub rfl rfl (by omega) (by omega) ?_
    | refine T.bin rfl rfl rfl ?_
    | refine T.rem rfl rfl (by omega) ?_
    | refine T.quo rfl rfl (by omega) ?_
    | refine T.shl rfl rfl (by omega) ?_
    | refine T.shr rfl rfl (by omega) ?_
    | refine T.min2 rfl rfl rfl ?_
    | refine T.max2 rfl rfl rfl ?_
    | refine T.ext rfl rfl ?_
    | refine T.lenc ?_
    | refine T.eqnP rfl rfl ⟨rfl, by decide⟩ ?_
    | refine T.eqnN rfl ?_
    | refine T.neg rfl ?_
    | refine T.xorn rfl ?_
    | refine T.notD rfl ?_
    | refine T.not rfl ?_
    | refine T.eqb0 rfl rfl ?_
    | refine T.eqb1 rfl rfl ?_
    | refine T.cvt rfl ?_
    | refine T.ld rfl rfl rfl rfl rfl ?_
    | refine T.ldd rfl rfl ?_
    | refine T.ldn rfl rfl rfl rfl lb ?_
    | refine T.lddn rfl lb ?_
    | refine T.fad rfl rfl rfl ?_
    | refine T.fadd rfl ?_
    | refine T.nilc rfl rfl rfl ?_
    | refine T.nilcd rfl ?_
    | refine T.st rfl rfl rfl ⟨rfl, rfl⟩ rfl lb ?_
    | refine T.fld rfl rfl ?_
    | refine T.new rfl ⟨rfl, by decide⟩ ?_
    | refine T.zero (by decide) ?_
    | refine T.build rfl ?_
    | refine T.len rfl rfl rfl ?_
    | refine T.lenS rfl ?_
    | refine T.lenN rfl ?_
    | refine T.mkf ?_
    | refine T.mki ?_
    | refine T.mksl rfl rfl (by decide) ?_
    | refine T.copy rfl rfl rfl ⟨rfl, rfl⟩ ?_
    | refine T.idx rfl rfl rfl ⟨rfl, rfl⟩ (by omega) ?_
    | refine T.idxa rfl rfl rfl rfl (by omega) ?_
    | refine T.idxd rfl rfl (by omega) ?_
    | refine T.bsl rfl (by decide) ?_
    | refine T.slc rfl rfl rfl rfl ⟨rfl, rfl⟩ (by omega) ?_
    | refine T.go rfl rfl ?_
    | refine T.pass rfl rfl ?_
    | refine T.pickB rfl rfl rfl ?_
    | refine AW.retI ?_)
  refine AW.seqI fun Q1 hN hX hR => ?_
  repeat (first
    | refine AW.regS fun K hK => ?_
    | refine AW.dregS fun K hK => ?_
    | refine AW.regN fun K hK => ?_
    | refine AW.dregN fun K hK => ?_
    | simp only [T.mv, sm, AO.ev, put, lk, enter, reduceIte, Nat.reduceEqDiff, Nat.reduceAdd, Nat.reduceMul, Nat.reduceSub, Int.reduceNeg, Int.reduceToNat, upto, renB, setAll]
    | refine T.nil ?_
    | (first | refine hK _ _ _ (by rfl) ?_ | refine hK _ _ _ ?_); simp only [keep, List.map, lk, reduceIte, Nat.reduceEqDiff, enter]; clear hK; clear K
    | refine T.add rfl rfl (by omega) (by omega) ?_
    | refine T.sub rfl rfl (by omega) (by omega) ?_
    | refine T.bin rfl rfl rfl ?_
    | refine T.rem rfl rfl (by omega) ?_
    | refine T.quo rfl rfl (by omega) ?_
    | refine T.shl rfl rfl (by omega) ?_
    | refine T.shr rfl rfl (by omega) ?_
    | refine T.min2 rfl rfl rfl ?_
    | refine T.max2 rfl rfl rfl ?_
    | refine T.ext rfl rfl ?_
    | refine T.lenc ?_
    | refine T.eqnP rfl rfl ⟨rfl, by decide⟩ ?_
    | refine T.eqnN rfl ?_
    | refine T.neg rfl ?_
    | refine T.xorn rfl ?_
    | refine T.notD rfl ?_
    | refine T.not rfl ?_
    | refine T.eqb0 rfl rfl ?_
    | refine T.eqb1 rfl rfl ?_
    | refine T.cvt rfl ?_
    | refine T.ld rfl rfl rfl rfl rfl ?_
    | refine T.ldd rfl rfl ?_
    | refine T.ldn rfl rfl rfl rfl lb ?_
    | refine T.lddn rfl lb ?_
    | refine T.fad rfl rfl rfl ?_
    | refine T.fadd rfl ?_
    | refine T.nilc rfl rfl rfl ?_
    | refine T.nilcd rfl ?_
    | refine T.st rfl rfl rfl ⟨rfl, rfl⟩ rfl lb ?_
    | refine T.fld rfl rfl ?_
    | refine T.new rfl ⟨rfl, by decide⟩ ?_
    | refine T.zero (by decide) ?_
    | refine T.build rfl ?_
    | refine T.len rfl rfl rfl ?_
    | refine T.lenS rfl ?_
    | refine T.lenN rfl ?_
    | refine T.mkf ?_
    | refine T.mki ?_
    | refine T.mksl rfl rfl (by decide) ?_
    | refine T.copy rfl rfl rfl ⟨rfl, rfl⟩ ?_
    | refine T.idx rfl rfl rfl ⟨rfl, rfl⟩ (by omega) ?_
    | refine T.idxa rfl rfl rfl rfl (by omega) ?_
    | refine T.idxd rfl rfl (by omega) ?_
    | refine T.bsl rfl (by decide) ?_
    | refine T.slc rfl rfl rfl rfl ⟨rfl, rfl⟩ (by omega) ?_
    | refine T.go rfl rfl ?_
    | refine T.pass rfl rfl ?_
    | refine T.pickB rfl rfl rfl ?_
    | refine AW.retI ?_)
  have hm : x % n = if x.tmod n < 0 then x.tmod n + n else x.tmod n := by
    rw [Int.tmod_eq_emod]
    have h0 := Int.emod_nonneg x (show n ≠ 0 by omega)
    have h1 := Int.emod_lt_of_pos x hn
    have h2 : (n.natAbs : Int) = n := by omega
    split <;> split <;> omega
  have hlo : -n ≤ x.tmod n ∧ x.tmod n < n := by
    have h0 := Int.emod_nonneg x (show n ≠ 0 by omega)
    have h1 := Int.emod_lt_of_pos x hn
    split at hm <;> omega
  refine AW.condB rfl (fun ht => ?_) (fun ht => ?_)
  · have ht := of_decide_eq_true ht
    rw [if_pos ht] at hm
    repeat (first
      | refine AW.regS fun K hK => ?_
      | refine AW.dregS fun K hK => ?_
      | refine AW.regN fun K hK => ?_
      | refine AW.dregN fun K hK => ?_
      | simp only [T.mv, sm, AO.ev, put, lk, enter, reduceIte, Nat.reduceEqDiff, Nat.reduceAdd, Nat.reduceMul, Nat.reduceSub, Int.reduceNeg, Int.reduceToNat, upto, renB, setAll]
      | refine T.nil ?_
      | (first | refine hK _ _ _ (by rfl) ?_ | refine hK _ _ _ ?_); simp only [keep, List.map, lk, reduceIte, Nat.reduceEqDiff, enter]; clear hK; clear K
      | refine T.add rfl rfl (by omega) (by omega) ?_
      | refine T.sub rfl rfl (by omega) (by omega) ?_
      | refine T.bin rfl rfl rfl ?_
      | refine T.rem rfl rfl (by omega) ?_
      | refine T.quo rfl rfl (by omega) ?_
      | refine T.shl rfl rfl (by omega) ?_
      | refine T.shr rfl rfl (by omega) ?_
      | refine T.min2 rfl rfl rfl ?_
      | refine T.max2 rfl rfl rfl ?_
      | refine T.ext rfl rfl ?_
      | refine T.lenc ?_
      | refine T.eqnP rfl rfl ⟨rfl, by decide⟩ ?_
      | refine T.eqnN rfl ?_
      | refine T.neg rfl ?_
      | refine T.xorn rfl ?_
      | refine T.notD rfl ?_
      | refine T.not rfl ?_
      | refine T.eqb0 rfl rfl ?_
      | refine T.eqb1 rfl rfl ?_
      | refine T.cvt rfl ?_
      | refine T.ld rfl rfl rfl rfl rfl ?_
      | refine T.ldd rfl rfl ?_
      | refine T.ldn rfl rfl rfl rfl lb ?_
      | refine T.lddn rfl lb ?_
      | refine T.fad rfl rfl rfl ?_
      | refine T.fadd rfl ?_
      | refine T.nilc rfl rfl rfl ?_
      | refine T.nilcd rfl ?_
      | refine T.st rfl rfl rfl ⟨rfl, rfl⟩ rfl lb ?_
      | refine T.fld rfl rfl ?_
      | refine T.new rfl ⟨rfl, by decide⟩ ?_
      | refine T.zero (by decide) ?_
      | refine T.build rfl ?_
      | refine T.len rfl rfl rfl ?_
      | refine T.lenS rfl ?_
      | refine T.lenN rfl ?_
      | refine T.mkf ?_
      | refine T.mki ?_
      | refine T.mksl rfl rfl (by decide) ?_
      | refine T.copy rfl rfl rfl ⟨rfl, rfl⟩ ?_
      | refine T.idx rfl rfl rfl ⟨rfl, rfl⟩ (by omega) ?_
      | refine T.idxa rfl rfl rfl rfl (by omega) ?_
      | refine T.idxd rfl rfl (by omega) ?_
      | refine T.bsl rfl (by decide) ?_
      | refine T.slc rfl rfl rfl rfl ⟨rfl, rfl⟩ (by omega) ?_
      | refine T.go rfl rfl ?_
      | refine T.pass rfl rfl ?_
      | refine T.pickB rfl rfl rfl ?_
      | refine AW.retI ?_)
    refine hN _ _ ?_
    repeat (first
      | refine AW.regS fun K hK => ?_
      | refine AW.dregS fun K hK => ?_
      | refine AW.regN fun K hK => ?_
      | refine AW.dregN fun K hK => ?_
      | simp only [T.mv, sm, AO.ev, put, lk, enter, reduceIte, Nat.reduceEqDiff, Nat.reduceAdd, Nat.reduceMul, Nat.reduceSub, Int.reduceNeg, Int.reduceToNat, upto, renB, setAll]
      | refine T.nil ?_
      | (first | refine hK _ _ _ (by rfl) ?_ | refine hK _ _ _ ?_); simp only [keep, List.map, lk, reduceIte, Nat.reduceEqDiff, enter]; clear hK; clear K
      | refine T.add rfl rfl (by omega) (by omega) ?_
      | refine T.sub rfl rfl (by omega) (by omega) ?_
      | refine T.bin rfl rfl rfl ?_
      | refine T.rem rfl rfl (by omega) ?_
      | refine T.quo rfl rfl (by omega) ?_
      | refine T.shl rfl rfl (by omega) ?_
      | refine T.shr rfl rfl (by omega) ?_
      | refine T.min2 rfl rfl rfl ?_
      | refine T.max2 rfl rfl rfl ?_
      | refine T.ext rfl rfl ?_
      | refine T.lenc ?_
      | refine T.eqnP rfl rfl ⟨rfl, by decide⟩ ?_
      | refine T.eqnN rfl ?_
      | refine T.neg rfl ?_
      | refine T.xorn rfl ?_
      | refine T.notD rfl ?_
      | refine T.not rfl ?_
      | refine T.eqb0 rfl rfl ?_
      | refine T.eqb1 rfl rfl ?_
      | refine T.cvt rfl ?_
      | refine T.ld rfl rfl rfl rfl rfl ?_
      | refine T.ldd rfl rfl ?_
      | refine T.ldn rfl rfl rfl rfl lb ?_
      | refine T.lddn rfl lb ?_
      | refine T.fad rfl rfl rfl ?_
      | refine T.fadd rfl ?_
      | refine T.nilc rfl rfl rfl ?_
      | refine T.nilcd rfl ?_
      | refine T.st rfl rfl rfl ⟨rfl, rfl⟩ rfl lb ?_
      | refine T.fld rfl rfl ?_
      | refine T.new rfl ⟨rfl, by decide⟩ ?_
      | refine T.zero (by decide) ?_
      | refine T.build rfl ?_
      | refine T.len rfl rfl rfl ?_
      | refine T.lenS rfl ?_
      | refine T.lenN rfl ?_
      | refine T.mkf ?_
      | refine T.mki ?_
      | refine T.mksl rfl rfl (by decide) ?_
      | refine T.copy rfl rfl rfl ⟨rfl, rfl⟩ ?_
      | refine T.idx rfl rfl rfl ⟨rfl, rfl⟩ (by omega) ?_
      | refine T.idxa rfl rfl rfl rfl (by omega) ?_
      | refine T.idxd rfl rfl (by omega) ?_
      | refine T.bsl rfl (by decide) ?_
      | refine T.slc rfl rfl rfl rfl ⟨rfl, rfl⟩ (by omega) ?_
      | refine T.go rfl rfl ?_
      | refine T.pass rfl rfl ?_
      | refine T.pickB rfl rfl rfl ?_
      | refine AW.retI ?_)
    exact hQ _ _ _ rfl (WeakV.cE rfl (by rw [hm]))
  · have ht := of_decide_eq_false ht
    rw [if_neg ht] at hm
    refine AW.skipI (hN _ _ ?_)
    repeat (first
      | refine AW.regS fun K hK => ?_
      | refine AW.dregS fun K hK => ?_
      | refine AW.regN fun K hK => ?_
      | refine AW.dregN fun K hK => ?_
      | simp only [T.mv, sm, AO.ev, put, lk, enter, reduceIte, Nat.reduceEqDiff, Nat.reduceAdd, Nat.reduceMul, Nat.reduceSub, Int.reduceNeg, Int.reduceToNat, upto, renB, setAll]
      | refine T.nil ?_
      | (first | refine hK _ _ _ (by rfl) ?_ | refine hK _ _ _ ?_); simp only [keep, List.map, lk, reduceIte, Nat.reduceEqDiff, enter]; clear hK; clear K
      | refine T.add rfl rfl (by omega) (by omega) ?_
      | refine T.sub rfl rfl (by omega) (by omega) ?_
      | refine T.bin rfl rfl rfl ?_
      | refine T.rem rfl rfl (by omega) ?_
      | refine T.quo rfl rfl (by omega) ?_
      | refine T.shl rfl rfl (by omega) ?_
      | refine T.shr rfl rfl (by omega) ?_
      | refine T.min2 rfl rfl rfl ?_
      | refine T.max2 rfl rfl rfl ?_
      | refine T.ext rfl rfl ?_
      | refine T.lenc ?_
      | refine T.eqnP rfl rfl ⟨rfl, by decide⟩ ?_
      | refine T.eqnN rfl ?_
      | refine T.neg rfl ?_
      | refine T.xorn rfl ?_
      | refine T.notD rfl ?_
      | refine T.not rfl ?_
      | refine T.eqb0 rfl rfl ?_
      | refine T.eqb1 rfl rfl ?_
      | refine T.cvt rfl ?_
      | refine T.ld rfl rfl rfl rfl rfl ?_
      | refine T.ldd rfl rfl ?_
      | refine T.ldn rfl rfl rfl rfl lb ?_
      | refine T.lddn rfl lb ?_
      | refine T.fad rfl rfl rfl ?_
      | refine T.fadd rfl ?_
      | refine T.nilc rfl rfl rfl ?_
      | refine T.nilcd rfl ?_
      | refine T.st rfl rfl rfl ⟨rfl, rfl⟩ rfl lb ?_
      | refine T.fld rfl rfl ?_
      | refine T.new rfl ⟨rfl, by decide⟩ ?_
      | refine T.zero (by decide) ?_
      | refine T.build rfl ?_
      | refine T.len rfl rfl rfl ?_
      | refine T.lenS rfl ?_
      | refine T.lenN rfl ?_
      | refine T.mkf ?_
      | refine T.mki ?_
      | refine T.mksl rfl rfl (by decide) ?_
      | refine T.copy rfl rfl rfl ⟨rfl, rfl⟩ ?_
      | refine T.idx rfl rfl rfl ⟨rfl, rfl⟩ (by omega) ?_
      | refine T.idxa rfl rfl rfl rfl (by omega) ?_
      | refine T.idxd rfl rfl (by omega) ?_
      | refine T.bsl rfl (by decide) ?_
      | refine T.slc rfl rfl rfl rfl ⟨rfl, rfl⟩ (by omega) ?_
      | refine T.go rfl rfl ?_
      | refine T.pass rfl rfl ?_
      | refine T.pickB rfl rfl rfl ?_
      | refine AW.retI ?_)
    exact hQ _ _ _ rfl (WeakV.cE rfl (by rw [hm]))
theorem low_lit (v : Int) (n : Nat) (w : Int) (hw : w = n) (hn : n ≤ 62) : FnE Try.prog 35 [I v, I w] [] (I (v % 2 ^ n)) [] := hw ▸ lowN_ok v n hn
end Go.Proofs.Ytjmmompbmjhkpaa.Calc

namespace Go.Proofs.Ytjmmompbmjhkpaa.Calc
open Go Code
set_option linter.unusedSimpArgs false
set_option linter.unusedVariables false
set_option maxRecDepth 20000
set_option maxHeartbeats 2000000
attribute [local irreducible] WOpsT AW AK RK AKW
abbrev strB (l : List Int) : Blk := ⟨1, 1, [[.sl 1 (cells l)]]⟩
def sval (l : List Int) (n : Int) : Int := if n < 1 then 0 else match l with
  | [] => 0
  | x :: _ => x % n
def srest (l : List Int) (n : Int) : List Int := if n < 1 then l else l.tail
end Go.Proofs.Ytjmmompbmjhkpaa.Calc

namespace Go.Proofs.Ytjmmompbmjhkpaa.Calc
open Go Code
set_option linter.unusedSimpArgs false
set_option linter.unusedVariables false
set_option maxRecDepth 20000
set_option maxHeartbeats 4000000
attribute [local irreducible] WOpsT AW AK RK AKW UK UC
def Bytes (m : List Int) : Prop := ∀ i, 0 ≤ m.getD i 0 ∧ m.getD i 0 < 256
abbrev memB (m : List Int) : Blk := ⟨1, 1, bcells m⟩
theorem wrap_u8 (n : Int) (h : 0 ≤ n ∧ n < 256) : IntKind.wrap .u8 n = n := by
  simp only [IntKind.wrap, IntKind.signed, IntKind.bits]
  simp
  try omega
def bytesN (l : List Int) (n i : Nat) : List Int := (List.range n).map fun j => if j < i then l.getD j 0 % 256 else 0
def bytesOf (l : List Int) (n : Nat) : List Int := (List.range n).map fun j => l.getD j 0 % 256
end Go.Proofs.Ytjmmompbmjhkpaa.Calc

namespace Go.Proofs.Ytjmmompbmjhkpaa.Calc
open Go Code
set_option linter.unusedSimpArgs false
set_option linter.unusedVariables false
set_option maxRecDepth 20000
attribute [local irreducible] WOpsT AW AK RK AKW
def putv (v : Int) (i n : Nat) (x : Int) : Int := v % 2 ^ i + x % 2 ^ n * 2 ^ i + v % 2 ^ 62 / 2 ^ (i + n) * 2 ^ (i + n)
end Go.Proofs.Ytjmmompbmjhkpaa.Calc

namespace Go.Proofs.Ytjmmompbmjhkpaa.Calc
open Go
set_option linter.unusedSimpArgs false
end Go.Proofs.Ytjmmompbmjhkpaa.Calc

namespace Go.Proofs.Ytjmmompbmjhkpaa.Calc
open Go Code
set_option linter.unusedSimpArgs false
set_option linter.unusedVariables false
set_option maxRecDepth 20000
set_option maxHeartbeats 4000000
attribute [local irreducible] WOpsT AW AK RK AKW UK UC
def sizeM (m : Int) : Int := if m = 0 then 0 else if m = 4 ∨ m = 5 ∨ m = 6 then 2 else if m = 1 ∨ m = 2 ∨ m = 3 ∨ m = 7 ∨ m = 8 then 1 else -1
def usesL : List (Int × Int × Bool) := [(0, 0, false), (115, 115, false), (97, 0, true), (98, 0, false), (98, 98, false), (98, 98, false), (98, 98, false), (98, 98, false), (98, 98, false), (98, 98, false), (97, 0, false), (97, 0, false), (98, 0, false), (98, 0, false), (98, 0, false), (98, 0, false), (0, 0, true), (0, 0, true), (119, 98, false), (119, 98, false), (98, 119, false), (98, 119, false), (119, 98, false), (119, 98, false)]
def usesT (d : Int) : Int × Int × Bool := usesL.getD d.toNat (0, 0, false)
def fitsP (r n : Int) : Prop := if n = 0 then r = 0 else if n = 119 then r = 7 ∨ r = 8 else if n = 98 then 0 ≤ r ∧ r < 7 else 0 ≤ r ∧ r < 9
structure Stp where
  op : Int
  to : Int
  fr : Int
  n : Int
def stC (s : Stp) : List V := [I s.op, I s.to, I s.fr, I s.n]
def VStep (s : Stp) : Prop := (s.op = 24 ∧ s.to = 0 ∧ (0 ≤ s.fr ∧ s.fr ≤ 1) ∧ 0 ≤ s.n ∧ s.n ≤ 255) ∨ ((0 ≤ s.op ∧ s.op < 24) ∧ fitsP s.to (usesT s.op).1 ∧ fitsP s.fr (usesT s.op).2.1 ∧ ((usesT s.op).1 = 115 → (s.to < 7 ↔ s.fr < 7)) ∧ 0 ≤ s.n ∧ s.n ≤ if (usesT s.op).2.2 = true then (if s.op = 2 ∧ 7 ≤ s.to then 65535 else 255) else 0)
end Go.Proofs.Ytjmmompbmjhkpaa.Calc

namespace Go.Proofs.Ytjmmompbmjhkpaa.Calc
open Go Code
set_option linter.unusedSimpArgs false
set_option linter.unusedVariables false
set_option maxRecDepth 20000
set_option maxHeartbeats 4000000
attribute [local irreducible] WOpsT AW AK RK AKW UK UC
structure Cyc where
  bus : Int
  at_ : Int
  reg : Int
  steps : List Stp
def cyC (c : Cyc) : List V := [I c.bus, I c.at_, I c.reg, .sl 4 (c.steps.map stC)]
def VCyc (c : Cyc) : Prop := (0 ≤ c.bus ∧ c.bus ≤ 2) ∧ (c.bus = 0 → c.at_ = 0 ∧ c.reg = 0) ∧ (0 ≤ c.at_ ∧ c.at_ < 12) ∧ (0 ≤ c.reg ∧ c.reg < 7) ∧ c.steps.length ≤ 6 ∧ ∀ s ∈ c.steps, VStep s
def VCycs (l : List Cyc) : Prop := l.length ≤ 8 ∧ ∀ c ∈ l, VCyc c
def opnd (l : List Cyc) : Int := (l.countP fun c => c.bus == 1 && c.at_ == 0 : Nat)
end Go.Proofs.Ytjmmompbmjhkpaa.Calc

namespace Go.Proofs.Ytjmmompbmjhkpaa.Calc
open Go Code
set_option linter.unusedSimpArgs false
set_option linter.unusedVariables false
set_option maxRecDepth 20000
set_option maxHeartbeats 4000000
attribute [local irreducible] WOpsT AW AK RK AKW UK UC
def nmB (s : ByteArray) : List Int := s.data.toList.map fun b => (b.toNat : Int)
theorem nmB_len (s : ByteArray) : (nmB s).length = s.size := by simp [nmB]
def okCh (b : Int) : Prop := (97 ≤ b ∧ b ≤ 122) ∨ (48 ≤ b ∧ b ≤ 57) ∨ b = 45
def VName (s : ByteArray) : Prop := (1 ≤ s.size ∧ s.size ≤ 20) ∧ (∃ b, s[0]? = some b ∧ 97 ≤ (b.toNat : Int) ∧ (b.toNat : Int) ≤ 122) ∧ ∀ x ∈ nmB s, okCh x
theorem name_ok (s : ByteArray) (hs : VName s) : FnE Try.prog 113 [.c (.string s)] [] (.c (.bool true)) [] := by
  obtain ⟨h1, ⟨b0, h2, h3⟩, h4⟩ := hs
  have hne : decide (s = ⟨#[]⟩) = false := decide_eq_false (by intro h; subst h; exact absurd h1.1 (by decide))
  have hl := nmB_len s
  refine N.fn Try.func113 k113 lb q113 fun Q hQ hQN => ?_
  rw [c113]
  repeat' (first
    | rw [hne]
    | refine T.lens rfl ?_
    | (show WOpsT _ (⟨_, .ixs _ _, none⟩ :: _) _ _ _ _; refine T.ixs rfl rfl (by decide) h2 ?_)
    | refine T.s2b rfl ?_
    | refine N.regS fun K hK => ?_
    | refine N.dregS fun K hK => ?_
    | refine N.regN fun K hK => ?_
    | refine N.dregN fun K hK => ?_
    | simp only [T.mv, sm, AO.ev, put, lk, enter, reduceIte, Nat.reduceEqDiff, Nat.reduceAdd, Nat.reduceMul, Nat.reduceSub, Int.reduceNeg, Int.reduceToNat, upto, renB, setAll]
    | (refine T.nil ?_; (first | refine hK _ _ _ (by rfl) ?_ | refine hK _ _ _ ?_); (try simp only [keep, List.map, lk, reduceIte, Nat.reduceEqDiff, enter]); clear hK K)
    | (show WOpsT _ (⟨_, .ld _ _, none⟩ :: _) _ _ _ _; first | refine L.ld ?_ | refine L.ldd ?_)
    | (show WOpsT _ (⟨_, .idx _ _ _ _, none⟩ :: _) _ _ _ _; first | refine L.idx ?_ | refine L.idxs ?_)
    | (show WOpsT _ (⟨_, .bin _ _ _, none⟩ :: _) _ _ _ _; first | refine L.add ?_ | refine L.bin ?_)
    | (show WOpsT _ (⟨_, _, some (_, true)⟩ :: _) _ _ _ _; first | refine L.goT ?_ | refine L.paT ?_ | refine L.go ?_ | refine L.pass ?_ | refine T.pU rfl ?_ | refine T.gT rfl (fun hgd => ?_) (fun hgd => ?_))
    | (show WOpsT _ (⟨_, _, some (_, false)⟩ :: _) _ _ _ _; first | refine L.goF ?_ | refine L.paF ?_ | refine L.go ?_ | refine L.pass ?_ | refine T.pU rfl ?_ | refine T.gF rfl (fun hgd => ?_) (fun hgd => ?_))
    | (show WOpsT _ (⟨_, .pick _ _ _, none⟩ :: _) _ _ _ _; first | refine L.pkT ?_ | refine L.pkF ?_ | refine L.pickT ?_ | refine L.pickF ?_ | refine L.pickB ?_ | refine T.pkD rfl (fun hgd => ?_) (fun hgd => ?_))
    | (show AKW _ _ _ _ _ _ _; first | refine N.now ?_)
    | (show AK _ _ (.cond _ _ _) _ _ _ _; first | refine N.c1 ?_ | refine N.c2 ?_ | refine N.c3 ?_ | refine N.c4 ?_ | refine N.condD rfl (fun hcd => ?_) (fun hcd => ?_) | refine N.condB rfl (fun hcd => ?_) (fun hcd => ?_) | refine N.condU rfl ?_ ?_)
    | (show AK _ _ _ _ _ _ _; first | refine N.seq ?_ | refine N.block ?_ | refine N.skip ?_ | refine N.exit ?_ | refine N.ret ?_)
    | (show RK _ _ _ _ _ _ _; simp only [rk, rk0, reduceIte, Nat.reduceEqDiff])
    | (show WOpsT _ _ _ _ _ _; first | refine T.lens rfl ?_ | refine T.s2b rfl ?_ | refine T.notD rfl ?_ | refine T.not rfl ?_ | refine L.len ?_ | refine L.lenS ?_ | refine L.lenN ?_)
    | refine hQ _ _ _ rfl ?_
    | refine hQN _ _ _ rfl ?_)
  refine N.loop (σ := Nat) (fun i => [(23, .psl 0 1 0 s.size), (24, I s.size), (25, I i)]) (fun i => [⟨1, 1, bcells (nmB s)⟩]) (fun i => i ≤ s.size) (fun i => s.size - i) 0 (by omega) (Weaks.sel (by repeat (first | exact trivial | refine ⟨.rfl, ?_⟩ | refine ⟨.any, ?_⟩)) rfl) fun i hi C hC => ?_
  by_cases hil : i < s.size
  · have hil2 : i < (nmB s).length := by omega
    have hg := bget (m := nmB s) (i := i) hil2
    have hx := h4 ((nmB s).getD i 0) (by rw [List.getD_eq_getElem?_getD, List.getElem?_eq_getElem hil2]; exact List.getElem_mem hil2)
    obtain ⟨x, hxe⟩ : ∃ x, (nmB s).getD i 0 = x := ⟨_, rfl⟩
    rw [hxe] at hg hx
    unfold okCh at hx
    have hg2 : (bcells (nmB s))[0 + ((i : Nat) : Int).toNat]? = some [.c (.int .u8 x)] := by rw [Int.toNat_natCast, Nat.zero_add]; exact hg
    repeat' (first
      | (show WOpsT _ (⟨_, .ld _ _, none⟩ :: _) _ _ _ _; refine T.ld rfl rfl rfl hg2 rfl ?_)
      | refine N.regS fun K hK => ?_
      | refine N.dregS fun K hK => ?_
      | refine N.regN fun K hK => ?_
      | refine N.dregN fun K hK => ?_
      | simp only [T.mv, sm, AO.ev, put, lk, enter, reduceIte, Nat.reduceEqDiff, Nat.reduceAdd, Nat.reduceMul, Nat.reduceSub, Int.reduceNeg, Int.reduceToNat, upto, renB, setAll]
      | (refine T.nil ?_; (first | refine hK _ _ _ (by rfl) ?_ | refine hK _ _ _ ?_); (try simp only [keep, List.map, lk, reduceIte, Nat.reduceEqDiff, enter]); clear hK K)
      | (show WOpsT _ (⟨_, .ld _ _, none⟩ :: _) _ _ _ _; first | refine L.ld ?_ | refine L.ldd ?_)
      | (show WOpsT _ (⟨_, .idx _ _ _ _, none⟩ :: _) _ _ _ _; first | refine L.idx ?_ | refine L.idxs ?_)
      | (show WOpsT _ (⟨_, .bin _ _ _, none⟩ :: _) _ _ _ _; first | refine L.add ?_ | refine L.bin ?_)
      | (show WOpsT _ (⟨_, _, some (_, true)⟩ :: _) _ _ _ _; first | refine L.goT ?_ | refine L.paT ?_ | refine L.go ?_ | refine L.pass ?_ | refine T.pU rfl ?_ | refine T.gT rfl (fun hgd => ?_) (fun hgd => ?_))
      | (show WOpsT _ (⟨_, _, some (_, false)⟩ :: _) _ _ _ _; first | refine L.goF ?_ | refine L.paF ?_ | refine L.go ?_ | refine L.pass ?_ | refine T.pU rfl ?_ | refine T.gF rfl (fun hgd => ?_) (fun hgd => ?_))
      | (show WOpsT _ (⟨_, .pick _ _ _, none⟩ :: _) _ _ _ _; first | refine L.pkT ?_ | refine L.pkF ?_ | refine L.pickT ?_ | refine L.pickF ?_ | refine L.pickB ?_ | refine T.pkD rfl (fun hgd => ?_) (fun hgd => ?_))
      | (show AKW _ _ _ _ _ _ _; first | refine N.now ?_)
      | (show AK _ _ (.cond _ _ _) _ _ _ _; first | refine N.c1 ?_ | refine N.c2 ?_ | refine N.c3 ?_ | refine N.c4 ?_ | refine N.condD rfl (fun hcd => ?_) (fun hcd => ?_) | refine N.condB rfl (fun hcd => ?_) (fun hcd => ?_) | refine N.condU rfl ?_ ?_)
      | (show AK _ _ _ _ _ _ _; first | refine N.seq ?_ | refine N.block ?_ | refine N.skip ?_ | refine N.exit ?_ | refine N.ret ?_)
      | (show RK _ _ _ _ _ _ _; simp only [rk, rk0, reduceIte, Nat.reduceEqDiff])
      | (show WOpsT _ _ _ _ _ _; first | refine T.lens rfl ?_ | refine T.s2b rfl ?_ | refine T.notD rfl ?_ | refine T.not rfl ?_ | refine L.len ?_ | refine L.lenS ?_ | refine L.lenN ?_)
      | refine hQ _ _ _ rfl ?_
      | refine hQN _ _ _ rfl ?_)
    all_goals first
      | exact hC _ _ (i + 1) (by omega) (by omega) (Weaks.sel (by repeat (first | exact trivial | refine ⟨.rfl, ?_⟩ | refine ⟨.any, ?_⟩)) rfl)
      | trace_state
  · obtain rfl : i = s.size := by omega
    repeat' (first
      | refine N.regS fun K hK => ?_
      | refine N.dregS fun K hK => ?_
      | refine N.regN fun K hK => ?_
      | refine N.dregN fun K hK => ?_
      | simp only [T.mv, sm, AO.ev, put, lk, enter, reduceIte, Nat.reduceEqDiff, Nat.reduceAdd, Nat.reduceMul, Nat.reduceSub, Int.reduceNeg, Int.reduceToNat, upto, renB, setAll]
      | (refine T.nil ?_; (first | refine hK _ _ _ (by rfl) ?_ | refine hK _ _ _ ?_); (try simp only [keep, List.map, lk, reduceIte, Nat.reduceEqDiff, enter]); clear hK K)
      | (show WOpsT _ (⟨_, .ld _ _, none⟩ :: _) _ _ _ _; first | refine L.ld ?_ | refine L.ldd ?_)
      | (show WOpsT _ (⟨_, .idx _ _ _ _, none⟩ :: _) _ _ _ _; first | refine L.idx ?_ | refine L.idxs ?_)
      | (show WOpsT _ (⟨_, .bin _ _ _, none⟩ :: _) _ _ _ _; first | refine L.add ?_ | refine L.bin ?_)
      | (show WOpsT _ (⟨_, _, some (_, true)⟩ :: _) _ _ _ _; first | refine L.goT ?_ | refine L.paT ?_ | refine L.go ?_ | refine L.pass ?_ | refine T.pU rfl ?_ | refine T.gT rfl (fun hgd => ?_) (fun hgd => ?_))
      | (show WOpsT _ (⟨_, _, some (_, false)⟩ :: _) _ _ _ _; first | refine L.goF ?_ | refine L.paF ?_ | refine L.go ?_ | refine L.pass ?_ | refine T.pU rfl ?_ | refine T.gF rfl (fun hgd => ?_) (fun hgd => ?_))
      | (show WOpsT _ (⟨_, .pick _ _ _, none⟩ :: _) _ _ _ _; first | refine L.pkT ?_ | refine L.pkF ?_ | refine L.pickT ?_ | refine L.pickF ?_ | refine L.pickB ?_ | refine T.pkD rfl (fun hgd => ?_) (fun hgd => ?_))
      | (show AKW _ _ _ _ _ _ _; first | refine N.now ?_)
      | (show AK _ _ (.cond _ _ _) _ _ _ _; first | refine N.c1 ?_ | refine N.c2 ?_ | refine N.c3 ?_ | refine N.c4 ?_ | refine N.condD rfl (fun hcd => ?_) (fun hcd => ?_) | refine N.condB rfl (fun hcd => ?_) (fun hcd => ?_) | refine N.condU rfl ?_ ?_)
      | (show AK _ _ _ _ _ _ _; first | refine N.seq ?_ | refine N.block ?_ | refine N.skip ?_ | refine N.exit ?_ | refine N.ret ?_)
      | (show RK _ _ _ _ _ _ _; simp only [rk, rk0, reduceIte, Nat.reduceEqDiff])
      | (show WOpsT _ _ _ _ _ _; first | refine T.lens rfl ?_ | refine T.s2b rfl ?_ | refine T.notD rfl ?_ | refine T.not rfl ?_ | refine L.len ?_ | refine L.lenS ?_ | refine L.lenN ?_)
      | refine hQ _ _ _ rfl ?_
      | refine hQN _ _ _ rfl ?_)
    exact WS.c rfl rfl
end Go.Proofs.Ytjmmompbmjhkpaa.Calc

namespace Go.Proofs.Ytjmmompbmjhkpaa.Calc
open Go Code
set_option linter.unusedSimpArgs false
set_option linter.unusedVariables false
set_option maxRecDepth 20000
set_option maxHeartbeats 4000000
attribute [local irreducible] WOpsT AW AK RK AKW UK UC
def z24 : List Int := List.replicate 24 0
def cbV : List V := [.c (.string ⟨#[97]⟩), I 2, I 0, I 9, .sl 1 (bcells z24)]
def crV : List V := [.c (.string ⟨#[97]⟩), I 0, I 0, I 4, .c (.slice none 0 0)]
theorem window_b : FnE Try.prog 144 [.agg cbV] [] (I 8) [] := by
  refine N.fn Try.func144 k144 lb q144 fun Q hQ hQN => ?_
  rw [c144]
  repeat' (first
    | refine N.regS fun K hK => ?_
    | refine N.dregS fun K hK => ?_
    | refine N.regN fun K hK => ?_
    | refine N.dregN fun K hK => ?_
    | simp only [T.mv, sm, AO.ev, put, lk, enter, reduceIte, Nat.reduceEqDiff, Nat.reduceAdd, Nat.reduceMul, Nat.reduceSub, Int.reduceNeg, Int.reduceToNat, upto, renB, setAll]
    | (refine T.nil ?_; (first | refine hK _ _ _ (by rfl) ?_ | refine hK _ _ _ ?_); (try simp only [keep, List.map, lk, reduceIte, Nat.reduceEqDiff, enter]); clear hK K)
    | (show WOpsT _ (⟨_, .ld _ _, none⟩ :: _) _ _ _ _; first | refine L.ld ?_ | refine L.ldd ?_)
    | (show WOpsT _ (⟨_, .bin _ _ _, none⟩ :: _) _ _ _ _; first | refine L.sub ?_ | refine L.bin ?_)
    | (show AKW _ _ _ _ _ _ _; first | refine N.now ?_)
    | (show AK _ _ _ _ _ _ _; first | refine N.seq ?_ | refine N.ret ?_)
    | (show RK _ _ _ _ _ _ _; simp only [rk, rk0, reduceIte, Nat.reduceEqDiff])
    | (show WOpsT _ _ _ _ _ _; first | refine T.min2 rfl rfl rfl ?_ | refine T.max2 rfl rfl rfl ?_ | refine L.fad ?_ | refine L.fadd ?_ | refine L.new ?_)
    | refine hQ _ _ _ rfl ?_
    | refine hQN _ _ _ rfl ?_)
  exact WS.c rfl rfl
theorem banks_b : FnE Try.prog 77 [.agg cbV] [] (I 3) [] := by
  refine N.fn Try.func77 k77 lb q77 fun Q hQ hQN => ?_
  rw [c77]
  repeat' (first
    | refine N.regS fun K hK => ?_
    | refine N.dregS fun K hK => ?_
    | refine N.regN fun K hK => ?_
    | refine N.dregN fun K hK => ?_
    | simp only [T.mv, sm, AO.ev, put, lk, enter, reduceIte, Nat.reduceEqDiff, Nat.reduceAdd, Nat.reduceMul, Nat.reduceSub, Int.reduceNeg, Int.reduceToNat, upto, renB, setAll]
    | (refine T.nil ?_; (first | refine hK _ _ _ (by rfl) ?_ | refine hK _ _ _ ?_); (try simp only [keep, List.map, lk, reduceIte, Nat.reduceEqDiff, enter]); clear hK K)
    | (show WOpsT _ (⟨_, .call _ _, none⟩ :: _) _ _ _ _; first | refine T.call0 e144 rfl (window_b) ?_)
    | (show WOpsT _ (⟨_, .ld _ _, none⟩ :: _) _ _ _ _; first | refine L.ld ?_ | refine L.ldd ?_ | refine L.ldn ?_ | refine L.lddn ?_)
    | (show WOpsT _ (⟨_, .bin _ _ _, none⟩ :: _) _ _ _ _; first | refine L.add ?_ | refine L.sub ?_ | refine T.quo rfl rfl (by omega) ?_ | refine L.bin ?_)
    | (show AKW _ _ _ _ _ _ _; first | refine N.now ?_)
    | (show AK _ _ _ _ _ _ _; first | refine N.seq ?_ | refine N.ret ?_)
    | (show RK _ _ _ _ _ _ _; simp only [rk, rk0, reduceIte, Nat.reduceEqDiff])
    | (show WOpsT _ _ _ _ _ _; first | refine T.min2 rfl rfl rfl ?_ | refine T.max2 rfl rfl rfl ?_ | refine L.fad ?_ | refine L.fadd ?_ | refine L.new ?_ | refine L.len ?_ | refine L.lenS ?_ | refine L.lenN ?_)
    | refine hQ _ _ _ rfl ?_
    | refine hQN _ _ _ rfl ?_)
  exact WS.c rfl rfl
theorem bytes_b : FnE Try.prog 135 [.agg cbV] [] (I 24) [] := by
  refine N.fn Try.func135 k135 lb q135 fun Q hQ hQN => ?_
  rw [c135]
  repeat' (first
    | refine N.regS fun K hK => ?_
    | refine N.dregS fun K hK => ?_
    | refine N.regN fun K hK => ?_
    | refine N.dregN fun K hK => ?_
    | simp only [T.mv, sm, AO.ev, put, lk, enter, reduceIte, Nat.reduceEqDiff, Nat.reduceAdd, Nat.reduceMul, Nat.reduceSub, Int.reduceNeg, Int.reduceToNat, upto, renB, setAll]
    | (refine T.nil ?_; (first | refine hK _ _ _ (by rfl) ?_ | refine hK _ _ _ ?_); (try simp only [keep, List.map, lk, reduceIte, Nat.reduceEqDiff, enter]); clear hK K)
    | (show WOpsT _ (⟨_, .call _ _, none⟩ :: _) _ _ _ _; first | refine T.call0 e144 rfl (window_b) ?_ | refine T.call0 e77 rfl (banks_b) ?_)
    | (show WOpsT _ (⟨_, .ld _ _, none⟩ :: _) _ _ _ _; first | refine L.ld ?_ | refine L.ldd ?_ | refine L.ldn ?_ | refine L.lddn ?_)
    | (show WOpsT _ (⟨_, .bin _ _ _, none⟩ :: _) _ _ _ _; first | refine T.mul rfl rfl (by omega) (by omega) ?_ | refine L.bin ?_)
    | (show AKW _ _ _ _ _ _ _; first | refine N.now ?_)
    | (show AK _ _ (.cond _ _ _) _ _ _ _; first | refine N.c1 ?_ | refine N.c2 ?_ | refine N.c3 ?_ | refine N.c4 ?_ | refine N.condD rfl (fun hcd => ?_) (fun hcd => ?_) | refine N.condB rfl (fun hcd => ?_) (fun hcd => ?_) | refine N.condU rfl ?_ ?_)
    | (show AK _ _ _ _ _ _ _; first | refine N.seq ?_ | refine N.skip ?_ | refine N.ret ?_)
    | (show RK _ _ _ _ _ _ _; simp only [rk, rk0, reduceIte, Nat.reduceEqDiff])
    | (show WOpsT _ _ _ _ _ _; first | refine T.min2 rfl rfl rfl ?_ | refine T.max2 rfl rfl rfl ?_ | refine L.fad ?_ | refine L.fadd ?_ | refine L.new ?_)
    | refine hQ _ _ _ rfl ?_
    | refine hQN _ _ _ rfl ?_)
  exact WS.c rfl rfl
theorem bytes_r : FnE Try.prog 135 [.agg crV] [] (I 4) [] := by
  refine N.fn Try.func135 k135 lb q135 fun Q hQ hQN => ?_
  rw [c135]
  repeat' (first
    | refine N.regS fun K hK => ?_
    | refine N.dregS fun K hK => ?_
    | refine N.regN fun K hK => ?_
    | refine N.dregN fun K hK => ?_
    | simp only [T.mv, sm, AO.ev, put, lk, enter, reduceIte, Nat.reduceEqDiff, Nat.reduceAdd, Nat.reduceMul, Nat.reduceSub, Int.reduceNeg, Int.reduceToNat, upto, renB, setAll]
    | (refine T.nil ?_; (first | refine hK _ _ _ (by rfl) ?_ | refine hK _ _ _ ?_); (try simp only [keep, List.map, lk, reduceIte, Nat.reduceEqDiff, enter]); clear hK K)
    | (show WOpsT _ (⟨_, .ld _ _, none⟩ :: _) _ _ _ _; first | refine L.ld ?_ | refine L.ldd ?_ | refine L.ldn ?_ | refine L.lddn ?_)
    | (show WOpsT _ (⟨_, .bin _ _ _, none⟩ :: _) _ _ _ _; first | refine T.mul rfl rfl (by omega) (by omega) ?_ | refine L.bin ?_)
    | (show AKW _ _ _ _ _ _ _; first | refine N.now ?_)
    | (show AK _ _ (.cond _ _ _) _ _ _ _; first | refine N.c1 ?_ | refine N.c2 ?_ | refine N.c3 ?_ | refine N.c4 ?_ | refine N.condD rfl (fun hcd => ?_) (fun hcd => ?_) | refine N.condB rfl (fun hcd => ?_) (fun hcd => ?_) | refine N.condU rfl ?_ ?_)
    | (show AK _ _ _ _ _ _ _; first | refine N.seq ?_ | refine N.skip ?_ | refine N.ret ?_)
    | (show RK _ _ _ _ _ _ _; simp only [rk, rk0, reduceIte, Nat.reduceEqDiff])
    | (show WOpsT _ _ _ _ _ _; first | refine T.min2 rfl rfl rfl ?_ | refine T.max2 rfl rfl rfl ?_ | refine L.fad ?_ | refine L.fadd ?_ | refine L.new ?_)
    | refine hQ _ _ _ rfl ?_
    | refine hQN _ _ _ rfl ?_)
  exact WS.c rfl rfl
theorem zeros (n : Nat) : List.replicate n [V.c (.int .u8 0)] = bcells (List.replicate n 0) := by simp [bcells]
theorem new_b : FnE Try.prog 74 [.agg cbV] [] (dev [0] z24) [] := by
  refine N.fn Try.func74 k74 lb q74 fun Q hQ hQN => ?_
  rw [c74]
  repeat' (first
    | rw [zeros]
    | (show WOpsT _ (⟨_, .copy _ _ _, none⟩ :: _) _ _ _ _; refine T.copy rfl rfl rfl ⟨rfl, rfl⟩ ?_)
    | refine N.regS fun K hK => ?_
    | refine N.dregS fun K hK => ?_
    | refine N.regN fun K hK => ?_
    | refine N.dregN fun K hK => ?_
    | simp only [T.mv, sm, AO.ev, put, lk, enter, reduceIte, Nat.reduceEqDiff, Nat.reduceAdd, Nat.reduceMul, Nat.reduceSub, Int.reduceNeg, Int.reduceToNat, upto, renB, setAll]
    | (refine T.nil ?_; (first | refine hK _ _ _ (by rfl) ?_ | refine hK _ _ _ ?_); (try simp only [keep, List.map, lk, reduceIte, Nat.reduceEqDiff, enter]); clear hK K)
    | (show WOpsT _ (⟨_, .call _ _, none⟩ :: _) _ _ _ _; first | refine T.call0 e135 rfl (bytes_b) ?_)
    | (show WOpsT _ (⟨_, .ld _ _, none⟩ :: _) _ _ _ _; first | refine L.ld ?_ | refine L.ldd ?_ | refine L.ldn ?_ | refine L.lddn ?_)
    | (show WOpsT _ (⟨_, .bin _ _ _, none⟩ :: _) _ _ _ _; first | refine L.bin ?_)
    | (show AKW _ _ _ _ _ _ _; first | refine N.now ?_)
    | (show AK _ _ (.cond _ _ _) _ _ _ _; first | refine N.c1 ?_ | refine N.c2 ?_ | refine N.c3 ?_ | refine N.c4 ?_ | refine N.condD rfl (fun hcd => ?_) (fun hcd => ?_) | refine N.condB rfl (fun hcd => ?_) (fun hcd => ?_) | refine N.condU rfl ?_ ?_)
    | (show AK _ _ _ _ _ _ _; first | refine N.seq ?_ | refine N.block ?_ | refine N.skip ?_ | refine N.ret ?_)
    | (show RK _ _ _ _ _ _ _; simp only [rk, rk0, reduceIte, Nat.reduceEqDiff])
    | (show WOpsT _ _ _ _ _ _; first | refine L.fad ?_ | refine L.fadd ?_ | refine L.st ?_ | refine L.new ?_ | refine L.zero ?_ | refine L.build ?_ | refine T.mksl rfl rfl (by decide) ?_ | refine T.copy rfl rfl rfl ⟨rfl, rfl⟩ ?_ | refine L.bsl ?_)
    | refine hQ _ _ _ rfl ?_
    | refine hQN _ _ _ rfl ?_)
  exact WS.dev2 (n := [0]) (m := z24) rfl rfl (by decide) rfl (by decide)
theorem copyN (m : List Int) (k : Nat) (hm : m.length = k) (z : List Int) (hz : z.length = k) : (bcells m).take k ++ (bcells z).drop (min (bcells m).length k) = bcells m := by
  rw [bcells_len, hm, Nat.min_self, List.take_of_length_le (by rw [bcells_len]; omega), List.drop_of_length_le (by rw [bcells_len]; omega), List.append_nil]
abbrev dvP (n m : List Int) : List Blk := [⟨1, 1, cells n⟩, ⟨1, 1, bcells m⟩]
theorem fit_b (n : Int) (hn : 0 ≤ n ∧ n < 3) (m : List Int) (hm : m.length = 24) : FnE Try.prog 171 [.agg cbV, dev [n] m] [] (.agg [.psl 0 1 0 1, .psl 1 1 0 24]) (dvP [n] m) := by
  have : n = 0 ∨ n = 1 ∨ n = 2 := by omega
  rcases this with rfl | rfl | rfl
  all_goals
    refine N.fn Try.func171 k171 lb q171 fun Q hQ hQN => ?_
    rw [c171]
    repeat' (first
      | rw [zeros]
      | (show WOpsT _ (⟨_, .copy _ _ _, none⟩ :: _) _ _ _ _; refine T.copy rfl rfl rfl ⟨rfl, rfl⟩ ?_)
      | refine N.regS fun K hK => ?_
      | refine N.dregS fun K hK => ?_
      | refine N.regN fun K hK => ?_
      | refine N.dregN fun K hK => ?_
      | simp only [T.mv, sm, AO.ev, put, lk, enter, reduceIte, Nat.reduceEqDiff, Nat.reduceAdd, Nat.reduceMul, Nat.reduceSub, Int.reduceNeg, Int.reduceToNat, upto, renB, setAll]
      | (refine T.nil ?_; (first | refine hK _ _ _ (by rfl) ?_ | refine hK _ _ _ ?_); (try simp only [keep, List.map, lk, reduceIte, Nat.reduceEqDiff, enter]); clear hK K)
      | (show WOpsT _ (⟨_, .call _ _, none⟩ :: _) _ _ _ _; first | refine T.call0 e135 rfl (bytes_b) ?_ | refine T.call0 e77 rfl (banks_b) ?_)
      | (show WOpsT _ (⟨_, .ld _ _, none⟩ :: _) _ _ _ _; first | refine L.ld ?_ | refine L.ldd ?_ | refine L.ldn ?_ | refine L.lddn ?_)
      | (show WOpsT _ (⟨_, .idx _ _ _ _, none⟩ :: _) _ _ _ _; first | refine L.idx ?_ | refine L.idxs ?_)
      | (show WOpsT _ (⟨_, .bin _ _ _, none⟩ :: _) _ _ _ _; first | refine L.add ?_ | refine T.rem rfl rfl (by omega) ?_ | refine L.bin ?_)
      | (show AKW _ _ _ _ _ _ _; first | refine N.now ?_)
      | (show AK _ _ (.cond _ _ _) _ _ _ _; first | refine N.c1 ?_ | refine N.c2 ?_ | refine N.c3 ?_ | refine N.c4 ?_ | refine N.condD rfl (fun hcd => ?_) (fun hcd => ?_) | refine N.condB rfl (fun hcd => ?_) (fun hcd => ?_) | refine N.condU rfl ?_ ?_)
      | (show AK _ _ _ _ _ _ _; first | refine N.seq ?_ | refine N.skip ?_ | refine N.ret ?_)
      | (show RK _ _ _ _ _ _ _; simp only [rk, rk0, reduceIte, Nat.reduceEqDiff])
      | (show WOpsT _ _ _ _ _ _; first | refine L.fad ?_ | refine L.fadd ?_ | refine L.st ?_ | refine L.new ?_ | refine L.zero ?_ | refine L.build ?_ | refine L.len ?_ | refine L.lenS ?_ | refine L.lenN ?_ | refine T.mksl rfl rfl (by decide) ?_ | refine T.copy rfl rfl rfl ⟨rfl, rfl⟩ ?_ | refine L.bsl ?_)
      | refine hQ _ _ _ rfl ?_
      | refine hQN _ _ _ rfl ?_)
    exact WS.gc [5, 3] 0 rfl (by show [_, _] = [_, outB _ _ _ ⟨1, 1, _⟩]; rw [copyN m 24 hm _ (by decide), outB_bytes]; rfl) .rfl
theorem place_b (n : Int) (hn : 0 ≤ n ∧ n < 3) (m : List Int) (at_ : Int) (ha : 0 ≤ at_ ∧ at_ ≤ 8) : FnE Try.prog 172 [.agg cbV, .agg [.psl 0 1 0 1, .psl 1 1 0 24], I at_] (dvP [n] m) (I (if at_ = 0 then -1 else n * 8 + at_ - 1)) (dvP [n] m) := by
  by_cases h0 : at_ = 0
  · rw [if_pos h0]; subst h0
    refine N.fn Try.func172 k172 lb q172 fun Q hQ hQN => ?_
    rw [c172]
    repeat' (first
      | refine N.regS fun K hK => ?_
      | refine N.dregS fun K hK => ?_
      | refine N.regN fun K hK => ?_
      | refine N.dregN fun K hK => ?_
      | simp only [T.mv, sm, AO.ev, put, lk, enter, reduceIte, Nat.reduceEqDiff, Nat.reduceAdd, Nat.reduceMul, Nat.reduceSub, Int.reduceNeg, Int.reduceToNat, upto, renB, setAll]
      | (refine T.nil ?_; (first | refine hK _ _ _ (by rfl) ?_ | refine hK _ _ _ ?_); (try simp only [keep, List.map, lk, reduceIte, Nat.reduceEqDiff, enter]); clear hK K)
      | (show WOpsT _ (⟨_, .call _ _, none⟩ :: _) _ _ _ _; first | refine T.call0 e144 rfl (window_b) ?_)
      | (show WOpsT _ (⟨_, .ld _ _, none⟩ :: _) _ _ _ _; first | refine L.ld ?_ | refine L.ldd ?_ | refine L.ldn ?_ | refine L.lddn ?_)
      | (show WOpsT _ (⟨_, .idx _ _ _ _, none⟩ :: _) _ _ _ _; first | refine L.idx ?_ | refine L.idxs ?_)
      | (show WOpsT _ (⟨_, .bin _ _ _, none⟩ :: _) _ _ _ _; first | refine L.add ?_ | refine L.sub ?_ | refine T.mul rfl rfl (by omega) (by omega) ?_ | refine L.bin ?_)
      | (show WOpsT _ (⟨_, _, some (_, false)⟩ :: _) _ _ _ _; first | refine L.goF ?_ | refine L.paF ?_ | refine L.go ?_ | refine L.pass ?_ | refine T.pU rfl ?_ | refine T.gF rfl (fun hgd => ?_) (fun hgd => ?_))
      | (show WOpsT _ (⟨_, .pick _ _ _, none⟩ :: _) _ _ _ _; first | refine L.pkT ?_ | refine L.pkF ?_ | refine L.pickT ?_ | refine L.pickF ?_ | refine L.pickB ?_ | refine T.pkD rfl (fun hgd => ?_) (fun hgd => ?_))
      | (show AKW _ _ _ _ _ _ _; first | refine N.now ?_)
      | (show AK _ _ (.cond _ _ _) _ _ _ _; first | refine N.c1 ?_ | refine N.c2 ?_ | refine N.c3 ?_ | refine N.c4 ?_ | refine N.condD rfl (fun hcd => ?_) (fun hcd => ?_) | refine N.condB rfl (fun hcd => ?_) (fun hcd => ?_) | refine N.condU rfl ?_ ?_)
      | (show AK _ _ _ _ _ _ _; first | refine N.seq ?_ | refine N.skip ?_ | refine N.ret ?_)
      | (show RK _ _ _ _ _ _ _; simp only [rk, rk0, reduceIte, Nat.reduceEqDiff])
      | (show WOpsT _ _ _ _ _ _; first | refine L.fad ?_ | refine L.fadd ?_ | refine L.new ?_ | refine L.len ?_ | refine L.lenS ?_ | refine L.lenN ?_)
      | refine hQ _ _ _ rfl ?_
      | refine hQN _ _ _ rfl ?_)
    exact WS.gc [0, 1] 0 rfl (by first | rfl | (symm; unfold outH; simp only [List.map]; (repeat' (first | rfl | exact outB_bytes | exact outB_ints | exact outB_flat | refine consE ?_ ?_)); done)) .rfl
  · rw [if_neg h0]
    refine N.fn Try.func172 k172 lb q172 fun Q hQ hQN => ?_
    rw [c172]
    repeat' (first
      | refine N.regS fun K hK => ?_
      | refine N.dregS fun K hK => ?_
      | refine N.regN fun K hK => ?_
      | refine N.dregN fun K hK => ?_
      | simp only [T.mv, sm, AO.ev, put, lk, enter, reduceIte, Nat.reduceEqDiff, Nat.reduceAdd, Nat.reduceMul, Nat.reduceSub, Int.reduceNeg, Int.reduceToNat, upto, renB, setAll]
      | (refine T.nil ?_; (first | refine hK _ _ _ (by rfl) ?_ | refine hK _ _ _ ?_); (try simp only [keep, List.map, lk, reduceIte, Nat.reduceEqDiff, enter]); clear hK K)
      | (show WOpsT _ (⟨_, .call _ _, none⟩ :: _) _ _ _ _; first | refine T.call0 e144 rfl (window_b) ?_)
      | (show WOpsT _ (⟨_, .ld _ _, none⟩ :: _) _ _ _ _; first | refine L.ld ?_ | refine L.ldd ?_ | refine L.ldn ?_ | refine L.lddn ?_)
      | (show WOpsT _ (⟨_, .idx _ _ _ _, none⟩ :: _) _ _ _ _; first | refine L.idx ?_ | refine L.idxs ?_)
      | (show WOpsT _ (⟨_, .bin _ _ _, none⟩ :: _) _ _ _ _; first | refine L.add ?_ | refine L.sub ?_ | refine T.mul rfl rfl (by omega) (by omega) ?_ | refine L.bin ?_)
      | (show WOpsT _ (⟨_, _, some (_, false)⟩ :: _) _ _ _ _; first | refine L.goF ?_ | refine L.paF ?_ | refine L.go ?_ | refine L.pass ?_ | refine T.pU rfl ?_ | refine T.gF rfl (fun hgd => ?_) (fun hgd => ?_))
      | (show WOpsT _ (⟨_, .pick _ _ _, none⟩ :: _) _ _ _ _; first | refine L.pkT ?_ | refine L.pkF ?_ | refine L.pickT ?_ | refine L.pickF ?_ | refine L.pickB ?_ | refine T.pkD rfl (fun hgd => ?_) (fun hgd => ?_))
      | (show AKW _ _ _ _ _ _ _; first | refine N.now ?_)
      | (show AK _ _ (.cond _ _ _) _ _ _ _; first | refine N.c1 ?_ | refine N.c2 ?_ | refine N.c3 ?_ | refine N.c4 ?_ | refine N.condD rfl (fun hcd => ?_) (fun hcd => ?_) | refine N.condB rfl (fun hcd => ?_) (fun hcd => ?_) | refine N.condU rfl ?_ ?_)
      | (show AK _ _ _ _ _ _ _; first | refine N.seq ?_ | refine N.skip ?_ | refine N.ret ?_)
      | (show RK _ _ _ _ _ _ _; simp only [rk, rk0, reduceIte, Nat.reduceEqDiff])
      | (show WOpsT _ _ _ _ _ _; first | refine L.fad ?_ | refine L.fadd ?_ | refine L.new ?_ | refine L.len ?_ | refine L.lenS ?_ | refine L.lenN ?_)
      | refine hQ _ _ _ rfl ?_
      | refine hQN _ _ _ rfl ?_)
    all_goals first
      | exact WS.gc [0, 1] 0 rfl (by first | rfl | (symm; unfold outH; simp only [List.map]; (repeat' (first | rfl | exact outB_bytes | exact outB_ints | exact outB_flat | refine consE ?_ ?_)); done)) .rfl
      | (exfalso; omega)
theorem bset (m : List Int) (k : Nat) (x v : Int) : (bcells m).set k (spl [V.c (.int .u8 x)] 0 [V.c (.int .u8 v)]) = bcells (m.set k v) := by rw [← bcells_set]; rfl
theorem wrap8 (d : Int) : IntKind.wrap .u8 (d % 2 ^ 8) = d % 256 := by
  rw [show (2 : Int) ^ 8 = 256 by decide]; exact wrap_u8 _ ⟨by omega, by omega⟩
theorem brow (m : List Int) (k : Nat) (hk : k < m.length) : (bcells m)[k]? = some [.c (.int .u8 m[k])] := by
  rw [bcells_get, List.getElem?_eq_getElem hk]; rfl
theorem write_b1 (n : Int) (hn : 0 ≤ n ∧ n < 3) (m : List Int) (hm : m.length = 24) (at_ : Int) (ha : 1 ≤ at_ ∧ at_ ≤ 8) (data : Int) : FnE Try.prog 131 [.agg cbV, dev [n] m, I at_, I data] [] (dev [n] (m.set (n * 8 + at_ - 1).toNat (data % 256))) [] := by
  have hf := fit_b n hn m hm
  have hp := place_b n hn m at_ ⟨by omega, ha.2⟩
  rw [if_neg (by omega)] at hp
  have hl := low_lit data 8 8 rfl (by decide)
  have hw := wrap8 data
  have hk : (n * 8 + at_ - 1).toNat < m.length := by omega
  have hr := brow m _ hk
  refine N.fn Try.func131 k131 lb q131 fun Q hQ hQN => ?_
  rw [c131]
  repeat' (first
    | rw [hw]
    | (show WOpsT _ (⟨_, .st _ _ _, none⟩ :: _) _ _ _ _; refine T.st rfl rfl rfl ⟨rfl, rfl⟩ hr lb ?_)
    | rw [bset]
    | refine N.regS fun K hK => ?_
    | refine N.dregS fun K hK => ?_
    | refine N.regN fun K hK => ?_
    | refine N.dregN fun K hK => ?_
    | simp only [T.mv, sm, AO.ev, put, lk, enter, reduceIte, Nat.reduceEqDiff, Nat.reduceAdd, Nat.reduceMul, Nat.reduceSub, Int.reduceNeg, Int.reduceToNat, upto, renB, setAll]
    | (refine T.nil ?_; (first | refine hK _ _ _ (by rfl) ?_ | refine hK _ _ _ ?_); (try simp only [keep, List.map, lk, reduceIte, Nat.reduceEqDiff, enter]); clear hK K)
    | (show WOpsT _ (⟨_, .call _ _, none⟩ :: _) _ _ _ _; first | refine T.callN e171 rfl (hf) (by simp) ?_ | refine T.callQ [3, 4] e172 rfl (hp) (by first | rfl | exact pasH_nil | (unfold pasH; simp only [List.map]; (repeat' (first | rfl | exact pasB_bytes | exact pasB_ints | exact pasB_flat | refine consE ?_ ?_)); done) | simp [pasH, pasB, cells_pas, bcells_pas]) rfl rfl rfl (by first | rfl | ((repeat' (first | rfl | exact renB_bytes | exact renB_ints | exact renB_flat | refine consE ?_ ?_)); done) | simp [renB, cells_ren, bcells_ren]) ?_ | refine T.call0 e35 rfl (hl) ?_)
    | (show WOpsT _ (⟨_, .ld _ _, none⟩ :: _) _ _ _ _; first | refine L.ld ?_ | refine L.ldd ?_ | refine L.ldn ?_ | refine L.lddn ?_)
    | (show WOpsT _ (⟨_, .idx _ _ _ _, none⟩ :: _) _ _ _ _; first | refine L.idx ?_ | refine L.idxs ?_)
    | (show WOpsT _ (⟨_, .bin _ _ _, none⟩ :: _) _ _ _ _; first | refine T.rem rfl rfl (by omega) ?_ | refine L.bin ?_)
    | (show WOpsT _ (⟨_, _, some (_, true)⟩ :: _) _ _ _ _; first | refine L.goT ?_ | refine L.paT ?_ | refine L.go ?_ | refine L.pass ?_ | refine T.pU rfl ?_ | refine T.gT rfl (fun hgd => ?_) (fun hgd => ?_))
    | (show WOpsT _ (⟨_, .pick _ _ _, none⟩ :: _) _ _ _ _; first | refine L.pkT ?_ | refine L.pkF ?_ | refine L.pickT ?_ | refine L.pickF ?_ | refine L.pickB ?_ | refine T.pkD rfl (fun hgd => ?_) (fun hgd => ?_))
    | (show AKW _ _ _ _ _ _ _; first | refine N.now ?_)
    | (show AK _ _ (.cond _ _ _) _ _ _ _; first | refine N.c1 ?_ | refine N.c2 ?_ | refine N.c3 ?_ | refine N.c4 ?_ | refine N.condD rfl (fun hcd => ?_) (fun hcd => ?_) | refine N.condB rfl (fun hcd => ?_) (fun hcd => ?_) | refine N.condU rfl ?_ ?_)
    | (show AK _ _ _ _ _ _ _; first | refine N.seq ?_ | refine N.block ?_ | refine N.skip ?_ | refine N.ret ?_)
    | (show RK _ _ _ _ _ _ _; simp only [rk, rk0, reduceIte, Nat.reduceEqDiff])
    | (show WOpsT _ _ _ _ _ _; first | refine T.cvt rfl ?_ | refine L.fad ?_ | refine L.fadd ?_ | refine L.st ?_ | refine L.new ?_ | refine L.zero ?_)
    | refine hQ _ _ _ rfl ?_
    | refine hQN _ _ _ rfl ?_)
  exact WS.dev2 (n := [n]) (m := m.set (n * 8 + at_ - 1).toNat (data % 256)) rfl rfl (by simp) rfl (by simp [hm])
theorem write_b0 (n : Int) (hn : 0 ≤ n ∧ n < 3) (m : List Int) (hm : m.length = 24) (data : Int) (hd : 0 ≤ data ∧ data < 3) : FnE Try.prog 131 [.agg cbV, dev [n] m, I 0, I data] [] (dev [data] m) [] := by
  have hf := fit_b n hn m hm
  have hp := place_b n hn m 0 ⟨by omega, by omega⟩
  rw [if_pos rfl] at hp
  have hl := low_lit data 8 8 rfl (by decide)
  rw [show data % 2 ^ 8 = data by omega] at hl
  have he : data.tmod 3 = data := by rw [Int.tmod_eq_emod_of_nonneg hd.1]; omega
  refine N.fn Try.func131 k131 lb q131 fun Q hQ hQN => ?_
  rw [c131]
  repeat' (first
    | rw [he]
    | refine N.regS fun K hK => ?_
    | refine N.dregS fun K hK => ?_
    | refine N.regN fun K hK => ?_
    | refine N.dregN fun K hK => ?_
    | simp only [T.mv, sm, AO.ev, put, lk, enter, reduceIte, Nat.reduceEqDiff, Nat.reduceAdd, Nat.reduceMul, Nat.reduceSub, Int.reduceNeg, Int.reduceToNat, upto, renB, setAll]
    | (refine T.nil ?_; (first | refine hK _ _ _ (by rfl) ?_ | refine hK _ _ _ ?_); (try simp only [keep, List.map, lk, reduceIte, Nat.reduceEqDiff, enter]); clear hK K)
    | (show WOpsT _ (⟨_, .call _ _, none⟩ :: _) _ _ _ _; first | refine T.callN e171 rfl (hf) (by simp) ?_ | refine T.callQ [3, 4] e172 rfl (hp) (by first | rfl | exact pasH_nil | (unfold pasH; simp only [List.map]; (repeat' (first | rfl | exact pasB_bytes | exact pasB_ints | exact pasB_flat | refine consE ?_ ?_)); done) | simp [pasH, pasB, cells_pas, bcells_pas]) rfl rfl rfl (by first | rfl | ((repeat' (first | rfl | exact renB_bytes | exact renB_ints | exact renB_flat | refine consE ?_ ?_)); done) | simp [renB, cells_ren, bcells_ren]) ?_ | refine T.call0 e35 rfl (hl) ?_ | refine T.call0 e77 rfl (banks_b) ?_)
    | (show WOpsT _ (⟨_, .ld _ _, none⟩ :: _) _ _ _ _; first | refine L.ld ?_ | refine L.ldd ?_ | refine L.ldn ?_ | refine L.lddn ?_)
    | (show WOpsT _ (⟨_, .idx _ _ _ _, none⟩ :: _) _ _ _ _; first | refine L.idx ?_ | refine L.idxs ?_)
    | (show WOpsT _ (⟨_, .bin _ _ _, none⟩ :: _) _ _ _ _; first | refine T.rem rfl rfl (by omega) ?_ | refine L.bin ?_)
    | (show WOpsT _ (⟨_, _, some (_, true)⟩ :: _) _ _ _ _; first | refine L.goT ?_ | refine L.paT ?_ | refine L.go ?_ | refine L.pass ?_ | refine T.pU rfl ?_ | refine T.gT rfl (fun hgd => ?_) (fun hgd => ?_))
    | (show WOpsT _ (⟨_, .pick _ _ _, none⟩ :: _) _ _ _ _; first | refine L.pkT ?_ | refine L.pkF ?_ | refine L.pickT ?_ | refine L.pickF ?_ | refine L.pickB ?_ | refine T.pkD rfl (fun hgd => ?_) (fun hgd => ?_))
    | (show AKW _ _ _ _ _ _ _; first | refine N.now ?_)
    | (show AK _ _ (.cond _ _ _) _ _ _ _; first | refine N.c1 ?_ | refine N.c2 ?_ | refine N.c3 ?_ | refine N.c4 ?_ | refine N.condD rfl (fun hcd => ?_) (fun hcd => ?_) | refine N.condB rfl (fun hcd => ?_) (fun hcd => ?_) | refine N.condU rfl ?_ ?_)
    | (show AK _ _ _ _ _ _ _; first | refine N.seq ?_ | refine N.block ?_ | refine N.skip ?_ | refine N.ret ?_)
    | (show RK _ _ _ _ _ _ _; simp only [rk, rk0, reduceIte, Nat.reduceEqDiff])
    | (show WOpsT _ _ _ _ _ _; first | refine T.cvt rfl ?_ | refine L.fad ?_ | refine L.fadd ?_ | refine L.st ?_ | refine L.new ?_ | refine L.zero ?_)
    | refine hQ _ _ _ rfl ?_
    | refine hQN _ _ _ rfl ?_)
  exact WS.dev2 (n := [data]) (m := m) rfl rfl (by simp) rfl (by simp [hm])
theorem read_b1 (n : Int) (hn : 0 ≤ n ∧ n < 3) (m : List Int) (hm : m.length = 24) (hby : Bytes m) (at_ : Int) (ha : 1 ≤ at_ ∧ at_ ≤ 8) : FnE Try.prog 139 [.agg cbV, dev [n] m, I at_] [] (.tup [dev [n] m, I (m.getD (n * 8 + at_ - 1).toNat 0)]) [] := by
  have hf := fit_b n hn m hm
  have hp := place_b n hn m at_ ⟨by omega, ha.2⟩
  rw [if_neg (by omega)] at hp
  have hk : (n * 8 + at_ - 1).toNat < m.length := by omega
  have hr := brow m _ hk
  have hb := hby (n * 8 + at_ - 1).toNat
  have hg : m.getD (n * 8 + at_ - 1).toNat 0 = m[(n * 8 + at_ - 1).toNat] := by rw [List.getD_eq_getElem?_getD, List.getElem?_eq_getElem hk]; rfl
  rw [hg] at hb ⊢
  have hw : IntKind.wrap .i64 (m[(n * 8 + at_ - 1).toNat]) = m[(n * 8 + at_ - 1).toNat] := BA.wrap_small _ (by omega) (by omega)
  refine N.fn Try.func139 k139 lb q139 fun Q hQ hQN => ?_
  rw [c139]
  repeat' (first
    | (show WOpsT _ (⟨_, .ld _ _, none⟩ :: _) _ _ _ _; refine T.ld rfl rfl rfl hr rfl ?_)
    | rw [hw]
    | refine N.regS fun K hK => ?_
    | refine N.dregS fun K hK => ?_
    | refine N.regN fun K hK => ?_
    | refine N.dregN fun K hK => ?_
    | simp only [T.mv, sm, AO.ev, put, lk, enter, reduceIte, Nat.reduceEqDiff, Nat.reduceAdd, Nat.reduceMul, Nat.reduceSub, Int.reduceNeg, Int.reduceToNat, upto, renB, setAll]
    | (refine T.nil ?_; (first | refine hK _ _ _ (by rfl) ?_ | refine hK _ _ _ ?_); (try simp only [keep, List.map, lk, reduceIte, Nat.reduceEqDiff, enter]); clear hK K)
    | (show WOpsT _ (⟨_, .call _ _, none⟩ :: _) _ _ _ _; first | refine T.callN e171 rfl (hf) (by simp) ?_ | refine T.callQ [3, 4] e172 rfl (hp) (by first | rfl | exact pasH_nil | (unfold pasH; simp only [List.map]; (repeat' (first | rfl | exact pasB_bytes | exact pasB_ints | exact pasB_flat | refine consE ?_ ?_)); done) | simp [pasH, pasB, cells_pas, bcells_pas]) rfl rfl rfl (by first | rfl | ((repeat' (first | rfl | exact renB_bytes | exact renB_ints | exact renB_flat | refine consE ?_ ?_)); done) | simp [renB, cells_ren, bcells_ren]) ?_)
    | (show WOpsT _ (⟨_, .ld _ _, none⟩ :: _) _ _ _ _; first | refine L.ld ?_ | refine L.ldd ?_ | refine L.ldn ?_ | refine L.lddn ?_)
    | (show WOpsT _ (⟨_, .idx _ _ _ _, none⟩ :: _) _ _ _ _; first | refine L.idx ?_ | refine L.idxs ?_)
    | (show WOpsT _ (⟨_, .bin _ _ _, none⟩ :: _) _ _ _ _; first | refine L.bin ?_)
    | (show WOpsT _ (⟨_, _, some (_, true)⟩ :: _) _ _ _ _; first | refine L.goT ?_ | refine L.paT ?_ | refine L.go ?_ | refine L.pass ?_ | refine T.pU rfl ?_ | refine T.gT rfl (fun hgd => ?_) (fun hgd => ?_))
    | (show WOpsT _ (⟨_, .pick _ _ _, none⟩ :: _) _ _ _ _; first | refine L.pkT ?_ | refine L.pkF ?_ | refine L.pickT ?_ | refine L.pickF ?_ | refine L.pickB ?_ | refine T.pkD rfl (fun hgd => ?_) (fun hgd => ?_))
    | (show AKW _ _ _ _ _ _ _; first | refine N.now ?_)
    | (show AK _ _ (.cond _ _ _) _ _ _ _; first | refine N.c1 ?_ | refine N.c2 ?_ | refine N.c3 ?_ | refine N.c4 ?_ | refine N.condD rfl (fun hcd => ?_) (fun hcd => ?_) | refine N.condB rfl (fun hcd => ?_) (fun hcd => ?_) | refine N.condU rfl ?_ ?_)
    | (show AK _ _ _ _ _ _ _; first | refine N.seq ?_ | refine N.block ?_ | refine N.skip ?_ | refine N.ret ?_)
    | (show RK _ _ _ _ _ _ _; simp only [rk, rk0, reduceIte, Nat.reduceEqDiff])
    | (show WOpsT _ _ _ _ _ _; first | refine T.cvt rfl ?_ | refine L.fad ?_ | refine L.fadd ?_ | refine L.st ?_ | refine L.new ?_ | refine L.zero ?_)
    | refine hQ _ _ _ rfl ?_
    | refine hQN _ _ _ rfl ?_)
  exact WS.dev2t (n := [n]) (m := m) rfl rfl (by simp) rfl (by simp [hm])
theorem read_b0 (n : Int) (hn : 0 ≤ n ∧ n < 3) (m : List Int) (hm : m.length = 24) : FnE Try.prog 139 [.agg cbV, dev [n] m, I 0] [] (.tup [dev [n] m, I n]) [] := by
  have hf := fit_b n hn m hm
  have hp := place_b n hn m 0 ⟨by omega, by omega⟩
  rw [if_pos rfl] at hp
  refine N.fn Try.func139 k139 lb q139 fun Q hQ hQN => ?_
  rw [c139]
  repeat' (first
    | refine N.regS fun K hK => ?_
    | refine N.dregS fun K hK => ?_
    | refine N.regN fun K hK => ?_
    | refine N.dregN fun K hK => ?_
    | simp only [T.mv, sm, AO.ev, put, lk, enter, reduceIte, Nat.reduceEqDiff, Nat.reduceAdd, Nat.reduceMul, Nat.reduceSub, Int.reduceNeg, Int.reduceToNat, upto, renB, setAll]
    | (refine T.nil ?_; (first | refine hK _ _ _ (by rfl) ?_ | refine hK _ _ _ ?_); (try simp only [keep, List.map, lk, reduceIte, Nat.reduceEqDiff, enter]); clear hK K)
    | (show WOpsT _ (⟨_, .call _ _, none⟩ :: _) _ _ _ _; first | refine T.callN e171 rfl (hf) (by simp) ?_ | refine T.callQ [3, 4] e172 rfl (hp) (by first | rfl | exact pasH_nil | (unfold pasH; simp only [List.map]; (repeat' (first | rfl | exact pasB_bytes | exact pasB_ints | exact pasB_flat | refine consE ?_ ?_)); done) | simp [pasH, pasB, cells_pas, bcells_pas]) rfl rfl rfl (by first | rfl | ((repeat' (first | rfl | exact renB_bytes | exact renB_ints | exact renB_flat | refine consE ?_ ?_)); done) | simp [renB, cells_ren, bcells_ren]) ?_)
    | (show WOpsT _ (⟨_, .ld _ _, none⟩ :: _) _ _ _ _; first | refine L.ld ?_ | refine L.ldd ?_ | refine L.ldn ?_ | refine L.lddn ?_)
    | (show WOpsT _ (⟨_, .idx _ _ _ _, none⟩ :: _) _ _ _ _; first | refine L.idx ?_ | refine L.idxs ?_)
    | (show WOpsT _ (⟨_, .bin _ _ _, none⟩ :: _) _ _ _ _; first | refine L.bin ?_)
    | (show WOpsT _ (⟨_, _, some (_, true)⟩ :: _) _ _ _ _; first | refine L.goT ?_ | refine L.paT ?_ | refine L.go ?_ | refine L.pass ?_ | refine T.pU rfl ?_ | refine T.gT rfl (fun hgd => ?_) (fun hgd => ?_))
    | (show WOpsT _ (⟨_, .pick _ _ _, none⟩ :: _) _ _ _ _; first | refine L.pkT ?_ | refine L.pkF ?_ | refine L.pickT ?_ | refine L.pickF ?_ | refine L.pickB ?_ | refine T.pkD rfl (fun hgd => ?_) (fun hgd => ?_))
    | (show AKW _ _ _ _ _ _ _; first | refine N.now ?_)
    | (show AK _ _ (.cond _ _ _) _ _ _ _; first | refine N.c1 ?_ | refine N.c2 ?_ | refine N.c3 ?_ | refine N.c4 ?_ | refine N.condD rfl (fun hcd => ?_) (fun hcd => ?_) | refine N.condB rfl (fun hcd => ?_) (fun hcd => ?_) | refine N.condU rfl ?_ ?_)
    | (show AK _ _ _ _ _ _ _; first | refine N.seq ?_ | refine N.block ?_ | refine N.skip ?_ | refine N.ret ?_)
    | (show RK _ _ _ _ _ _ _; simp only [rk, rk0, reduceIte, Nat.reduceEqDiff])
    | (show WOpsT _ _ _ _ _ _; first | refine T.cvt rfl ?_ | refine L.fad ?_ | refine L.fadd ?_ | refine L.st ?_ | refine L.new ?_ | refine L.zero ?_)
    | refine hQ _ _ _ rfl ?_
    | refine hQN _ _ _ rfl ?_)
  exact WS.dev2t (n := [n]) (m := m) rfl rfl (by simp) rfl (by simp [hm])
theorem Write_b (d e : V) (at_ data : Int) (hw : FnE Try.prog 131 [.agg cbV, d, I at_, I data] [] e []) (hd : ∃ n m, d = dev n m) (he : ∃ n m, e = dev n m) : FnE Try.prog 73 [.agg cbV, d, I at_, I data] [] e [] := by
  obtain ⟨n, m, rfl⟩ := hd
  obtain ⟨n2, m2, rfl⟩ := he
  refine N.fn Try.func73 k73 lb q73 fun Q hQ hQN => ?_
  rw [c73]
  repeat' (first
    | refine N.regS fun K hK => ?_
    | refine N.dregS fun K hK => ?_
    | refine N.regN fun K hK => ?_
    | refine N.dregN fun K hK => ?_
    | simp only [T.mv, sm, AO.ev, put, lk, enter, reduceIte, Nat.reduceEqDiff, Nat.reduceAdd, Nat.reduceMul, Nat.reduceSub, Int.reduceNeg, Int.reduceToNat, upto, renB, setAll]
    | (refine T.nil ?_; (first | refine hK _ _ _ (by rfl) ?_ | refine hK _ _ _ ?_); (try simp only [keep, List.map, lk, reduceIte, Nat.reduceEqDiff, enter]); clear hK K)
    | (show WOpsT _ (⟨_, .call _ _, none⟩ :: _) _ _ _ _; first | refine T.call0 e131 rfl (hw) ?_)
    | (show WOpsT _ (⟨_, .ld _ _, none⟩ :: _) _ _ _ _; first | refine L.ld ?_ | refine L.ldd ?_ | refine L.ldn ?_ | refine L.lddn ?_)
    | (show WOpsT _ (⟨_, .bin _ _ _, none⟩ :: _) _ _ _ _; first | refine L.bin ?_)
    | (show AKW _ _ _ _ _ _ _; first | refine N.now ?_)
    | (show AK _ _ (.cond _ _ _) _ _ _ _; first | refine N.c1 ?_ | refine N.c2 ?_ | refine N.c3 ?_ | refine N.c4 ?_ | refine N.condD rfl (fun hcd => ?_) (fun hcd => ?_) | refine N.condB rfl (fun hcd => ?_) (fun hcd => ?_) | refine N.condU rfl ?_ ?_)
    | (show AK _ _ _ _ _ _ _; first | refine N.seq ?_ | refine N.block ?_ | refine N.skip ?_ | refine N.ret ?_)
    | (show RK _ _ _ _ _ _ _; simp only [rk, rk0, reduceIte, Nat.reduceEqDiff])
    | (show WOpsT _ _ _ _ _ _; first | refine L.fad ?_ | refine L.fadd ?_ | refine L.st ?_ | refine L.new ?_ | refine L.zero ?_ | refine L.build ?_)
    | refine hQ _ _ _ rfl ?_
    | refine hQN _ _ _ rfl ?_)
  exact WS.drop (n := 0) rfl rfl
theorem Read_b (d : V) (at_ v : Int) (hr : FnE Try.prog 139 [.agg cbV, d, I at_] [] (.tup [d, I v]) []) (hd : ∃ n m, d = dev n m) : FnE Try.prog 75 [.agg cbV, d, I at_] [] (.tup [d, I v]) [] := by
  obtain ⟨n, m, rfl⟩ := hd
  refine N.fn Try.func75 k75 lb q75 fun Q hQ hQN => ?_
  rw [c75]
  repeat' (first
    | refine N.regS fun K hK => ?_
    | refine N.dregS fun K hK => ?_
    | refine N.regN fun K hK => ?_
    | refine N.dregN fun K hK => ?_
    | simp only [T.mv, sm, AO.ev, put, lk, enter, reduceIte, Nat.reduceEqDiff, Nat.reduceAdd, Nat.reduceMul, Nat.reduceSub, Int.reduceNeg, Int.reduceToNat, upto, renB, setAll]
    | (refine T.nil ?_; (first | refine hK _ _ _ (by rfl) ?_ | refine hK _ _ _ ?_); (try simp only [keep, List.map, lk, reduceIte, Nat.reduceEqDiff, enter]); clear hK K)
    | (show WOpsT _ (⟨_, .call _ _, none⟩ :: _) _ _ _ _; first | refine T.call0 e139 rfl (hr) ?_)
    | (show WOpsT _ (⟨_, .ld _ _, none⟩ :: _) _ _ _ _; first | refine L.ld ?_ | refine L.ldd ?_ | refine L.ldn ?_ | refine L.lddn ?_)
    | (show WOpsT _ (⟨_, .bin _ _ _, none⟩ :: _) _ _ _ _; first | refine L.bin ?_)
    | (show AKW _ _ _ _ _ _ _; first | refine N.now ?_)
    | (show AK _ _ (.cond _ _ _) _ _ _ _; first | refine N.c1 ?_ | refine N.c2 ?_ | refine N.c3 ?_ | refine N.c4 ?_ | refine N.condD rfl (fun hcd => ?_) (fun hcd => ?_) | refine N.condB rfl (fun hcd => ?_) (fun hcd => ?_) | refine N.condU rfl ?_ ?_)
    | (show AK _ _ _ _ _ _ _; first | refine N.seq ?_ | refine N.block ?_ | refine N.skip ?_ | refine N.ret ?_)
    | (show RK _ _ _ _ _ _ _; simp only [rk, rk0, reduceIte, Nat.reduceEqDiff])
    | (show WOpsT _ _ _ _ _ _; first | refine L.ext ?_ | refine L.fad ?_ | refine L.fadd ?_ | refine L.st ?_ | refine L.new ?_ | refine L.zero ?_ | refine L.build ?_)
    | refine hQ _ _ _ rfl ?_
    | refine hQN _ _ _ rfl ?_)
  exact WS.drop (n := 0) rfl rfl
end Go.Proofs.Ytjmmompbmjhkpaa.Calc

namespace Go.Proofs.Ytjmmompbmjhkpaa.Calc
open Go Code
set_option linter.unusedSimpArgs false
set_option linter.unusedVariables false
set_option maxRecDepth 20000
set_option maxHeartbeats 4000000
attribute [local irreducible] WOpsT AW AK RK AKW UK UC
theorem Sub.devR (m : List Int) : Sub (.agg [.c (.slice none 0 0), .sl 1 (bcells m)]) (dev [] m) := by
  refine .agg (Eq.refl _) fun i x y hx hy => ?_
  match i with
  | 0 => cases hx; cases hy; exact .nil
  | 1 => cases hx; cases hy; exact .rfl
  | i + 2 => cases hx
theorem WS.devR {h : List Blk} {b v len : Nat} {m : List Int} (h1 : h[b]? = some ⟨v, 1, bcells m⟩) (hl : m.length ≤ len) : WeakS 0 (.agg [.c (.slice none 0 0), .psl b v 0 len]) h (dev [] m) [] :=
  WS.gc [] 1 rfl rfl (by rw [out_agg]; simp only [List.map]; rw [out_bytes h1 hl]; exact Sub.devR m)
theorem WS.devRt {h : List Blk} {b v len : Nat} {m : List Int} {x : Value} (h1 : h[b]? = some ⟨v, 1, bcells m⟩) (hl : m.length ≤ len) : WeakS 0 (.tup [.agg [.c (.slice none 0 0), .psl b v 0 len], .c x]) h (.tup [dev [] m, .c x]) [] :=
  WS.gc [] 1 rfl rfl (by rw [out_tup]; simp only [List.map]; rw [out_agg]; simp only [List.map]; rw [out_bytes h1 hl]; exact Sub.tup2 (Sub.devR m) .rfl)
section
variable {P : Program} {rest : List AOper} {tr : Tr} {fr : Fr} {h : List Blk} {K : KT} {d : Option Nat}
theorem T.copyZ {e : Nat} {t s : AO} {b ver off len : Nat} {B : Blk} (ht : t.ev (lk fr) = .psl b ver off len) (hb : h[b]? = some B) (hs : s.ev (lk fr) = .c (.slice none 0 0)) (hv : B.ver = ver)
    (hK : WOpsT P rest (tr ++ [([b], [])]) (put fr d (I 0)) h K) : WOpsT P (⟨d, .copy e t s, none⟩ :: rest) tr fr h K :=
  T.pure nofun nofun (by simp only [stepA, ht, hb, hs, rowsOf]; rw [if_pos hv]) hK
end
theorem new_r : FnE Try.prog 74 [.agg crV] [] (dev [] [0, 0, 0, 0]) [] := by
  refine N.fn Try.func74 k74 lb q74 fun Q hQ hQN => ?_
  rw [c74]
  repeat' (first
    | rw [zeros]
    | refine T.copyZ rfl rfl rfl rfl ?_
    | refine N.regS fun K hK => ?_
    | refine N.dregS fun K hK => ?_
    | refine N.regN fun K hK => ?_
    | refine N.dregN fun K hK => ?_
    | simp only [T.mv, sm, AO.ev, put, lk, enter, reduceIte, Nat.reduceEqDiff, Nat.reduceAdd, Nat.reduceMul, Nat.reduceSub, Int.reduceNeg, Int.reduceToNat, upto, renB, setAll]
    | (refine T.nil ?_; (first | refine hK _ _ _ (by rfl) ?_ | refine hK _ _ _ ?_); (try simp only [keep, List.map, lk, reduceIte, Nat.reduceEqDiff, enter]); clear hK K)
    | (show WOpsT _ (⟨_, .call _ _, none⟩ :: _) _ _ _ _; first | refine T.call0 e135 rfl (bytes_r) ?_)
    | (show WOpsT _ (⟨_, .ld _ _, none⟩ :: _) _ _ _ _; first | refine L.ld ?_ | refine L.ldd ?_ | refine L.ldn ?_ | refine L.lddn ?_)
    | (show WOpsT _ (⟨_, .bin _ _ _, none⟩ :: _) _ _ _ _; first | refine L.bin ?_)
    | (show AKW _ _ _ _ _ _ _; first | refine N.now ?_)
    | (show AK _ _ (.cond _ _ _) _ _ _ _; first | refine N.c1 ?_ | refine N.c2 ?_ | refine N.c3 ?_ | refine N.c4 ?_ | refine N.condD rfl (fun hcd => ?_) (fun hcd => ?_) | refine N.condB rfl (fun hcd => ?_) (fun hcd => ?_) | refine N.condU rfl ?_ ?_)
    | (show AK _ _ _ _ _ _ _; first | refine N.seq ?_ | refine N.block ?_ | refine N.skip ?_ | refine N.ret ?_)
    | (show RK _ _ _ _ _ _ _; simp only [rk, rk0, reduceIte, Nat.reduceEqDiff])
    | (show WOpsT _ _ _ _ _ _; first | refine L.fad ?_ | refine L.fadd ?_ | refine L.st ?_ | refine L.new ?_ | refine L.zero ?_ | refine L.build ?_ | refine T.mksl rfl rfl (by decide) ?_ | refine T.copy rfl rfl rfl ⟨rfl, rfl⟩ ?_ | refine L.bsl ?_)
    | refine hQ _ _ _ rfl ?_
    | refine hQN _ _ _ rfl ?_)
  exact WS.devR (m := [0, 0, 0, 0]) rfl (by decide)
theorem fit_r (m : List Int) (hm : m.length = 4) : FnE Try.prog 171 [.agg crV, dev [] m] [] (.agg [.c (.slice none 0 0), .psl 0 1 0 4]) [⟨1, 1, bcells m⟩] := by
  refine N.fn Try.func171 k171 lb q171 fun Q hQ hQN => ?_
  rw [c171]
  repeat' (first
    | rw [zeros]
    | (show WOpsT _ (⟨_, .copy _ _ _, none⟩ :: _) _ _ _ _; refine T.copy rfl rfl rfl ⟨rfl, rfl⟩ ?_)
    | refine N.regS fun K hK => ?_
    | refine N.dregS fun K hK => ?_
    | refine N.regN fun K hK => ?_
    | refine N.dregN fun K hK => ?_
    | simp only [T.mv, sm, AO.ev, put, lk, enter, reduceIte, Nat.reduceEqDiff, Nat.reduceAdd, Nat.reduceMul, Nat.reduceSub, Int.reduceNeg, Int.reduceToNat, upto, renB, setAll]
    | (refine T.nil ?_; (first | refine hK _ _ _ (by rfl) ?_ | refine hK _ _ _ ?_); (try simp only [keep, List.map, lk, reduceIte, Nat.reduceEqDiff, enter]); clear hK K)
    | (show WOpsT _ (⟨_, .call _ _, none⟩ :: _) _ _ _ _; first | refine T.call0 e135 rfl (bytes_r) ?_)
    | (show WOpsT _ (⟨_, .ld _ _, none⟩ :: _) _ _ _ _; first | refine L.ld ?_ | refine L.ldd ?_ | refine L.ldn ?_ | refine L.lddn ?_)
    | (show WOpsT _ (⟨_, .idx _ _ _ _, none⟩ :: _) _ _ _ _; first | refine L.idx ?_ | refine L.idxs ?_)
    | (show WOpsT _ (⟨_, .bin _ _ _, none⟩ :: _) _ _ _ _; first | refine L.add ?_ | refine T.rem rfl rfl (by omega) ?_ | refine L.bin ?_)
    | (show AKW _ _ _ _ _ _ _; first | refine N.now ?_)
    | (show AK _ _ (.cond _ _ _) _ _ _ _; first | refine N.c1 ?_ | refine N.c2 ?_ | refine N.c3 ?_ | refine N.c4 ?_ | refine N.condD rfl (fun hcd => ?_) (fun hcd => ?_) | refine N.condB rfl (fun hcd => ?_) (fun hcd => ?_) | refine N.condU rfl ?_ ?_)
    | (show AK _ _ _ _ _ _ _; first | refine N.seq ?_ | refine N.skip ?_ | refine N.ret ?_)
    | (show RK _ _ _ _ _ _ _; simp only [rk, rk0, reduceIte, Nat.reduceEqDiff])
    | (show WOpsT _ _ _ _ _ _; first | refine L.fad ?_ | refine L.fadd ?_ | refine L.st ?_ | refine L.new ?_ | refine L.zero ?_ | refine L.build ?_ | refine L.len ?_ | refine L.lenS ?_ | refine L.lenN ?_ | refine T.mksl rfl rfl (by decide) ?_ | refine T.copy rfl rfl rfl ⟨rfl, rfl⟩ ?_ | refine L.bsl ?_)
    | refine hQ _ _ _ rfl ?_
    | refine hQN _ _ _ rfl ?_)
  exact WS.gc [3] 0 rfl (by show [_] = [outB _ _ _ ⟨1, 1, _⟩]; rw [copyN m 4 hm _ (by decide), outB_bytes]) .rfl
theorem place_r (m : List Int) : FnE Try.prog 172 [.agg crV, .agg [.c (.slice none 0 0), .psl 0 1 0 4], I 2] [⟨1, 1, bcells m⟩] (I 2) [⟨1, 1, bcells m⟩] := by
  refine N.fn Try.func172 k172 lb q172 fun Q hQ hQN => ?_
  rw [c172]
  repeat' (first
    | refine N.regS fun K hK => ?_
    | refine N.dregS fun K hK => ?_
    | refine N.regN fun K hK => ?_
    | refine N.dregN fun K hK => ?_
    | simp only [T.mv, sm, AO.ev, put, lk, enter, reduceIte, Nat.reduceEqDiff, Nat.reduceAdd, Nat.reduceMul, Nat.reduceSub, Int.reduceNeg, Int.reduceToNat, upto, renB, setAll]
    | (refine T.nil ?_; (first | refine hK _ _ _ (by rfl) ?_ | refine hK _ _ _ ?_); (try simp only [keep, List.map, lk, reduceIte, Nat.reduceEqDiff, enter]); clear hK K)
    | (show WOpsT _ (⟨_, .ld _ _, none⟩ :: _) _ _ _ _; first | refine L.ld ?_ | refine L.ldd ?_ | refine L.ldn ?_ | refine L.lddn ?_)
    | (show WOpsT _ (⟨_, .idx _ _ _ _, none⟩ :: _) _ _ _ _; first | refine L.idx ?_ | refine L.idxs ?_)
    | (show WOpsT _ (⟨_, .bin _ _ _, none⟩ :: _) _ _ _ _; first | refine L.add ?_ | refine L.sub ?_ | refine T.mul rfl rfl (by omega) (by omega) ?_ | refine L.bin ?_)
    | (show WOpsT _ (⟨_, _, some (_, false)⟩ :: _) _ _ _ _; first | refine L.goF ?_ | refine L.paF ?_ | refine L.go ?_ | refine L.pass ?_ | refine T.pU rfl ?_ | refine T.gF rfl (fun hgd => ?_) (fun hgd => ?_))
    | (show WOpsT _ (⟨_, .pick _ _ _, none⟩ :: _) _ _ _ _; first | refine L.pkT ?_ | refine L.pkF ?_ | refine L.pickT ?_ | refine L.pickF ?_ | refine L.pickB ?_ | refine T.pkD rfl (fun hgd => ?_) (fun hgd => ?_))
    | (show AKW _ _ _ _ _ _ _; first | refine N.now ?_)
    | (show AK _ _ (.cond _ _ _) _ _ _ _; first | refine N.c1 ?_ | refine N.c2 ?_ | refine N.c3 ?_ | refine N.c4 ?_ | refine N.condD rfl (fun hcd => ?_) (fun hcd => ?_) | refine N.condB rfl (fun hcd => ?_) (fun hcd => ?_) | refine N.condU rfl ?_ ?_)
    | (show AK _ _ _ _ _ _ _; first | refine N.seq ?_ | refine N.skip ?_ | refine N.ret ?_)
    | (show RK _ _ _ _ _ _ _; simp only [rk, rk0, reduceIte, Nat.reduceEqDiff])
    | (show WOpsT _ _ _ _ _ _; first | refine L.fad ?_ | refine L.fadd ?_ | refine L.new ?_ | refine L.len ?_ | refine L.lenS ?_ | refine L.lenN ?_)
    | refine hQ _ _ _ rfl ?_
    | refine hQN _ _ _ rfl ?_)
  all_goals first
    | exact WS.gc [0] 0 rfl (by first | rfl | (symm; unfold outH; simp only [List.map]; (repeat' (first | rfl | exact outB_bytes | exact outB_ints | exact outB_flat | refine consE ?_ ?_)); done)) .rfl
    | (exfalso; omega)
theorem write_r : FnE Try.prog 131 [.agg crV, dev [] [0, 0, 0, 0], I 2, I 9] [] (dev [] [0, 0, 9, 0]) [] := by
  have hf := fit_r [0, 0, 0, 0] rfl
  have hp := place_r [0, 0, 0, 0]
  have hl := low_lit 9 8 8 rfl (by decide)
  refine N.fn Try.func131 k131 lb q131 fun Q hQ hQN => ?_
  rw [c131]
  repeat' (first
    | refine N.regS fun K hK => ?_
    | refine N.dregS fun K hK => ?_
    | refine N.regN fun K hK => ?_
    | refine N.dregN fun K hK => ?_
    | simp only [T.mv, sm, AO.ev, put, lk, enter, reduceIte, Nat.reduceEqDiff, Nat.reduceAdd, Nat.reduceMul, Nat.reduceSub, Int.reduceNeg, Int.reduceToNat, upto, renB, setAll]
    | (refine T.nil ?_; (first | refine hK _ _ _ (by rfl) ?_ | refine hK _ _ _ ?_); (try simp only [keep, List.map, lk, reduceIte, Nat.reduceEqDiff, enter]); clear hK K)
    | (show WOpsT _ (⟨_, .call _ _, none⟩ :: _) _ _ _ _; first | refine T.callN e171 rfl (hf) (by simp) ?_ | refine T.callQ [3] e172 rfl (hp) (by first | rfl | exact pasH_nil | (unfold pasH; simp only [List.map]; (repeat' (first | rfl | exact pasB_bytes | exact pasB_ints | exact pasB_flat | refine consE ?_ ?_)); done) | simp [pasH, pasB, cells_pas, bcells_pas]) rfl rfl rfl (by first | rfl | ((repeat' (first | rfl | exact renB_bytes | exact renB_ints | exact renB_flat | refine consE ?_ ?_)); done) | simp [renB, cells_ren, bcells_ren]) ?_ | refine T.call0 e35 rfl (hl) ?_)
    | (show WOpsT _ (⟨_, .ld _ _, none⟩ :: _) _ _ _ _; first | refine L.ld ?_ | refine L.ldd ?_ | refine L.ldn ?_ | refine L.lddn ?_)
    | (show WOpsT _ (⟨_, .idx _ _ _ _, none⟩ :: _) _ _ _ _; first | refine L.idx ?_ | refine L.idxs ?_)
    | (show WOpsT _ (⟨_, .bin _ _ _, none⟩ :: _) _ _ _ _; first | refine T.rem rfl rfl (by omega) ?_ | refine L.bin ?_)
    | (show WOpsT _ (⟨_, _, some (_, true)⟩ :: _) _ _ _ _; first | refine L.goT ?_ | refine L.paT ?_ | refine L.go ?_ | refine L.pass ?_ | refine T.pU rfl ?_ | refine T.gT rfl (fun hgd => ?_) (fun hgd => ?_))
    | (show WOpsT _ (⟨_, .pick _ _ _, none⟩ :: _) _ _ _ _; first | refine L.pkT ?_ | refine L.pkF ?_ | refine L.pickT ?_ | refine L.pickF ?_ | refine L.pickB ?_ | refine T.pkD rfl (fun hgd => ?_) (fun hgd => ?_))
    | (show AKW _ _ _ _ _ _ _; first | refine N.now ?_)
    | (show AK _ _ (.cond _ _ _) _ _ _ _; first | refine N.c1 ?_ | refine N.c2 ?_ | refine N.c3 ?_ | refine N.c4 ?_ | refine N.condD rfl (fun hcd => ?_) (fun hcd => ?_) | refine N.condB rfl (fun hcd => ?_) (fun hcd => ?_) | refine N.condU rfl ?_ ?_)
    | (show AK _ _ _ _ _ _ _; first | refine N.seq ?_ | refine N.block ?_ | refine N.skip ?_ | refine N.ret ?_)
    | (show RK _ _ _ _ _ _ _; simp only [rk, rk0, reduceIte, Nat.reduceEqDiff])
    | (show WOpsT _ _ _ _ _ _; first | refine T.cvt rfl ?_ | refine L.fad ?_ | refine L.fadd ?_ | refine L.st ?_ | refine L.new ?_ | refine L.zero ?_)
    | refine hQ _ _ _ rfl ?_
    | refine hQN _ _ _ rfl ?_)
  exact WS.devR (m := [0, 0, 9, 0]) rfl (by decide)
theorem read_r : FnE Try.prog 139 [.agg crV, dev [] [0, 0, 9, 0], I 2] [] (.tup [dev [] [0, 0, 9, 0], I 9]) [] := by
  have hf := fit_r [0, 0, 9, 0] rfl
  have hp := place_r [0, 0, 9, 0]
  refine N.fn Try.func139 k139 lb q139 fun Q hQ hQN => ?_
  rw [c139]
  repeat' (first
    | refine N.regS fun K hK => ?_
    | refine N.dregS fun K hK => ?_
    | refine N.regN fun K hK => ?_
    | refine N.dregN fun K hK => ?_
    | simp only [T.mv, sm, AO.ev, put, lk, enter, reduceIte, Nat.reduceEqDiff, Nat.reduceAdd, Nat.reduceMul, Nat.reduceSub, Int.reduceNeg, Int.reduceToNat, upto, renB, setAll]
    | (refine T.nil ?_; (first | refine hK _ _ _ (by rfl) ?_ | refine hK _ _ _ ?_); (try simp only [keep, List.map, lk, reduceIte, Nat.reduceEqDiff, enter]); clear hK K)
    | (show WOpsT _ (⟨_, .call _ _, none⟩ :: _) _ _ _ _; first | refine T.callN e171 rfl (hf) (by simp) ?_ | refine T.callQ [3] e172 rfl (hp) (by first | rfl | exact pasH_nil | (unfold pasH; simp only [List.map]; (repeat' (first | rfl | exact pasB_bytes | exact pasB_ints | exact pasB_flat | refine consE ?_ ?_)); done) | simp [pasH, pasB, cells_pas, bcells_pas]) rfl rfl rfl (by first | rfl | ((repeat' (first | rfl | exact renB_bytes | exact renB_ints | exact renB_flat | refine consE ?_ ?_)); done) | simp [renB, cells_ren, bcells_ren]) ?_)
    | (show WOpsT _ (⟨_, .ld _ _, none⟩ :: _) _ _ _ _; first | refine L.ld ?_ | refine L.ldd ?_ | refine L.ldn ?_ | refine L.lddn ?_)
    | (show WOpsT _ (⟨_, .idx _ _ _ _, none⟩ :: _) _ _ _ _; first | refine L.idx ?_ | refine L.idxs ?_)
    | (show WOpsT _ (⟨_, .bin _ _ _, none⟩ :: _) _ _ _ _; first | refine L.bin ?_)
    | (show WOpsT _ (⟨_, _, some (_, true)⟩ :: _) _ _ _ _; first | refine L.goT ?_ | refine L.paT ?_ | refine L.go ?_ | refine L.pass ?_ | refine T.pU rfl ?_ | refine T.gT rfl (fun hgd => ?_) (fun hgd => ?_))
    | (show WOpsT _ (⟨_, .pick _ _ _, none⟩ :: _) _ _ _ _; first | refine L.pkT ?_ | refine L.pkF ?_ | refine L.pickT ?_ | refine L.pickF ?_ | refine L.pickB ?_ | refine T.pkD rfl (fun hgd => ?_) (fun hgd => ?_))
    | (show AKW _ _ _ _ _ _ _; first | refine N.now ?_)
    | (show AK _ _ (.cond _ _ _) _ _ _ _; first | refine N.c1 ?_ | refine N.c2 ?_ | refine N.c3 ?_ | refine N.c4 ?_ | refine N.condD rfl (fun hcd => ?_) (fun hcd => ?_) | refine N.condB rfl (fun hcd => ?_) (fun hcd => ?_) | refine N.condU rfl ?_ ?_)
    | (show AK _ _ _ _ _ _ _; first | refine N.seq ?_ | refine N.block ?_ | refine N.skip ?_ | refine N.ret ?_)
    | (show RK _ _ _ _ _ _ _; simp only [rk, rk0, reduceIte, Nat.reduceEqDiff])
    | (show WOpsT _ _ _ _ _ _; first | refine T.cvt rfl ?_ | refine L.fad ?_ | refine L.fadd ?_ | refine L.st ?_ | refine L.new ?_ | refine L.zero ?_)
    | refine hQ _ _ _ rfl ?_
    | refine hQN _ _ _ rfl ?_)
  exact WS.devRt (m := [0, 0, 9, 0]) rfl (by decide)
theorem Write_r : FnE Try.prog 73 [.agg crV, dev [] [0, 0, 0, 0], I 2, I 9] [] (dev [] [0, 0, 9, 0]) [] := by
  refine N.fn Try.func73 k73 lb q73 fun Q hQ hQN => ?_
  rw [c73]
  repeat' (first
    | refine N.regS fun K hK => ?_
    | refine N.dregS fun K hK => ?_
    | refine N.regN fun K hK => ?_
    | refine N.dregN fun K hK => ?_
    | simp only [T.mv, sm, AO.ev, put, lk, enter, reduceIte, Nat.reduceEqDiff, Nat.reduceAdd, Nat.reduceMul, Nat.reduceSub, Int.reduceNeg, Int.reduceToNat, upto, renB, setAll]
    | (refine T.nil ?_; (first | refine hK _ _ _ (by rfl) ?_ | refine hK _ _ _ ?_); (try simp only [keep, List.map, lk, reduceIte, Nat.reduceEqDiff, enter]); clear hK K)
    | (show WOpsT _ (⟨_, .call _ _, none⟩ :: _) _ _ _ _; first | refine T.call0 e131 rfl (write_r) ?_)
    | (show WOpsT _ (⟨_, .ld _ _, none⟩ :: _) _ _ _ _; first | refine L.ld ?_ | refine L.ldd ?_ | refine L.ldn ?_ | refine L.lddn ?_)
    | (show WOpsT _ (⟨_, .bin _ _ _, none⟩ :: _) _ _ _ _; first | refine L.bin ?_)
    | (show AKW _ _ _ _ _ _ _; first | refine N.now ?_)
    | (show AK _ _ (.cond _ _ _) _ _ _ _; first | refine N.c1 ?_ | refine N.c2 ?_ | refine N.c3 ?_ | refine N.c4 ?_ | refine N.condD rfl (fun hcd => ?_) (fun hcd => ?_) | refine N.condB rfl (fun hcd => ?_) (fun hcd => ?_) | refine N.condU rfl ?_ ?_)
    | (show AK _ _ _ _ _ _ _; first | refine N.seq ?_ | refine N.block ?_ | refine N.skip ?_ | refine N.ret ?_)
    | (show RK _ _ _ _ _ _ _; simp only [rk, rk0, reduceIte, Nat.reduceEqDiff])
    | (show WOpsT _ _ _ _ _ _; first | refine L.fad ?_ | refine L.fadd ?_ | refine L.st ?_ | refine L.new ?_ | refine L.zero ?_ | refine L.build ?_)
    | refine hQ _ _ _ rfl ?_
    | refine hQN _ _ _ rfl ?_)
  exact WS.drop (n := 0) rfl rfl
theorem Read_r : FnE Try.prog 75 [.agg crV, dev [] [0, 0, 9, 0], I 2] [] (.tup [dev [] [0, 0, 9, 0], I 9]) [] := by
  refine N.fn Try.func75 k75 lb q75 fun Q hQ hQN => ?_
  rw [c75]
  repeat' (first
    | refine N.regS fun K hK => ?_
    | refine N.dregS fun K hK => ?_
    | refine N.regN fun K hK => ?_
    | refine N.dregN fun K hK => ?_
    | simp only [T.mv, sm, AO.ev, put, lk, enter, reduceIte, Nat.reduceEqDiff, Nat.reduceAdd, Nat.reduceMul, Nat.reduceSub, Int.reduceNeg, Int.reduceToNat, upto, renB, setAll]
    | (refine T.nil ?_; (first | refine hK _ _ _ (by rfl) ?_ | refine hK _ _ _ ?_); (try simp only [keep, List.map, lk, reduceIte, Nat.reduceEqDiff, enter]); clear hK K)
    | (show WOpsT _ (⟨_, .call _ _, none⟩ :: _) _ _ _ _; first | refine T.call0 e139 rfl (read_r) ?_)
    | (show WOpsT _ (⟨_, .ld _ _, none⟩ :: _) _ _ _ _; first | refine L.ld ?_ | refine L.ldd ?_ | refine L.ldn ?_ | refine L.lddn ?_)
    | (show WOpsT _ (⟨_, .bin _ _ _, none⟩ :: _) _ _ _ _; first | refine L.bin ?_)
    | (show AKW _ _ _ _ _ _ _; first | refine N.now ?_)
    | (show AK _ _ (.cond _ _ _) _ _ _ _; first | refine N.c1 ?_ | refine N.c2 ?_ | refine N.c3 ?_ | refine N.c4 ?_ | refine N.condD rfl (fun hcd => ?_) (fun hcd => ?_) | refine N.condB rfl (fun hcd => ?_) (fun hcd => ?_) | refine N.condU rfl ?_ ?_)
    | (show AK _ _ _ _ _ _ _; first | refine N.seq ?_ | refine N.block ?_ | refine N.skip ?_ | refine N.ret ?_)
    | (show RK _ _ _ _ _ _ _; simp only [rk, rk0, reduceIte, Nat.reduceEqDiff])
    | (show WOpsT _ _ _ _ _ _; first | refine L.ext ?_ | refine L.fad ?_ | refine L.fadd ?_ | refine L.st ?_ | refine L.new ?_ | refine L.zero ?_ | refine L.build ?_)
    | refine hQ _ _ _ rfl ?_
    | refine hQN _ _ _ rfl ?_)
  exact WS.drop (n := 0) rfl rfl
theorem memory_r : FnE Try.prog 177 [I 0] [] (.c (.bool true)) [] := by
  refine N.fn Try.func177 k177 lb q177 fun Q hQ hQN => ?_
  rw [c177]
  repeat' (first
    | refine N.regS fun K hK => ?_
    | refine N.dregS fun K hK => ?_
    | refine N.regN fun K hK => ?_
    | refine N.dregN fun K hK => ?_
    | simp only [T.mv, sm, AO.ev, put, lk, enter, reduceIte, Nat.reduceEqDiff, Nat.reduceAdd, Nat.reduceMul, Nat.reduceSub, Int.reduceNeg, Int.reduceToNat, upto, renB, setAll]
    | (refine T.nil ?_; (first | refine hK _ _ _ (by rfl) ?_ | refine hK _ _ _ ?_); (try simp only [keep, List.map, lk, reduceIte, Nat.reduceEqDiff, enter]); clear hK K)
    | (show WOpsT _ (⟨_, .bin _ _ _, none⟩ :: _) _ _ _ _; first | refine L.bin ?_)
    | (show WOpsT _ (⟨_, _, some (_, false)⟩ :: _) _ _ _ _; first | refine L.goF ?_ | refine L.paF ?_ | refine L.go ?_ | refine L.pass ?_ | refine T.pU rfl ?_ | refine T.gF rfl (fun hgd => ?_) (fun hgd => ?_))
    | (show WOpsT _ (⟨_, .pick _ _ _, none⟩ :: _) _ _ _ _; first | refine L.pkT ?_ | refine L.pkF ?_ | refine L.pickT ?_ | refine L.pickF ?_ | refine L.pickB ?_ | refine T.pkD rfl (fun hgd => ?_) (fun hgd => ?_))
    | (show AKW _ _ _ _ _ _ _; first | refine N.now ?_)
    | (show AK _ _ _ _ _ _ _; first | refine N.seq ?_ | refine N.ret ?_)
    | (show RK _ _ _ _ _ _ _; simp only [rk, rk0, reduceIte, Nat.reduceEqDiff])
    | refine hQ _ _ _ rfl ?_
    | refine hQN _ _ _ rfl ?_)
  all_goals first
    | exact WS.c rfl rfl
    | exact WS.bool rfl (by decide)
theorem name_a : VName ⟨#[97]⟩ := by
  refine ⟨⟨by decide, by decide⟩, ⟨97, rfl, by decide, by decide⟩, fun x hx => ?_⟩
  have : x = 97 := by simpa [nmB] using hx
  subst this
  exact .inl ⟨by decide, by decide⟩
theorem check_r : FnE Try.prog 143 [.agg crV] [] (I 0) [] := by
  have hn := name_ok ⟨#[97]⟩ name_a
  refine N.fn Try.func143 k143 lb q143 fun Q hQ hQN => ?_
  rw [c143]
  repeat' (first
    | refine N.regS fun K hK => ?_
    | refine N.dregS fun K hK => ?_
    | refine N.regN fun K hK => ?_
    | refine N.dregN fun K hK => ?_
    | simp only [T.mv, sm, AO.ev, put, lk, enter, reduceIte, Nat.reduceEqDiff, Nat.reduceAdd, Nat.reduceMul, Nat.reduceSub, Int.reduceNeg, Int.reduceToNat, upto, renB, setAll]
    | (refine T.nil ?_; (first | refine hK _ _ _ (by rfl) ?_ | refine hK _ _ _ ?_); (try simp only [keep, List.map, lk, reduceIte, Nat.reduceEqDiff, enter]); clear hK K)
    | (show WOpsT _ (⟨_, .call _ _, none⟩ :: _) _ _ _ _; first | refine T.call0 e113 rfl (hn) ?_ | refine T.call0 e177 rfl (memory_r) ?_)
    | (show WOpsT _ (⟨_, .ld _ _, none⟩ :: _) _ _ _ _; first | refine L.ld ?_ | refine L.ldd ?_)
    | (show WOpsT _ (⟨_, .bin _ _ _, none⟩ :: _) _ _ _ _; first | refine L.sub ?_ | refine T.rem rfl rfl (by omega) ?_ | refine L.bin ?_)
    | (show WOpsT _ (⟨_, _, some (_, true)⟩ :: _) _ _ _ _; first | refine L.goT ?_ | refine L.paT ?_ | refine L.go ?_ | refine L.pass ?_ | refine T.pU rfl ?_ | refine T.gT rfl (fun hgd => ?_) (fun hgd => ?_))
    | (show WOpsT _ (⟨_, _, some (_, false)⟩ :: _) _ _ _ _; first | refine L.goF ?_ | refine L.paF ?_ | refine L.go ?_ | refine L.pass ?_ | refine T.pU rfl ?_ | refine T.gF rfl (fun hgd => ?_) (fun hgd => ?_))
    | (show WOpsT _ (⟨_, .pick _ _ _, none⟩ :: _) _ _ _ _; first | refine L.pkT ?_ | refine L.pkF ?_ | refine L.pickT ?_ | refine L.pickF ?_ | refine L.pickB ?_ | refine T.pkD rfl (fun hgd => ?_) (fun hgd => ?_))
    | (show AKW _ _ _ _ _ _ _; first | refine N.now ?_)
    | (show AK _ _ (.cond _ _ _) _ _ _ _; first | refine N.c1 ?_ | refine N.c2 ?_ | refine N.c3 ?_ | refine N.c4 ?_ | refine N.condD rfl (fun hcd => ?_) (fun hcd => ?_) | refine N.condB rfl (fun hcd => ?_) (fun hcd => ?_) | refine N.condU rfl ?_ ?_)
    | (show AK _ _ _ _ _ _ _; first | refine N.seq ?_ | refine N.block ?_ | refine N.skip ?_ | refine N.ret ?_)
    | (show RK _ _ _ _ _ _ _; simp only [rk, rk0, reduceIte, Nat.reduceEqDiff])
    | (show WOpsT _ _ _ _ _ _; first | refine T.notD rfl ?_ | refine T.not rfl ?_ | refine L.fad ?_ | refine L.fadd ?_ | refine L.new ?_ | refine L.len ?_ | refine L.lenS ?_ | refine L.lenN ?_)
    | refine hQ _ _ _ rfl ?_
    | refine hQN _ _ _ rfl ?_)
  all_goals first
    | exact WS.c rfl rfl
    | (exfalso; omega)
theorem chips_ok : FnE Try.prog 76 [] [] (.c (.bool true)) [] := by
  refine N.fn Try.func76 k76 lb q76 fun Q hQ hQN => ?_
  rw [c76]
  repeat' (first
    | refine N.regS fun K hK => ?_
    | refine N.dregS fun K hK => ?_
    | refine N.regN fun K hK => ?_
    | refine N.dregN fun K hK => ?_
    | simp only [T.mv, sm, AO.ev, put, lk, enter, reduceIte, Nat.reduceEqDiff, Nat.reduceAdd, Nat.reduceMul, Nat.reduceSub, Int.reduceNeg, Int.reduceToNat, upto, renB, setAll]
    | (refine T.nil ?_; (first | refine hK _ _ _ (by rfl) ?_ | refine hK _ _ _ ?_); (try simp only [keep, List.map, lk, reduceIte, Nat.reduceEqDiff, enter]); clear hK K)
    | (show WOpsT _ (⟨_, .call _ _, none⟩ :: _) _ _ _ _; first | refine T.call0 e74 rfl (new_r) ?_ | refine T.call0 e73 rfl (Write_r) ?_ | refine T.call0 e75 rfl (Read_r) ?_ | refine T.call0 e143 rfl (check_r) ?_)
    | (show WOpsT _ (⟨_, .ld _ _, none⟩ :: _) _ _ _ _; first | refine L.ldn ?_ | refine L.lddn ?_)
    | (show WOpsT _ (⟨_, .bin _ _ _, none⟩ :: _) _ _ _ _; first | refine L.bin ?_)
    | (show WOpsT _ (⟨_, _, some (_, true)⟩ :: _) _ _ _ _; first | refine L.goT ?_ | refine L.paT ?_ | refine L.go ?_ | refine L.pass ?_ | refine T.pU rfl ?_ | refine T.gT rfl (fun hgd => ?_) (fun hgd => ?_))
    | (show WOpsT _ (⟨_, .pick _ _ _, none⟩ :: _) _ _ _ _; first | refine L.pkT ?_ | refine L.pkF ?_ | refine L.pickT ?_ | refine L.pickF ?_ | refine L.pickB ?_ | refine T.pkD rfl (fun hgd => ?_) (fun hgd => ?_))
    | (show AKW _ _ _ _ _ _ _; first | refine N.now ?_)
    | (show AK _ _ _ _ _ _ _; first | refine N.seq ?_ | refine N.ret ?_)
    | (show RK _ _ _ _ _ _ _; simp only [rk, rk0, reduceIte, Nat.reduceEqDiff])
    | (show WOpsT _ _ _ _ _ _; first | refine L.ext ?_ | refine L.st ?_ | refine L.zero ?_ | refine L.build ?_)
    | refine hQ _ _ _ rfl ?_
    | refine hQN _ _ _ rfl ?_)
  all_goals first
    | exact WS.c rfl rfl
    | exact WS.bool rfl (by decide)
theorem bytes_set (m : List Int) (k : Nat) (v : Int) (h : Bytes m) (hv : 0 ≤ v ∧ v < 256) : Bytes (m.set k v) := by
  intro i
  rw [List.getD_eq_getElem?_getD, List.getElem?_set]
  split
  · split
    · exact hv
    · exact ⟨Int.le_refl 0, by show (0 : Int) < 256; decide⟩
  · have := h i
    rw [List.getD_eq_getElem?_getD] at this; exact this
theorem chipbanks_ok (data at0 a0 b0 : Int) : FnE Try.prog 18 [I data, I at0, I a0, I b0] [] (.c (.bool true)) [] := by
  have B1 := below_ok at0 8 (by decide) (by decide)
  have B2 := below_ok a0 3 (by decide) (by decide)
  have B3 := below_ok b0 3 (by decide) (by decide)
  have h1 : 0 ≤ at0 % 8 ∧ at0 % 8 < 8 := by omega
  have h2 : 0 ≤ a0 % 3 ∧ a0 % 3 < 3 := by omega
  have h3 : 0 ≤ b0 % 3 ∧ b0 % 3 < 3 := by omega
  generalize at0 % 8 = u at *
  generalize a0 % 3 = a at *
  generalize b0 % 3 = b at *
  have hz : z24.length = 24 := by decide
  have hzb : Bytes z24 := by
    intro i
    unfold z24
    rw [List.getD_eq_getElem?_getD, List.getElem?_replicate]
    split <;> exact ⟨Int.le_refl 0, by show (0 : Int) < 256; decide⟩
  have hl := low_lit data 8 8 rfl (by decide)
  have hl : FnE Try.prog 35 [I data, I 8] [] (I (data % 256)) [] := hl
  obtain ⟨m, hm⟩ : ∃ m, z24.set (a * 8 + (1 + u) - 1).toNat (data % 256) = m := ⟨_, rfl⟩
  have hml : m.length = 24 := by rw [← hm, List.length_set]; exact hz
  have hmb : Bytes m := by rw [← hm]; exact bytes_set _ _ _ hzb ⟨by omega, by omega⟩
  have hval : m.getD (b * 8 + (1 + u) - 1).toNat 0 = if a = b then data % 256 else 0 := by
    rw [← hm, List.getD_eq_getElem?_getD, List.getElem?_set]
    by_cases hab : a = b
    · subst hab
      rw [if_pos rfl, if_pos (by rw [hz]; omega), if_pos rfl]; rfl
    · rw [if_neg (by omega), if_neg hab]
      unfold z24
      rw [List.getElem?_replicate]
      split <;> rfl
  have W1 := Write_b (dev [0] z24) (dev [a] z24) 0 a (write_b0 0 (by decide) z24 hz a h2) ⟨_, _, rfl⟩ ⟨_, _, rfl⟩
  have w2 := write_b1 a h2 z24 hz (1 + u) (by omega) data
  rw [hm] at w2
  have W2 := Write_b (dev [a] z24) (dev [a] m) (1 + u) data w2 ⟨_, _, rfl⟩ ⟨_, _, rfl⟩
  have W3 := Write_b (dev [a] m) (dev [b] m) 0 b (write_b0 a h2 m hml b h3) ⟨_, _, rfl⟩ ⟨_, _, rfl⟩
  have r1 := read_b1 b h3 m hml hmb (1 + u) (by omega)
  rw [hval] at r1
  have R1 := Read_b (dev [b] m) (1 + u) _ r1 ⟨_, _, rfl⟩
  have R2 := Read_b (dev [b] m) 0 b (read_b0 b h3 m hml) ⟨_, _, rfl⟩
  clear w2 r1 hval hm
  refine N.fn Try.func18 k18 lb q18 fun Q hQ hQN => ?_
  rw [c18]
  repeat' (first
    | rw [zeros]
    | (show WOpsT _ (⟨_, .mksl _ _ _ _, none⟩ :: _) _ _ _ _; refine T.mksl rfl rfl (by decide) ?_)
    | (show AKW _ _ (.seq (.reg (⟨some 16, _, _⟩ :: _) _) _) _ _ _ _; refine N.now ?_)
    | refine N.regS fun K hK => ?_
    | refine N.dregS fun K hK => ?_
    | refine N.regN fun K hK => ?_
    | refine N.dregN fun K hK => ?_
    | simp only [T.mv, sm, AO.ev, put, lk, enter, reduceIte, Nat.reduceEqDiff, Nat.reduceAdd, Nat.reduceMul, Nat.reduceSub, Int.reduceNeg, Int.reduceToNat, upto, renB, setAll]
    | (refine T.nil ?_; (first | refine hK _ _ _ (by rfl) ?_ | refine hK _ _ _ ?_); (try simp only [keep, List.map, lk, reduceIte, Nat.reduceEqDiff, enter]); clear hK K)
    | (show WOpsT _ (⟨_, .ld _ _, none⟩ :: _) _ _ _ _; first | refine L.ldn ?_ | refine L.lddn ?_)
    | (show WOpsT _ (⟨_, .bin _ _ _, none⟩ :: _) _ _ _ _; first | refine L.add ?_ | refine L.bin ?_)
    | (show WOpsT _ (⟨_, _, some (_, true)⟩ :: _) _ _ _ _; first | refine L.goT ?_ | refine L.paT ?_ | refine L.go ?_ | refine L.pass ?_ | refine T.pU rfl ?_ | refine T.gT rfl (fun hgd => ?_) (fun hgd => ?_))
    | (show WOpsT _ (⟨_, .pick _ _ _, none⟩ :: _) _ _ _ _; first | refine L.pkT ?_ | refine L.pkF ?_ | refine L.pickT ?_ | refine L.pickF ?_ | refine L.pickB ?_ | refine T.pkD rfl (fun hgd => ?_) (fun hgd => ?_))
    | (show AK _ _ (.cond _ _ _) _ _ _ _; first | refine N.c1 ?_ | refine N.c2 ?_ | refine N.c3 ?_ | refine N.c4 ?_ | refine N.condD rfl (fun hcd => ?_) (fun hcd => ?_) | refine N.condB rfl (fun hcd => ?_) (fun hcd => ?_) | refine N.condU rfl ?_ ?_)
    | (show AK _ _ _ _ _ _ _; first | refine N.seq ?_ | refine N.skip ?_ | refine N.ret ?_)
    | (show RK _ _ _ _ _ _ _; simp only [rk, rk0, reduceIte, Nat.reduceEqDiff])
    | (show WOpsT _ _ _ _ _ _; first | refine L.ext ?_ | refine L.st ?_ | refine L.zero ?_ | refine L.build ?_ | refine T.mksl rfl rfl (by decide) ?_)
    | refine hQ _ _ _ rfl ?_
    | refine hQN _ _ _ rfl ?_)
  refine N.weak (fr1 := [(0, I data), (1, I at0), (2, I a0), (3, I b0), (9, .ptr 0 1 0 0)]) (h1 := [⟨1, 5, [cbV]⟩]) (Weaks.gc [1] 1 rfl ⟨.rfl, .rfl, .rfl, .rfl, .rfl, trivial⟩ rfl) (N.now ?_)
  repeat' (first
    | refine N.regS fun K hK => ?_
    | refine N.dregS fun K hK => ?_
    | refine N.regN fun K hK => ?_
    | refine N.dregN fun K hK => ?_
    | simp only [T.mv, sm, AO.ev, put, lk, enter, reduceIte, Nat.reduceEqDiff, Nat.reduceAdd, Nat.reduceMul, Nat.reduceSub, Int.reduceNeg, Int.reduceToNat, upto, renB, setAll]
    | (refine T.nil ?_; (first | refine hK _ _ _ (by rfl) ?_ | refine hK _ _ _ ?_); (try simp only [keep, List.map, lk, reduceIte, Nat.reduceEqDiff, enter]); clear hK K)
    | (show WOpsT _ (⟨_, .call _ _, none⟩ :: _) _ _ _ _; first | refine T.call0 e29 rfl (B1) ?_ | refine T.call0 e29 rfl (B2) ?_ | refine T.call0 e29 rfl (B3) ?_ | refine T.call0 e74 rfl (new_b) ?_ | refine T.call0 e73 rfl (W1) ?_ | refine T.call0 e73 rfl (W2) ?_ | refine T.call0 e73 rfl (W3) ?_ | refine T.call0 e75 rfl (R1) ?_ | refine T.call0 e75 rfl (R2) ?_ | refine T.call0 e77 rfl (banks_b) ?_ | refine T.call0 e35 rfl (hl) ?_ | refine T.call0 e76 rfl (chips_ok) ?_)
    | (show WOpsT _ (⟨_, .ld _ _, none⟩ :: _) _ _ _ _; first | refine L.ldn ?_ | refine L.lddn ?_)
    | (show WOpsT _ (⟨_, .bin _ _ _, none⟩ :: _) _ _ _ _; first | refine L.add ?_ | refine L.bin ?_)
    | (show WOpsT _ (⟨_, _, some (_, true)⟩ :: _) _ _ _ _; first | refine L.goT ?_ | refine L.paT ?_ | refine L.go ?_ | refine L.pass ?_ | refine T.pU rfl ?_ | refine T.gT rfl (fun hgd => ?_) (fun hgd => ?_))
    | (show WOpsT _ (⟨_, .pick _ _ _, none⟩ :: _) _ _ _ _; first | refine L.pkT ?_ | refine L.pkF ?_ | refine L.pickT ?_ | refine L.pickF ?_ | refine L.pickB ?_ | refine T.pkD rfl (fun hgd => ?_) (fun hgd => ?_))
    | (show AKW _ _ _ _ _ _ _; first | refine N.now ?_)
    | (show AK _ _ (.cond _ _ _) _ _ _ _; first | refine N.c1 ?_ | refine N.c2 ?_ | refine N.c3 ?_ | refine N.c4 ?_ | refine N.condD rfl (fun hcd => ?_) (fun hcd => ?_) | refine N.condB rfl (fun hcd => ?_) (fun hcd => ?_) | refine N.condU rfl ?_ ?_)
    | (show AK _ _ _ _ _ _ _; first | refine N.seq ?_ | refine N.skip ?_ | refine N.ret ?_)
    | (show RK _ _ _ _ _ _ _; simp only [rk, rk0, reduceIte, Nat.reduceEqDiff])
    | (show WOpsT _ _ _ _ _ _; first | refine L.ext ?_ | refine L.st ?_ | refine L.zero ?_ | refine L.build ?_ | refine T.mksl rfl rfl (by decide) ?_)
    | refine hQ _ _ _ rfl ?_
    | refine hQN _ _ _ rfl ?_)
  all_goals first
    | exact WS.c rfl rfl
    | exact WS.bool rfl (by simp)
    | (exfalso; omega)
end Go.Proofs.Ytjmmompbmjhkpaa.Calc

