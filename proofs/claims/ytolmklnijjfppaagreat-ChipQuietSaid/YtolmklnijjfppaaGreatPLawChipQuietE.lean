/- Several texts in one (FnKit, BitsA, FnBase, FnField, FnTable, FnTableB, FnTableC, FnTableD, FnTableE, FnTableF, FnTableG, FnStream, FnMake, PureStd, FnStd), for the proof of LawChipQuiet. No condition beyond those in each lemma. -/
import Derived.Test.YtolmklnijjfppaaGreatPLawChipQuietC
import Derived.Laws.BitsLemmas
import Derived.Laws.Wrap64
import Derived.RowKit
import Derived.Test.YtolmklnijjfppaaGreatPLawChipQuietD
namespace Go.Proofs.YtolmklnijjfppaaGreat.Calc
open Go
set_option linter.unusedSimpArgs false
theorem out_pslK {h : List Blk} {ids : List Nat} {n b ver off len : Nat} {B : Blk} (hp : pos ids b = none) (hb : h[b]? = some B) (hv : B.ver = ver) : out h ids (n + 1) (.psl b ver off len) = .sl B.esz (((B.rows.drop off).take len).map (·.map (frz h (fun b => (pos ids b).isSome) n))) := by
  rw [← frz_psl hb hv (show (fun b => (pos ids b).isSome) b = false by dsimp only; rw [hp]; rfl)]
  simp only [out, V.mapR, hp]
theorem out_intsK {h : List Blk} {ids : List Nat} {n b v len : Nat} {m : List Int} (hp : pos ids b = none) (hb : h[b]? = some ⟨v, 1, cells m⟩) (hl : m.length ≤ len) : out h ids (n + 1) (.psl b v 0 len) = .sl 1 (cells m) := by
  rw [out_pslK hp hb rfl, List.drop_zero, cells_take, List.take_of_length_le hl, cells_frz]
theorem out_bytesK {h : List Blk} {ids : List Nat} {n b v len : Nat} {m : List Int} (hp : pos ids b = none) (hb : h[b]? = some ⟨v, 1, bcells m⟩) (hl : m.length ≤ len) : out h ids (n + 1) (.psl b v 0 len) = .sl 1 (bcells m) := by
  rw [out_pslK hp hb rfl, List.drop_zero, bcells_take, List.take_of_length_le hl, bcells_frz]
end Go.Proofs.YtolmklnijjfppaaGreat.Calc

namespace Go.Proofs.YtolmklnijjfppaaGreat.BA
open Go Go.RowKit

theorem wrap_small (n : Int) (h0 : -9223372036854775808 ≤ n) (h1 : n < 9223372036854775808) : IntKind.i64.wrap n = n := by
  rw [IntKind.wrap_i64]; omega

theorem w63 (n : Int) (h0 : 0 ≤ n) (h1 : n < 2 ^ 63) : IntKind.i64.wrap n = n := by
  apply wrap_small <;> omega

theorem or_nat (a b : Nat) (ha : a < 2 ^ 63) (hb : b < 2 ^ 63) : bits .or .i64 a b = ((a ||| b : Nat) : Int) :=
  (bits_nat .i64 63 (by decide) w63 a b ha hb).2
def andn (a b : Nat) : Nat := a ^^^ (a &&& b)
theorem andn_bit (a b i : Nat) : (andn a b).testBit i = (a.testBit i && !b.testBit i) := by
  simp only [andn, Nat.testBit_xor, Nat.testBit_and]
  cases a.testBit i <;> cases b.testBit i <;> rfl
theorem andn_le (a b : Nat) (n : Nat) (ha : a < 2 ^ n) : andn a b < 2 ^ n := by
  unfold andn; exact Nat.xor_lt_two_pow ha (Nat.lt_of_le_of_lt Nat.and_le_left ha)
theorem andn_nat (a b : Nat) (ha : a < 2 ^ 63) (_hb : b < 2 ^ 63) : bits .andNot .i64 a b = ((andn a b : Nat) : Int) := by
  have e : (BitVec.ofNat 64 a &&& ~~~ BitVec.ofNat 64 b).toNat = andn a b := by
    apply Nat.eq_of_testBit_eq; intro i
    rw [andn_bit]
    rw [BitVec.testBit_toNat, BitVec.getLsbD_and, BitVec.getLsbD_not]
    simp only [BitVec.getLsbD_ofNat]
    by_cases h : i < 64
    · simp [h]
    · have : a.testBit i = false := Nat.testBit_lt_two_pow (Nat.lt_of_lt_of_le ha (Nat.pow_le_pow_right (by decide) (by omega)))
      simp [h, this]
  show IntKind.i64.wrap ((BitVec.ofInt 64 (a : Int) &&& ~~~ BitVec.ofInt 64 (b : Int)).toNat : Nat) = _
  rw [BitVec.ofInt_natCast, BitVec.ofInt_natCast, e]
  exact w63 _ (Int.natCast_nonneg _) (by exact_mod_cast andn_le a b 63 ha)

theorem low_eq (n : Int) (w : Nat) (hw : w ≤ 62) : bits .and .i64 n (2 ^ w - 1) = n % 2 ^ w := by
  have hpos : 0 < 2 ^ w := Nat.two_pow_pos w
  have hlt : 2 ^ w ≤ 2 ^ 62 := Nat.pow_le_pow_right (by decide) hw
  have hc : ((2 : Int) ^ w - 1) = ((2 ^ w - 1 : Nat) : Int) := by rw [Int.natCast_sub hpos]; simp
  rw [hc]
  have hm : (2 ^ w - 1) % 2 ^ 64 = 2 ^ w - 1 := Nat.mod_eq_of_lt (by omega)
  have hd : (2 ^ w : Nat) ∣ 2 ^ 64 := Nat.pow_dvd_pow 2 (by omega)
  show IntKind.i64.wrap ((BitVec.ofInt 64 n &&& BitVec.ofInt 64 ((2 ^ w - 1 : Nat) : Int)).toNat : Nat) = _
  rw [BitVec.ofInt_natCast, BitVec.toNat_and, BitVec.toNat_ofInt, BitVec.toNat_ofNat, hm, Nat.and_two_pow_sub_one_eq_mod]
  have e : (((n % ((2 ^ 64 : Nat) : Int)).toNat % 2 ^ w : Nat) : Int) = n % 2 ^ w := by
    rw [Int.natCast_emod, Int.toNat_of_nonneg (Int.emod_nonneg _ (by decide))]
    rw [Int.emod_emod_of_dvd _ (by exact_mod_cast hd)]
    simp
  rw [e]
  have h2 : (0 : Int) < 2 ^ w := by exact_mod_cast hpos
  have h3 := Int.emod_nonneg n (b := 2 ^ w) (by omega)
  have h4 := Int.emod_lt_of_pos n h2
  have h5 : (2 : Int) ^ w ≤ 2 ^ 62 := by exact_mod_cast hlt
  exact w63 _ h3 (by omega)

def bitAt (n : Int) (i : Nat) : Nat := (n / 2 ^ i % 2).toNat
def rev : Nat → Int → Nat
  | 0, _ => 0
  | w + 1, n => 2 * rev w n + bitAt n w
def lo : Nat → Int → Nat
  | 0, _ => 0
  | w + 1, n => lo w n + bitAt n w * 2 ^ w
def pc : Nat → Int → Nat
  | 0, _ => 0
  | w + 1, n => pc w n + bitAt n w
end Go.Proofs.YtolmklnijjfppaaGreat.BA

namespace Go.Proofs.YtolmklnijjfppaaGreat.Calc
open Go Code
set_option linter.unusedSimpArgs false
set_option linter.unusedVariables false
set_option maxRecDepth 20000
attribute [local irreducible] WOpsT AW AK RK AKW UK UC
def wd (w : Int) : Nat := (max 0 (min w 62)).toNat
theorem wd_le (w : Int) : wd w ≤ 62 := by unfold wd; omega
theorem wd_cast (w : Int) : max 0 (min w 62) = (wd w : Int) := by unfold wd; omega
theorem pow_le (w : Nat) (hw : w ≤ 62) : (2 : Int) ^ w ≤ 4611686018427387904 := by
  have : (2 : Int) ^ w ≤ 2 ^ 62 := by
    have := Nat.pow_le_pow_right (n := 2) (by decide) hw
    exact_mod_cast this
  exact Int.le_trans this (by decide)
theorem pow_pos' (w : Nat) : (1 : Int) ≤ 2 ^ w := by
  have := Nat.pow_pos (n := w) (a := 2) (by decide)
  exact_mod_cast this
theorem mod_lo (v : Int) (w : Nat) : 0 ≤ v % 2 ^ w ∧ v % 2 ^ w < 2 ^ w := ⟨Int.emod_nonneg _ (by have := pow_pos' w; omega), Int.emod_lt_of_pos _ (by have := pow_pos' w; omega)⟩
theorem min64 (w : Nat) (hw : w ≤ 62) : min ((w : Int)).toNat IntKind.i64.bits = w := by
  have : IntKind.i64.bits = 64 := rfl
  omega

theorem width_ok (w : Int) : FnE Tryz.prog 104 [I w] [] (I (wd w)) [] := by
  refine fnI Tryz.func104 k104 lb q104 fun Q hQ => ?_
  rw [c104]
  repeat (first
    | refine AW.regS fun K hK => ?_
    | refine AW.dregS fun K hK => ?_
    | refine AW.regN fun K hK => ?_
    | refine AW.dregN fun K hK => ?_
    | simp only [T.mv, sm, AO.ev, put, lk, enter, reduceIte, Nat.reduceEqDiff, Nat.reduceAdd, Nat.reduceMul, Nat.reduceSub, Int.reduceNeg, Int.reduceToNat, upto, renB, setAll]
    | refine T.nil ?_
    | (first | refine hK _ _ _ (by rfl) ?_ | refine hK _ _ _ ?_); simp only [keep, List.map, lk, reduceIte, Nat.reduceEqDiff, enter]; clear hK; clear K
    | refine T.add rfl rfl (by omega) (by omega) ?_
    | refine T.sub rfl rfl (by omega) (by omega) ?_
    | refine T.bin rfl rfl rfl ?_
    | refine T.rem rfl rfl (by omega) ?_
    | refine T.quo rfl rfl (by omega) ?_
    | refine T.shl rfl rfl (by omega) ?_
    | refine T.shr rfl rfl (by omega) ?_
    | refine T.min2 rfl rfl rfl ?_
    | refine T.max2 rfl rfl rfl ?_
    | refine T.ext rfl rfl ?_
    | refine T.lenc ?_
    | refine T.eqnP rfl rfl ⟨rfl, by decide⟩ ?_
    | refine T.eqnN rfl ?_
    | refine T.neg rfl ?_
    | refine T.xorn rfl ?_
    | refine T.notD rfl ?_
    | refine T.not rfl ?_
    | refine T.eqb0 rfl rfl ?_
    | refine T.eqb1 rfl rfl ?_
    | refine T.cvt rfl ?_
    | refine T.ld rfl rfl rfl rfl rfl ?_
    | refine T.ldd rfl rfl ?_
    | refine T.ldn rfl rfl rfl rfl lb ?_
    | refine T.lddn rfl lb ?_
    | refine T.fad rfl rfl rfl ?_
    | refine T.fadd rfl ?_
    | refine T.nilc rfl rfl rfl ?_
    | refine T.nilcd rfl ?_
    | refine T.st rfl rfl rfl ⟨rfl, rfl⟩ rfl lb ?_
    | refine T.fld rfl rfl ?_
    | refine T.new rfl ⟨rfl, by decide⟩ ?_
    | refine T.zero (by decide) ?_
    | refine T.build rfl ?_
    | refine T.len rfl rfl rfl ?_
    | refine T.lenS rfl ?_
    | refine T.lenN rfl ?_
    | refine T.mkf ?_
    | refine T.mki ?_
    | refine T.mksl rfl rfl (by decide) ?_
    | refine T.copy rfl rfl rfl ⟨rfl, rfl⟩ ?_
    | refine T.idx rfl rfl rfl ⟨rfl, rfl⟩ (by omega) ?_
    | refine T.idxa rfl rfl rfl rfl (by omega) ?_
    | refine T.idxd rfl rfl (by omega) ?_
    | refine T.bsl rfl (by decide) ?_
    | refine T.slc rfl rfl rfl rfl ⟨rfl, rfl⟩ (by omega) ?_
    | refine T.go rfl rfl ?_
    | refine T.pass rfl rfl ?_
    | refine T.pickB rfl rfl rfl ?_
    | refine AW.retI ?_)
  exact hQ _ _ _ rfl (WeakV.cE rfl (by rw [wd_cast]))

theorem low_ok (v w : Int) : FnE Tryz.prog 50 [I v, I w] [] (I (v % 2 ^ wd w)) [] := by
  refine fnI Tryz.func50 k50 lb q50 fun Q hQ => ?_
  rw [c50]
  have h1 := pow_le (wd w) (wd_le w)
  have h2 := pow_pos' (wd w)
  have h3 := wd_le w
  repeat (first
    | refine T.call0 e104 rfl (width_ok _) ?_
    | refine AW.regS fun K hK => ?_
    | refine AW.dregS fun K hK => ?_
    | refine AW.regN fun K hK => ?_
    | refine AW.dregN fun K hK => ?_
    | simp only [T.mv, sm, AO.ev, put, lk, enter, reduceIte, Nat.reduceEqDiff, Nat.reduceAdd, Nat.reduceMul, Nat.reduceSub, Int.reduceNeg, Int.reduceToNat, upto, renB, setAll]
    | refine T.nil ?_
    | (first | refine hK _ _ _ (by rfl) ?_ | refine hK _ _ _ ?_); simp only [keep, List.map, lk, reduceIte, Nat.reduceEqDiff, enter]; clear hK; clear K
    | refine T.add rfl rfl (by omega) (by omega) ?_
    | refine T.sub rfl rfl (by omega) (by omega) ?_
    | refine T.bin rfl rfl rfl ?_
    | refine T.rem rfl rfl (by omega) ?_
    | refine T.quo rfl rfl (by omega) ?_
    | refine T.shl rfl rfl (by omega) ?_
    | refine T.shr rfl rfl (by omega) ?_
    | refine T.min2 rfl rfl rfl ?_
    | refine T.max2 rfl rfl rfl ?_
    | refine T.ext rfl rfl ?_
    | refine T.lenc ?_
    | refine T.eqnP rfl rfl ⟨rfl, by decide⟩ ?_
    | refine T.eqnN rfl ?_
    | refine T.neg rfl ?_
    | refine T.xorn rfl ?_
    | refine T.notD rfl ?_
    | refine T.not rfl ?_
    | refine T.eqb0 rfl rfl ?_
    | refine T.eqb1 rfl rfl ?_
    | refine T.cvt rfl ?_
    | refine T.ld rfl rfl rfl rfl rfl ?_
    | refine T.ldd rfl rfl ?_
    | refine T.ldn rfl rfl rfl rfl lb ?_
    | refine T.lddn rfl lb ?_
    | refine T.fad rfl rfl rfl ?_
    | refine T.fadd rfl ?_
    | refine T.nilc rfl rfl rfl ?_
    | refine T.nilcd rfl ?_
    | refine T.st rfl rfl rfl ⟨rfl, rfl⟩ rfl lb ?_
    | refine T.fld rfl rfl ?_
    | refine T.new rfl ⟨rfl, by decide⟩ ?_
    | refine T.zero (by decide) ?_
    | refine T.build rfl ?_
    | refine T.len rfl rfl rfl ?_
    | refine T.lenS rfl ?_
    | refine T.lenN rfl ?_
    | refine T.mkf ?_
    | refine T.mki ?_
    | refine T.mksl rfl rfl (by decide) ?_
    | refine T.copy rfl rfl rfl ⟨rfl, rfl⟩ ?_
    | refine T.idx rfl rfl rfl ⟨rfl, rfl⟩ (by omega) ?_
    | refine T.idxa rfl rfl rfl rfl (by omega) ?_
    | refine T.idxd rfl rfl (by omega) ?_
    | refine T.bsl rfl (by decide) ?_
    | refine T.slc rfl rfl rfl rfl ⟨rfl, rfl⟩ (by omega) ?_
    | refine T.go rfl rfl ?_
    | refine T.pass rfl rfl ?_
    | refine T.pickB rfl rfl rfl ?_
    | refine AW.retI ?_)
  refine hQ _ _ _ rfl (WeakV.cE rfl ?_)
  rw [min64 _ h3, Int.one_mul, wrap64 (n := 2 ^ wd w) (by omega) (by omega), wrap64 (by omega) (by omega), BA.low_eq _ _ h3]

theorem bits1 (n : Int) : bits .and .i64 n 1 = n % 2 := by
  have := BA.low_eq n 1 (by decide)
  simpa using this

theorem lowN_ok (v : Int) (n : Nat) (hn : n ≤ 62) : FnE Tryz.prog 50 [I v, I n] [] (I (v % 2 ^ n)) [] := by
  have := low_ok v n
  rwa [show wd (n : Int) = n by unfold wd; omega] at this
theorem below_ok (x n : Int) (hn : 0 < n) (hn2 : n < 4611686018427387904) : FnE Tryz.prog 7 [I x, I n] [] (I (x % n)) [] := by
  refine fnI Tryz.func7 k7 lb q7 fun Q hQ => ?_
  rw [c7]
  repeat (first
    | refine AW.regS fun K hK => ?_
    | refine AW.dregS fun K hK => ?_
    | refine AW.regN fun K hK => ?_
    | refine AW.dregN fun K hK => ?_
    | simp only [T.mv, sm, AO.ev, put, lk, enter, reduceIte, Nat.reduceEqDiff, Nat.reduceAdd, Nat.reduceMul, Nat.reduceSub, Int.reduceNeg, Int.reduceToNat, upto, renB, setAll]
    | refine T.nil ?_
    | (first | refine hK _ _ _ (by rfl) ?_ | refine hK _ _ _ ?_); simp only [keep, List.map, lk, reduceIte, Nat.reduceEqDiff, enter]; clear hK; clear K
    | refine T.add rfl rfl (by omega) (by omega) ?_
    | refine T.sub rfl rfl (by omega) (by omega) ?_
    | refine T.bin rfl rfl rfl ?_
    | refine T.rem rfl rfl (by omega) ?_
    | refine T.quo rfl rfl (by omega) ?_
    | refine T.shl rfl rfl (by omega) ?_
    | refine T.shr rfl rfl (by omega) ?_
    | refine T.min2 rfl rfl rfl ?_
    | refine T.max2 rfl rfl rfl ?_
    | refine T.ext rfl rfl ?_
    | refine T.lenc ?_
    | refine T.eqnP rfl rfl ⟨rfl, by decide⟩ ?_
    | refine T.eqnN rfl ?_
    | refine T.neg rfl ?_
    | refine T.xorn rfl ?_
    | refine T.notD rfl ?_
    | refine T.not rfl ?_
    | refine T.eqb0 rfl rfl ?_
    | refine T.eqb1 rfl rfl ?_
    | refine T.cvt rfl ?_
    | refine T.ld rfl rfl rfl rfl rfl ?_
    | refine T.ldd rfl rfl ?_
    | refine T.ldn rfl rfl rfl rfl lb ?_
    | refine T.lddn rfl lb ?_
    | refine T.fad rfl rfl rfl ?_
    | refine T.fadd rfl ?_
    | refine T.nilc rfl rfl rfl ?_
    | refine T.nilcd rfl ?_
    | refine T.st rfl rfl rfl ⟨rfl, rfl⟩ rfl lb ?_
    | refine T.fld rfl rfl ?_
    | refine T.new rfl ⟨rfl, by decide⟩ ?_
    | refine T.zero (by decide) ?_
    | refine T.build rfl ?_
    | refine T.len rfl rfl rfl ?_
    | refine T.lenS rfl ?_
    | refine T.lenN rfl ?_
    | refine T.mkf ?_
    | refine T.mki ?_
    | refine T.mksl rfl rfl (by decide) ?_
    | refine T.copy rfl rfl rfl ⟨rfl, rfl⟩ ?_
    | refine T.idx rfl rfl rfl ⟨rfl, rfl⟩ (by omega) ?_
    | refine T.idxa rfl rfl rfl rfl (by omega) ?_
    | refine T.idxd rfl rfl (by omega) ?_
    | refine T.bsl rfl (by decide) ?_
    | refine T.slc rfl rfl rfl rfl ⟨rfl, rfl⟩ (by omega) ?_
    | refine T.go rfl rfl ?_
    | refine T.pass rfl rfl ?_
    | refine T.pickB rfl rfl rfl ?_
    | refine AW.retI ?_)
  refine AW.seqI fun Q1 hN hX hR => ?_
  repeat (first
    | refine AW.regS fun K hK => ?_
    | refine AW.dregS fun K hK => ?_
    | refine AW.regN fun K hK => ?_
    | refine AW.dregN fun K hK => ?_
    | simp only [T.mv, sm, AO.ev, put, lk, enter, reduceIte, Nat.reduceEqDiff, Nat.reduceAdd, Nat.reduceMul, Nat.reduceSub, Int.reduceNeg, Int.reduceToNat, upto, renB, setAll]
    | refine T.nil ?_
    | (first | refine hK _ _ _ (by rfl) ?_ | refine hK _ _ _ ?_); simp only [keep, List.map, lk, reduceIte, Nat.reduceEqDiff, enter]; clear hK; clear K
    | refine T.add rfl rfl (by omega) (by omega) ?_
    | refine T.sub rfl rfl (by omega) (by omega) ?_
    | refine T.bin rfl rfl rfl ?_
    | refine T.rem rfl rfl (by omega) ?_
    | refine T.quo rfl rfl (by omega) ?_
    | refine T.shl rfl rfl (by omega) ?_
    | refine T.shr rfl rfl (by omega) ?_
    | refine T.min2 rfl rfl rfl ?_
    | refine T.max2 rfl rfl rfl ?_
    | refine T.ext rfl rfl ?_
    | refine T.lenc ?_
    | refine T.eqnP rfl rfl ⟨rfl, by decide⟩ ?_
    | refine T.eqnN rfl ?_
    | refine T.neg rfl ?_
    | refine T.xorn rfl ?_
    | refine T.notD rfl ?_
    | refine T.not rfl ?_
    | refine T.eqb0 rfl rfl ?_
    | refine T.eqb1 rfl rfl ?_
    | refine T.cvt rfl ?_
    | refine T.ld rfl rfl rfl rfl rfl ?_
    | refine T.ldd rfl rfl ?_
    | refine T.ldn rfl rfl rfl rfl lb ?_
    | refine T.lddn rfl lb ?_
    | refine T.fad rfl rfl rfl ?_
    | refine T.fadd rfl ?_
    | refine T.nilc rfl rfl rfl ?_
    | refine T.nilcd rfl ?_
    | refine T.st rfl rfl rfl ⟨rfl, rfl⟩ rfl lb ?_
    | refine T.fld rfl rfl ?_
    | refine T.new rfl ⟨rfl, by decide⟩ ?_
    | refine T.zero (by decide) ?_
    | refine T.build rfl ?_
    | refine T.len rfl rfl rfl ?_
    | refine T.lenS rfl ?_
    | refine T.lenN rfl ?_
    | refine T.mkf ?_
    | refine T.mki ?_
    | refine T.mksl rfl rfl (by decide) ?_
    | refine T.copy rfl rfl rfl ⟨rfl, rfl⟩ ?_
    | refine T.idx rfl rfl rfl ⟨rfl, rfl⟩ (by omega) ?_
    | refine T.idxa rfl rfl rfl rfl (by omega) ?_
    | refine T.idxd rfl rfl (by omega) ?_
    | refine T.bsl rfl (by decide) ?_
    | refine T.slc rfl rfl rfl rfl ⟨rfl, rfl⟩ (by omega) ?_
    | refine T.go rfl rfl ?_
    | refine T.pass rfl rfl ?_
    | refine T.pickB rfl rfl rfl ?_
    | refine AW.retI ?_)
  have hm : x % n = if x.tmod n < 0 then x.tmod n + n else x.tmod n := by
    rw [Int.tmod_eq_emod]
    have h0 := Int.emod_nonneg x (show n ≠ 0 by omega)
    have h1 := Int.emod_lt_of_pos x hn
    have h2 : (n.natAbs : Int) = n := by omega
    split <;> split <;> omega
  have hlo : -n ≤ x.tmod n ∧ x.tmod n < n := by
    have h0 := Int.emod_nonneg x (show n ≠ 0 by omega)
    have h1 := Int.emod_lt_of_pos x hn
    split at hm <;> omega
  refine AW.condB rfl (fun ht => ?_) (fun ht => ?_)
  · have ht := of_decide_eq_true ht
    rw [if_pos ht] at hm
    repeat (first
      | refine AW.regS fun K hK => ?_
      | refine AW.dregS fun K hK => ?_
      | refine AW.regN fun K hK => ?_
      | refine AW.dregN fun K hK => ?_
      | simp only [T.mv, sm, AO.ev, put, lk, enter, reduceIte, Nat.reduceEqDiff, Nat.reduceAdd, Nat.reduceMul, Nat.reduceSub, Int.reduceNeg, Int.reduceToNat, upto, renB, setAll]
      | refine T.nil ?_
      | (first | refine hK _ _ _ (by rfl) ?_ | refine hK _ _ _ ?_); simp only [keep, List.map, lk, reduceIte, Nat.reduceEqDiff, enter]; clear hK; clear K
      | refine T.add rfl rfl (by omega) (by omega) ?_
      | refine T.sub rfl rfl (by omega) (by omega) ?_
      | refine T.bin rfl rfl rfl ?_
      | refine T.rem rfl rfl (by omega) ?_
      | refine T.quo rfl rfl (by omega) ?_
      | refine T.shl rfl rfl (by omega) ?_
      | refine T.shr rfl rfl (by omega) ?_
      | refine T.min2 rfl rfl rfl ?_
      | refine T.max2 rfl rfl rfl ?_
      | refine T.ext rfl rfl ?_
      | refine T.lenc ?_
      | refine T.eqnP rfl rfl ⟨rfl, by decide⟩ ?_
      | refine T.eqnN rfl ?_
      | refine T.neg rfl ?_
      | refine T.xorn rfl ?_
      | refine T.notD rfl ?_
      | refine T.not rfl ?_
      | refine T.eqb0 rfl rfl ?_
      | refine T.eqb1 rfl rfl ?_
      | refine T.cvt rfl ?_
      | refine T.ld rfl rfl rfl rfl rfl ?_
      | refine T.ldd rfl rfl ?_
      | refine T.ldn rfl rfl rfl rfl lb ?_
      | refine T.lddn rfl lb ?_
      | refine T.fad rfl rfl rfl ?_
      | refine T.fadd rfl ?_
      | refine T.nilc rfl rfl rfl ?_
      | refine T.nilcd rfl ?_
      | refine T.st rfl rfl rfl ⟨rfl, rfl⟩ rfl lb ?_
      | refine T.fld rfl rfl ?_
      | refine T.new rfl ⟨rfl, by decide⟩ ?_
      | refine T.zero (by decide) ?_
      | refine T.build rfl ?_
      | refine T.len rfl rfl rfl ?_
      | refine T.lenS rfl ?_
      | refine T.lenN rfl ?_
      | refine T.mkf ?_
      | refine T.mki ?_
      | refine T.mksl rfl rfl (by decide) ?_
      | refine T.copy rfl rfl rfl ⟨rfl, rfl⟩ ?_
      | refine T.idx rfl rfl rfl ⟨rfl, rfl⟩ (by omega) ?_
      | refine T.idxa rfl rfl rfl rfl (by omega) ?_
      | refine T.idxd rfl rfl (by omega) ?_
      | refine T.bsl rfl (by decide) ?_
      | refine T.slc rfl rfl rfl rfl ⟨rfl, rfl⟩ (by omega) ?_
      | refine T.go rfl rfl ?_
      | refine T.pass rfl rfl ?_
      | refine T.pickB rfl rfl rfl ?_
      | refine AW.retI ?_)
    refine hN _ _ ?_
    repeat (first
      | refine AW.regS fun K hK => ?_
      | refine AW.dregS fun K hK => ?_
      | refine AW.regN fun K hK => ?_
      | refine AW.dregN fun K hK => ?_
      | simp only [T.mv, sm, AO.ev, put, lk, enter, reduceIte, Nat.reduceEqDiff, Nat.reduceAdd, Nat.reduceMul, Nat.reduceSub, Int.reduceNeg, Int.reduceToNat, upto, renB, setAll]
      | refine T.nil ?_
      | (first | refine hK _ _ _ (by rfl) ?_ | refine hK _ _ _ ?_); simp only [keep, List.map, lk, reduceIte, Nat.reduceEqDiff, enter]; clear hK; clear K
      | refine T.add rfl rfl (by omega) (by omega) ?_
      | refine T.sub rfl rfl (by omega) (by omega) ?_
      | refine T.bin rfl rfl rfl ?_
      | refine T.rem rfl rfl (by omega) ?_
      | refine T.quo rfl rfl (by omega) ?_
      | refine T.shl rfl rfl (by omega) ?_
      | refine T.shr rfl rfl (by omega) ?_
      | refine T.min2 rfl rfl rfl ?_
      | refine T.max2 rfl rfl rfl ?_
      | refine T.ext rfl rfl ?_
      | refine T.lenc ?_
      | refine T.eqnP rfl rfl ⟨rfl, by decide⟩ ?_
      | refine T.eqnN rfl ?_
      | refine T.neg rfl ?_
      | refine T.xorn rfl ?_
      | refine T.notD rfl ?_
      | refine T.not rfl ?_
      | refine T.eqb0 rfl rfl ?_
      | refine T.eqb1 rfl rfl ?_
      | refine T.cvt rfl ?_
      | refine T.ld rfl rfl rfl rfl rfl ?_
      | refine T.ldd rfl rfl ?_
      | refine T.ldn rfl rfl rfl rfl lb ?_
      | refine T.lddn rfl lb ?_
      | refine T.fad rfl rfl rfl ?_
      | refine T.fadd rfl ?_
      | refine T.nilc rfl rfl rfl ?_
      | refine T.nilcd rfl ?_
      | refine T.st rfl rfl rfl ⟨rfl, rfl⟩ rfl lb ?_
      | refine T.fld rfl rfl ?_
      | refine T.new rfl ⟨rfl, by decide⟩ ?_
      | refine T.zero (by decide) ?_
      | refine T.build rfl ?_
      | refine T.len rfl rfl rfl ?_
      | refine T.lenS rfl ?_
      | refine T.lenN rfl ?_
      | refine T.mkf ?_
      | refine T.mki ?_
      | refine T.mksl rfl rfl (by decide) ?_
      | refine T.copy rfl rfl rfl ⟨rfl, rfl⟩ ?_
      | refine T.idx rfl rfl rfl ⟨rfl, rfl⟩ (by omega) ?_
      | refine T.idxa rfl rfl rfl rfl (by omega) ?_
      | refine T.idxd rfl rfl (by omega) ?_
      | refine T.bsl rfl (by decide) ?_
      | refine T.slc rfl rfl rfl rfl ⟨rfl, rfl⟩ (by omega) ?_
      | refine T.go rfl rfl ?_
      | refine T.pass rfl rfl ?_
      | refine T.pickB rfl rfl rfl ?_
      | refine AW.retI ?_)
    exact hQ _ _ _ rfl (WeakV.cE rfl (by rw [hm]))
  · have ht := of_decide_eq_false ht
    rw [if_neg ht] at hm
    refine AW.skipI (hN _ _ ?_)
    repeat (first
      | refine AW.regS fun K hK => ?_
      | refine AW.dregS fun K hK => ?_
      | refine AW.regN fun K hK => ?_
      | refine AW.dregN fun K hK => ?_
      | simp only [T.mv, sm, AO.ev, put, lk, enter, reduceIte, Nat.reduceEqDiff, Nat.reduceAdd, Nat.reduceMul, Nat.reduceSub, Int.reduceNeg, Int.reduceToNat, upto, renB, setAll]
      | refine T.nil ?_
      | (first | refine hK _ _ _ (by rfl) ?_ | refine hK _ _ _ ?_); simp only [keep, List.map, lk, reduceIte, Nat.reduceEqDiff, enter]; clear hK; clear K
      | refine T.add rfl rfl (by omega) (by omega) ?_
      | refine T.sub rfl rfl (by omega) (by omega) ?_
      | refine T.bin rfl rfl rfl ?_
      | refine T.rem rfl rfl (by omega) ?_
      | refine T.quo rfl rfl (by omega) ?_
      | refine T.shl rfl rfl (by omega) ?_
      | refine T.shr rfl rfl (by omega) ?_
      | refine T.min2 rfl rfl rfl ?_
      | refine T.max2 rfl rfl rfl ?_
      | refine T.ext rfl rfl ?_
      | refine T.lenc ?_
      | refine T.eqnP rfl rfl ⟨rfl, by decide⟩ ?_
      | refine T.eqnN rfl ?_
      | refine T.neg rfl ?_
      | refine T.xorn rfl ?_
      | refine T.notD rfl ?_
      | refine T.not rfl ?_
      | refine T.eqb0 rfl rfl ?_
      | refine T.eqb1 rfl rfl ?_
      | refine T.cvt rfl ?_
      | refine T.ld rfl rfl rfl rfl rfl ?_
      | refine T.ldd rfl rfl ?_
      | refine T.ldn rfl rfl rfl rfl lb ?_
      | refine T.lddn rfl lb ?_
      | refine T.fad rfl rfl rfl ?_
      | refine T.fadd rfl ?_
      | refine T.nilc rfl rfl rfl ?_
      | refine T.nilcd rfl ?_
      | refine T.st rfl rfl rfl ⟨rfl, rfl⟩ rfl lb ?_
      | refine T.fld rfl rfl ?_
      | refine T.new rfl ⟨rfl, by decide⟩ ?_
      | refine T.zero (by decide) ?_
      | refine T.build rfl ?_
      | refine T.len rfl rfl rfl ?_
      | refine T.lenS rfl ?_
      | refine T.lenN rfl ?_
      | refine T.mkf ?_
      | refine T.mki ?_
      | refine T.mksl rfl rfl (by decide) ?_
      | refine T.copy rfl rfl rfl ⟨rfl, rfl⟩ ?_
      | refine T.idx rfl rfl rfl ⟨rfl, rfl⟩ (by omega) ?_
      | refine T.idxa rfl rfl rfl rfl (by omega) ?_
      | refine T.idxd rfl rfl (by omega) ?_
      | refine T.bsl rfl (by decide) ?_
      | refine T.slc rfl rfl rfl rfl ⟨rfl, rfl⟩ (by omega) ?_
      | refine T.go rfl rfl ?_
      | refine T.pass rfl rfl ?_
      | refine T.pickB rfl rfl rfl ?_
      | refine AW.retI ?_)
    exact hQ _ _ _ rfl (WeakV.cE rfl (by rw [hm]))
theorem modN (v : Int) (n : Nat) : ∃ a : Nat, v % 2 ^ n = (a : Int) ∧ a < 2 ^ n := by
  have h := mod_lo v n
  refine ⟨(v % 2 ^ n).toNat, by omega, ?_⟩
  have : (((v % 2 ^ n).toNat : Nat) : Int) < ((2 ^ n : Nat) : Int) := by rw [Int.natCast_pow]; have := h.2; have := h.1; push_cast; omega
  exact_mod_cast this
theorem low_lit (v : Int) (n : Nat) (w : Int) (hw : w = n) (hn : n ≤ 62) : FnE Tryz.prog 50 [I v, I w] [] (I (v % 2 ^ n)) [] := hw ▸ lowN_ok v n hn
theorem low_in (v : Int) (n : Nat) (w : Int) (hw : w = n) (hn : n ≤ 62) (h : 0 ≤ v ∧ v < 2 ^ n) : FnE Tryz.prog 50 [I v, I w] [] (I v) [] := by
  have := low_lit v n w hw hn
  rwa [Int.emod_eq_of_lt h.1 h.2] at this
end Go.Proofs.YtolmklnijjfppaaGreat.Calc

namespace Go.Proofs.YtolmklnijjfppaaGreat.Calc
open Go Code
set_option linter.unusedSimpArgs false
set_option linter.unusedVariables false
set_option maxRecDepth 20000
attribute [local irreducible] WOpsT AW AK RK AKW
theorem place_ok (i n : Nat) (h : i + n ≤ 62) : FnE Tryz.prog 140 [I i, I n] [] (.tup [I i, I n]) [] := by
  refine N.fn Tryz.func140 k140 lb q140 fun Q hQ hQN => ?_
  rw [c140]
  have e : wd i = i := by unfold wd; omega
  have hw := width_ok i
  rw [e] at hw
  repeat' (first
  | refine T.call0 e104 rfl (hw) ?_
  | exact True.intro
  | refine fun (K : KT) hK => ?_
  | intro hcd
  | (refine go1 ?_ ?_ <;> try clear hK K)
  | fail)
  exact WS.tup2 rfl rfl (by congr 1; omega)
theorem put_nat (a x i n : Nat) (hx : x < 2 ^ n) : BA.andn a ((2 ^ n - 1) * 2 ^ i) ||| x * 2 ^ i = a % 2 ^ i + x * 2 ^ i + a / 2 ^ (i + n) * 2 ^ (i + n) := by
  have h1 : a % 2 ^ i < 2 ^ i := Nat.mod_lt _ (Nat.pow_pos (by decide))
  have h2 : 2 ^ i * x + a % 2 ^ i < 2 ^ (i + n) := by
    have : x + 1 ≤ 2 ^ n := hx
    have h3 := Nat.mul_le_mul_left (2 ^ i) this
    rw [Nat.pow_add, Nat.mul_add, Nat.mul_one] at *
    omega
  rw [show a % 2 ^ i + x * 2 ^ i + a / 2 ^ (i + n) * 2 ^ (i + n) = 2 ^ (i + n) * (a / 2 ^ (i + n)) + (2 ^ i * x + a % 2 ^ i) by rw [Nat.mul_comm x, Nat.mul_comm (a / _)]; omega]
  apply Nat.eq_of_testBit_eq
  intro j
  rw [Nat.testBit_two_pow_mul_add _ h2, Nat.testBit_two_pow_mul_add _ h1, Nat.testBit_or, BA.andn_bit]
  rw [Nat.mul_comm (2 ^ n - 1), Nat.mul_comm x, Nat.testBit_two_pow_mul, Nat.testBit_two_pow_mul, Nat.testBit_two_pow_sub_one, Nat.testBit_mod_two_pow, Nat.testBit_div_two_pow]
  by_cases hj : j < i
  · simp [hj, show j < i + n by omega, show ¬ i ≤ j by omega]
  · by_cases hj2 : j < i + n
    · simp [hj, hj2, show i ≤ j by omega, show j - i < n by omega]
    · have hz : x.testBit (j - i) = false := Nat.testBit_lt_two_pow (Nat.lt_of_lt_of_le hx (Nat.pow_le_pow_right (by decide) (by omega)))
      simp [hj, hj2, show i ≤ j by omega, show ¬ j - i < n by omega, hz, show i + n + (j - (i + n)) = j by omega, show j - (i + n) + (i + n) = j by omega]
def putv (v : Int) (i n : Nat) (x : Int) : Int := v % 2 ^ i + x % 2 ^ n * 2 ^ i + v % 2 ^ 62 / 2 ^ (i + n) * 2 ^ (i + n)
theorem put_int (v x : Int) (i n : Nat) (h : i + n ≤ 62) : bits .or .i64 (bits .andNot .i64 (v % 2 ^ 62) ((2 ^ n - 1) * 2 ^ i)) (x % 2 ^ n * 2 ^ i) = putv v i n x := by
  obtain ⟨a, ha, ha2⟩ := modN v 62
  obtain ⟨y, hy, hy2⟩ := modN x n
  have hv : v % 2 ^ i = ((a % 2 ^ i : Nat) : Int) := by
    have : (a : Int) % 2 ^ i = v % 2 ^ i := by
      rw [← ha]
      obtain ⟨k, hk⟩ : ∃ k, 62 = i + k := ⟨62 - i, by omega⟩
      rw [hk, Int.pow_add]
      exact Int.emod_emod_of_dvd v (Int.dvd_mul_right _ _)
    rw [← this, Int.natCast_emod, Int.natCast_pow]; rfl
  have hp : 2 ^ n * 2 ^ i ≤ 2 ^ 62 := by rw [← Nat.pow_add]; exact Nat.pow_le_pow_right (by decide) (by omega)
  have hn := Nat.pow_pos (n := n) (a := 2) (by decide)
  have hi := Nat.pow_pos (n := i) (a := 2) (by decide)
  have e1 : ((2 : Int) ^ n - 1) * 2 ^ i = (((2 ^ n - 1) * 2 ^ i : Nat) : Int) := by
    rw [Int.natCast_mul, Int.natCast_sub hn, Int.natCast_pow, Int.natCast_pow]; rfl
  have e2 : (y : Int) * 2 ^ i = ((y * 2 ^ i : Nat) : Int) := by rw [Int.natCast_mul, Int.natCast_pow]; rfl
  have b1 : (2 ^ n - 1) * 2 ^ i < 2 ^ 62 := by
    have : (2 ^ n - 1) * 2 ^ i + 2 ^ i = 2 ^ n * 2 ^ i := by rw [Nat.sub_mul, Nat.one_mul, Nat.sub_add_cancel]; exact Nat.le_mul_of_pos_left _ hn
    omega
  have b2 : y * 2 ^ i < 2 ^ 62 := by
    have := Nat.mul_le_mul_right (2 ^ i) hy2
    rw [Nat.succ_mul] at this
    omega
  unfold putv
  rw [hv, ha, hy, e1, e2, BA.andn_nat _ _ (by omega) (by omega), BA.or_nat _ _ (by have := BA.andn_le a ((2 ^ n - 1) * 2 ^ i) 62 ha2; omega) (by omega), put_nat _ _ _ _ hy2]
  have e3 : (a : Int) / 2 ^ (i + n) * 2 ^ (i + n) = ((a / 2 ^ (i + n) * 2 ^ (i + n) : Nat) : Int) := by
    rw [Int.natCast_mul, Int.natCast_ediv, Int.natCast_pow]; rfl
  rw [e3]
  simp
theorem put_ok (v x : Int) (i n : Nat) (h : i + n ≤ 62) : FnE Tryz.prog 111 [I v, I i, I n, I x] [] (I (putv v i n x)) [] := by
  refine N.fn Tryz.func111 k111 lb q111 fun Q hQ hQN => ?_
  rw [c111]
  have hp := pow_le n (by omega)
  have hp1 := pow_pos' n
  have hmul : 2 ^ n * 2 ^ i ≤ (2 : Int) ^ 62 := by
    rw [← Int.pow_add, Nat.add_comm]; exact_mod_cast Nat.pow_le_pow_right (n := 2) (by decide) h
  have hi1 := pow_pos' i
  have hx := mod_lo x n
  have w1 : (2 ^ n - 1) * (2 : Int) ^ i ≤ 4611686018427387904 := by
    rw [Int.sub_mul]; omega
  have w2 : 0 ≤ (2 ^ n - 1) * (2 : Int) ^ i := Int.mul_nonneg (by omega) (by omega)
  have w3 : x % 2 ^ n * (2 : Int) ^ i ≤ 4611686018427387904 := by
    have := Int.mul_le_mul_of_nonneg_right (show x % 2 ^ n ≤ 2 ^ n by omega) (show (0 : Int) ≤ 2 ^ i by omega)
    omega
  have w4 : 0 ≤ x % 2 ^ n * (2 : Int) ^ i := Int.mul_nonneg (by omega) (by omega)
  have u1 : IntKind.wrap .i64 (1 * 2 ^ min ((n : Int)).toNat IntKind.i64.bits) = 2 ^ n := by rw [min64 n (by omega), Int.one_mul, wrap64 (by omega) (by omega)]
  have u2 : IntKind.wrap .i64 ((2 ^ n - 1) * 2 ^ min ((i : Int)).toNat IntKind.i64.bits) = (2 ^ n - 1) * 2 ^ i := by rw [min64 i (by omega), wrap64 (by omega) (by omega)]
  have u3 : IntKind.wrap .i64 (x % 2 ^ n * 2 ^ min ((i : Int)).toNat IntKind.i64.bits) = x % 2 ^ n * 2 ^ i := by rw [min64 i (by omega), wrap64 (by omega) (by omega)]
  repeat' (first
  | rw [u1]
  | rw [u2]
  | rw [u3]
  | (show WOpsT _ (⟨_, .call _ _, none⟩ :: _) _ _ _ _; first | refine T.call0 e140 rfl (place_ok _ _ h) ?_ | refine T.call0 e50 rfl (lowN_ok _ n (by omega)) ?_ | refine T.call0 e50 rfl (low_lit _ 62 62 rfl (by decide)) ?_)
  | exact True.intro
  | refine fun (K : KT) hK => ?_
  | intro hcd
  | (refine go1 ?_ ?_ <;> try clear hK K)
  | fail)
  exact WS.c rfl (by rw [put_int v x i n h])
end Go.Proofs.YtolmklnijjfppaaGreat.Calc

namespace Go.Proofs.YtolmklnijjfppaaGreat.Calc
open Go Code
set_option linter.unusedSimpArgs false
set_option linter.unusedVariables false
set_option maxRecDepth 20000
set_option maxHeartbeats 4000000
attribute [local irreducible] WOpsT AW AK RK AKW UK UC
def sizeM (m : Int) : Int := if m = 0 then 0 else if m = 4 ∨ m = 5 ∨ m = 6 then 2 else if m = 1 ∨ m = 2 ∨ m = 3 ∨ m = 7 ∨ m = 8 then 1 else -1
def usesL : List (Int × Int × Bool) := [(0, 0, false), (115, 115, false), (97, 0, true), (98, 0, false), (98, 98, false), (98, 98, false), (98, 98, false), (98, 98, false), (98, 98, false), (98, 98, false), (97, 0, false), (97, 0, false), (98, 0, false), (98, 0, false), (98, 0, false), (98, 0, false), (0, 0, true), (0, 0, true), (119, 98, false), (119, 98, false), (98, 119, false), (98, 119, false), (119, 98, false), (119, 98, false)]
def usesT (d : Int) : Int × Int × Bool := usesL.getD d.toNat (0, 0, false)
def fitsP (r n : Int) : Prop := if n = 0 then r = 0 else if n = 119 then r = 7 ∨ r = 8 else if n = 98 then 0 ≤ r ∧ r < 7 else 0 ≤ r ∧ r < 9
structure Stp where
  op : Int
  to : Int
  fr : Int
  n : Int
def stC (s : Stp) : List V := [I s.op, I s.to, I s.fr, I s.n]
def VStep (s : Stp) : Prop := (s.op = 24 ∧ s.to = 0 ∧ (0 ≤ s.fr ∧ s.fr ≤ 1) ∧ 0 ≤ s.n ∧ s.n ≤ 255) ∨ ((0 ≤ s.op ∧ s.op < 24) ∧ fitsP s.to (usesT s.op).1 ∧ fitsP s.fr (usesT s.op).2.1 ∧ ((usesT s.op).1 = 115 → (s.to < 7 ↔ s.fr < 7)) ∧ 0 ≤ s.n ∧ s.n ≤ if (usesT s.op).2.2 = true then (if s.op = 2 ∧ 7 ≤ s.to then 65535 else 255) else 0)
end Go.Proofs.YtolmklnijjfppaaGreat.Calc

namespace Go.Proofs.YtolmklnijjfppaaGreat.Calc
open Go Code
set_option linter.unusedSimpArgs false
set_option linter.unusedVariables false
set_option maxRecDepth 20000
set_option maxHeartbeats 4000000
attribute [local irreducible] WOpsT AW AK RK AKW UK UC
structure Cyc where
  bus : Int
  at_ : Int
  reg : Int
  steps : List Stp
def cyC (c : Cyc) : List V := [I c.bus, I c.at_, I c.reg, .sl 4 (c.steps.map stC)]
def VCyc (c : Cyc) : Prop := (0 ≤ c.bus ∧ c.bus ≤ 2) ∧ (c.bus = 0 → c.at_ = 0 ∧ c.reg = 0) ∧ (0 ≤ c.at_ ∧ c.at_ < 12) ∧ (0 ≤ c.reg ∧ c.reg < 7) ∧ c.steps.length ≤ 6 ∧ ∀ s ∈ c.steps, VStep s
theorem mget {α : Type} (f : α → List V) (l : List α) (i : Nat) (hi : i < l.length) : (l.map f)[((i : Nat) : Int).toNat]? = some (f l[i]) := by
  rw [Int.toNat_natCast, List.getElem?_map, List.getElem?_eq_getElem hi]; rfl
def VCycs (l : List Cyc) : Prop := l.length ≤ 8 ∧ ∀ c ∈ l, VCyc c
def opnd (l : List Cyc) : Int := (l.countP fun c => c.bus == 1 && c.at_ == 0 : Nat)
end Go.Proofs.YtolmklnijjfppaaGreat.Calc

namespace Go.Proofs.YtolmklnijjfppaaGreat.Calc
open Go Code
set_option linter.unusedSimpArgs false
set_option linter.unusedVariables false
set_option maxRecDepth 20000
set_option maxHeartbeats 4000000
attribute [local irreducible] WOpsT AW AK RK AKW UK UC
def nmB (s : ByteArray) : List Int := s.data.toList.map fun b => (b.toNat : Int)
theorem nmB_len (s : ByteArray) : (nmB s).length = s.size := by simp [nmB]
def okCh (b : Int) : Prop := (97 ≤ b ∧ b ≤ 122) ∨ (48 ≤ b ∧ b ≤ 57) ∨ b = 45
def VName (s : ByteArray) : Prop := (1 ≤ s.size ∧ s.size ≤ 20) ∧ (∃ b, s[0]? = some b ∧ 97 ≤ (b.toNat : Int) ∧ (b.toNat : Int) ≤ 122) ∧ ∀ x ∈ nmB s, okCh x
theorem name_ok (s : ByteArray) (hs : VName s) : FnE Tryz.prog 86 [.c (.string s)] [] (.c (.bool true)) [] := by
  obtain ⟨h1, ⟨b0, h2, h3⟩, h4⟩ := hs
  have hne : decide (s = ⟨#[]⟩) = false := decide_eq_false (by intro h; subst h; exact absurd h1.1 (by decide))
  have hl := nmB_len s
  refine N.fn Tryz.func86 k86 lb q86 fun Q hQ hQN => ?_
  rw [c86]
  repeat' (first
  | rw [hne]
  | refine T.lens rfl ?_
  | (show WOpsT _ (⟨_, .ixs _ _, none⟩ :: _) _ _ _ _; refine T.ixs rfl rfl (by decide) h2 ?_)
  | refine T.s2b rfl ?_
  | exact True.intro
  | refine fun (K : KT) hK => ?_
  | intro hcd
  | (refine go1 ?_ ?_ <;> try clear hK K)
  | fail)
  refine N.loop (σ := Nat) (fun i => [(23, .psl 0 1 0 s.size), (24, I s.size), (25, I i)]) (fun i => [⟨1, 1, bcells (nmB s)⟩]) (fun i => i ≤ s.size) (fun i => s.size - i) 0 (by omega) (Weaks.sel (by repeat (first | exact trivial | refine ⟨.rfl, ?_⟩ | refine ⟨.any, ?_⟩)) rfl) fun i hi C hC => ?_
  by_cases hil : i < s.size
  · have hil2 : i < (nmB s).length := by omega
    have hg := bget (m := nmB s) (i := i) hil2
    have hx := h4 ((nmB s).getD i 0) (by rw [List.getD_eq_getElem?_getD, List.getElem?_eq_getElem hil2]; exact List.getElem_mem hil2)
    obtain ⟨x, hxe⟩ : ∃ x, (nmB s).getD i 0 = x := ⟨_, rfl⟩
    rw [hxe] at hg hx
    unfold okCh at hx
    have hg2 : (bcells (nmB s))[0 + ((i : Nat) : Int).toNat]? = some [.c (.int .u8 x)] := by rw [Int.toNat_natCast, Nat.zero_add]; exact hg
    repeat' (first
    | (show WOpsT _ (⟨_, .ld _ _, none⟩ :: _) _ _ _ _; refine T.ld rfl rfl rfl hg2 rfl ?_)
    | exact True.intro
    | refine fun (K : KT) hK => ?_
    | intro hcd
    | (refine go1 ?_ ?_ <;> try clear hK K)
    | fail)
    all_goals first
      | exact hC _ _ (i + 1) (by omega) (by omega) (Weaks.sel (by repeat (first | exact trivial | refine ⟨.rfl, ?_⟩ | refine ⟨.any, ?_⟩)) rfl)
      | trace_state
  · obtain rfl : i = s.size := by omega
    repeat' (first
    | exact True.intro
    | refine fun (K : KT) hK => ?_
    | intro hcd
    | (refine go1 ?_ ?_ <;> try clear hK K)
    | fail)
    exact WS.c rfl rfl
end Go.Proofs.YtolmklnijjfppaaGreat.Calc

namespace Go.Proofs.YtolmklnijjfppaaGreat.Calc
open Go Code
set_option linter.unusedSimpArgs false
set_option linter.unusedVariables false
set_option maxRecDepth 20000
set_option maxHeartbeats 4000000
attribute [local irreducible] WOpsT AW AK RK AKW UK UC
structure Ins where
  op : Int
  name : ByteArray
  mode : Int
  cy : List Cyc
def inC (x : Ins) : List V := [I x.op, .c (.string x.name), I x.mode, .sl 4 (x.cy.map cyC)]
def idxI (p : Ins → Bool) (l : List Ins) : Int := match l.findIdx? p with | some i => (i : Int) | none => -1
end Go.Proofs.YtolmklnijjfppaaGreat.Calc

namespace Go.Proofs.YtolmklnijjfppaaGreat.Calc
open Go Code
set_option linter.unusedSimpArgs false
set_option linter.unusedVariables false
set_option maxRecDepth 20000
set_option maxHeartbeats 4000000
attribute [local irreducible] WOpsT AW AK RK AKW UK UC
end Go.Proofs.YtolmklnijjfppaaGreat.Calc

namespace Go.Proofs.YtolmklnijjfppaaGreat.Calc
open Go Code
set_option linter.unusedSimpArgs false
set_option linter.unusedVariables false
set_option maxRecDepth 20000
set_option maxHeartbeats 4000000
attribute [local irreducible] WOpsT AW AK RK AKW UK UC
structure Cpu where
  name : ByteArray
  ins : List Ins
  res : List Cyc
  irq : List Cyc
  nmi : List Cyc
def cpC (c : Cpu) : List V := [.c (.string c.name), .sl 4 (c.ins.map inC), .sl 4 (c.res.map cyC), .sl 4 (c.irq.map cyC), .sl 4 (c.nmi.map cyC)]
def SmlC (l : List Cyc) : Prop := l.length ≤ 8 ∧ ∀ c ∈ l, c.steps.length ≤ 6
def SmlP (c : Cpu) : Prop := c.ins.length ≤ 256 ∧ (∀ x ∈ c.ins, SmlC x.cy) ∧ SmlC c.res ∧ SmlC c.irq ∧ SmlC c.nmi
instance : Flat stC := ⟨fun a x hx => by simp [stC] at hx; rcases hx with rfl | rfl | rfl | rfl <;> exact .inl ⟨_, rfl⟩⟩
instance : Flat cyC := ⟨fun a x hx => by simp [cyC] at hx; rcases hx with rfl | rfl | rfl | rfl <;> first | exact .inl ⟨_, rfl⟩ | exact .inr ⟨_, _, rfl⟩⟩
instance : Flat inC := ⟨fun a x hx => by simp [inC] at hx; rcases hx with rfl | rfl | rfl | rfl <;> first | exact .inl ⟨_, rfl⟩ | exact .inr ⟨_, _, rfl⟩⟩
theorem out_rowsK {α : Type} {f : α → List V} [Flat f] {h : List Blk} {ids : List Nat} {n b v e len : Nat} {l : List α} (hp : pos ids b = none) (hb : h[b]? = some ⟨v, e, l.map f⟩) (hl : l.length ≤ len) : out h ids (n + 1) (.psl b v 0 len) = .sl e (l.map f) := by
  rw [out_pslK hp hb rfl, List.drop_zero, List.take_of_length_le (by simpa using hl), rows_frz]
theorem WS.rows {α : Type} {f : α → List V} [Flat f] {h : List Blk} {b v e len : Nat} {l : List α} (hb : h[b]? = some ⟨v, e, l.map f⟩) (hl : l.length ≤ len) : WeakS 0 (.psl b v 0 len) h (.sl e (l.map f)) [] :=
  WS.gc [] 1 rfl rfl (by rw [out_rowsK rfl hb hl]; exact .rfl)
theorem WS.nil {h : List Blk} {e : Nat} : WeakS 0 (.c (.slice none 0 0)) h (.sl e []) [] := WS.gc [] 1 rfl rfl .nil
end Go.Proofs.YtolmklnijjfppaaGreat.Calc

namespace Go.Proofs.YtolmklnijjfppaaGreat.Calc
open Go Code
set_option linter.unusedSimpArgs false
set_option linter.unusedVariables false
set_option maxRecDepth 20000
set_option maxHeartbeats 4000000
attribute [local irreducible] WOpsT AW AK RK AKW UK UC
def insZ : Ins := ⟨0, ⟨#[]⟩, 0, []⟩
def gotM (p : Ins → Bool) (l : List Ins) : Ins × Bool := match l.findIdx? p with
  | some i => (l.getD i insZ, true)
  | none => (insZ, false)
theorem Sub.insZ : Sub (.agg [I 0, .c (.string ⟨#[]⟩), I 0, .c (.slice none 0 0)]) (.agg (inC insZ)) := by
  refine .agg (Eq.refl _) fun i a b ha hb => ?_
  match i with
  | 0 => cases ha; cases hb; exact .rfl
  | 1 => cases ha; cases hb; exact .rfl
  | 2 => cases ha; cases hb; exact .rfl
  | 3 => cases ha; cases hb; exact .nil
  | i + 4 => cases ha
end Go.Proofs.YtolmklnijjfppaaGreat.Calc

namespace Go.Proofs.YtolmklnijjfppaaGreat.Calc
open Go Code
set_option linter.unusedSimpArgs false
set_option linter.unusedVariables false
set_option maxRecDepth 20000
set_option maxHeartbeats 2000000
attribute [local irreducible] WOpsT AW AK RK AKW
abbrev strB (l : List Int) : Blk := ⟨1, 1, [[.sl 1 (cells l)]]⟩
def sval (l : List Int) (n : Int) : Int := if n < 1 then 0 else match l with
  | [] => 0
  | x :: _ => x % n
def srest (l : List Int) (n : Int) : List Int := if n < 1 then l else l.tail
theorem next_ok (l : List Int) (n : Int) (hn : n < 4611686018427387904) : FnE Tryz.prog 19 [.ptr 0 1 0 0, I n] [strB l] (I (sval l n)) [strB (srest l n)] := by
  by_cases h : n < 1
  · skip
    refine N.fn Tryz.func19 k19 lb q19 fun Q hQ hQN => ?_
    rw [c19]
    repeat' (first
    | exact True.intro
    | refine fun (K : KT) hK => ?_
    | intro hcd
    | (refine go1 ?_ ?_ <;> try clear hK K)
    | fail)
    exact WS.gc [0] 1 rfl (by rw [srest, if_pos h]; rfl) (by unfold sval; rw [if_pos h]; exact .rfl)
  · cases l with
    | nil =>
      refine N.fn Tryz.func19 k19 lb q19 fun Q hQ hQN => ?_
      rw [c19]
      repeat' (first
      | exact True.intro
      | refine fun (K : KT) hK => ?_
      | intro hcd
      | (refine go1 ?_ ?_ <;> try clear hK K)
      | fail)
      exact WS.gc [0] 1 rfl (by rw [srest, if_neg h]; rfl) (by unfold sval; rw [if_neg h]; exact .rfl)
    | cons x t =>
      refine N.fn Tryz.func19 k19 lb q19 fun Q hQ hQN => ?_
      rw [c19]
      have e1 : ¬ ((cells (x :: t)).length : Int) = 0 := by rw [cells_len, List.length_cons]; omega
      have e3 : (1 : Int) ≤ ((cells (x :: t)).length : Int) := by rw [cells_len, List.length_cons]; omega
      have e2 : (List.drop 1 (cells (x :: t))).take (((cells (x :: t)).length : Int).toNat - 1) = cells t := by
        rw [cells_len, Int.toNat_natCast, List.length_cons, cells_drop, List.drop_one, List.tail_cons, cells_take, List.take_of_length_le (by omega)]
      repeat' (first
      | rw [e2]
      | refine T.call0 e7 rfl (below_ok x n (by omega) hn) ?_
      | exact True.intro
      | refine fun (K : KT) hK => ?_
      | intro hcd
      | (refine go1 ?_ ?_ <;> try clear hK K)
      | fail)
      exact WS.gc [0] 1 rfl (by rw [srest, if_neg h]; rfl) (by unfold sval; rw [if_neg h]; exact .rfl)
theorem sval_range (l : List Int) (n : Int) (hn : 0 < n) : 0 ≤ sval l n ∧ sval l n < n := by
  unfold sval
  rw [if_neg (by omega)]
  cases l with
  | nil => exact ⟨Int.le_refl 0, hn⟩
  | cons x t => exact ⟨Int.emod_nonneg _ (by omega), Int.emod_lt_of_pos _ hn⟩
end Go.Proofs.YtolmklnijjfppaaGreat.Calc

namespace Go.Proofs.YtolmklnijjfppaaGreat.Calc
open Go Code
set_option linter.unusedSimpArgs false
set_option linter.unusedVariables false
set_option maxRecDepth 20000
set_option maxHeartbeats 4000000
attribute [local irreducible] WOpsT AW AK RK AKW UK UC
def mkStepD (b w d : Int) (l : List Int) : Stp × List Int :=
  if d = 0 then (⟨0, 0, 0, 0⟩, l)
  else if d = 1 ∨ (4 ≤ d ∧ d ≤ 9) then (⟨d, b, sval l 7, 0⟩, srest l 7)
  else if d = 2 then (⟨2, b, 0, sval l 256⟩, srest l 256)
  else if d = 16 ∨ d = 17 then (⟨d, 0, 0, sval l 256⟩, srest l 256)
  else if d = 18 ∨ d = 19 ∨ d = 22 ∨ d = 23 then (⟨d, w, b, 0⟩, l)
  else if d = 20 ∨ d = 21 then (⟨d, b, w, 0⟩, l)
  else if d = 24 then (⟨24, 0, sval l 2, sval (srest l 2) 256⟩, srest (srest l 2) 256)
  else (⟨d, b, 0, 0⟩, l)
def mkStep (l : List Int) : Stp × List Int := mkStepD (sval l 7) (7 + sval (srest l 7) 2) (sval (srest (srest l 7) 2) 25) (srest (srest (srest l 7) 2) 25)
end Go.Proofs.YtolmklnijjfppaaGreat.Calc

namespace Go.Proofs.YtolmklnijjfppaaGreat.Calc
open Go
def rdM (a r : Int) (ss : List Stp) : Cyc := ⟨1, a, r, ss⟩
def wrM (a r : Int) (ss : List Stp) : Cyc := ⟨2, a, r, ss⟩
def noM (ss : List Stp) : Cyc := ⟨0, 0, 0, ss⟩
def oneM (d t : Int) : Stp := ⟨d, t, 0, 0⟩
def twoM (d t f : Int) : Stp := ⟨d, t, f, 0⟩
def zeroM : Stp := ⟨2, 8, 0, 0⟩
def jumpM (t : Int) : List Stp := [twoM 18 t 5, twoM 19 t 6]
def pageM : Cyc := rdM 0 5 [zeroM, twoM 18 8 5]
def lowM : Cyc := rdM 0 5 [twoM 18 8 5]
def highM : Cyc := rdM 0 5 [twoM 19 8 5]
def leadM (m : Int) : List Cyc :=
  if m = 2 then [pageM]
  else if m = 3 then [rdM 0 5 [zeroM, twoM 18 8 5, twoM 22 8 1], noM [twoM 20 5 8, zeroM, twoM 18 8 5]]
  else if m = 4 then [lowM, highM]
  else if m = 5 then [lowM, highM, noM [twoM 22 8 1]]
  else if m = 6 then [lowM, highM, noM [twoM 22 8 2]]
  else if m = 8 then [pageM, rdM 2 5 [], rdM 3 6 [twoM 18 8 5, twoM 19 8 6, twoM 22 8 2]]
  else []
def readsM (m : Int) (ss : List Stp) : List Cyc := leadM m ++ [rdM (if m = 1 then 0 else 2) 5 ss]
abbrev Row := ByteArray × Int × List Cyc
def loadsM (n : ByteArray) (r : Int) (ms : List Int) : List Row := ms.map fun m => (n, m, readsM m [twoM 1 r 5, oneM 3 r])
def storesM (n : ByteArray) (r : Int) (ms : List Int) : List Row := ms.map fun m => (n, m, leadM m ++ [wrM 2 r []])
def joinsM (n : ByteArray) (d r : Int) (ms : List Int) : List Row := ms.map fun m => (n, m, readsM m [twoM d r 5])
def turnsM (n : ByteArray) (d : Int) (ms : List Int) : List Row := ms.map fun m => (n, m, if m = 0 then [noM [oneM d 0]] else leadM m ++ [rdM 2 5 [oneM d 5], wrM 2 5 []])
def memoryL : List (List (ByteArray × Int × List Cyc)) := [
  loadsM ⟨#[108, 100, 97]⟩ 0 [1, 2, 3, 4, 5, 6, 8],
  loadsM ⟨#[108, 100, 120]⟩ 1 [1, 2, 4],
  loadsM ⟨#[108, 100, 121]⟩ 2 [1, 2, 4],
  storesM ⟨#[115, 116, 97]⟩ 0 [2, 3, 4, 5, 6, 8],
  storesM ⟨#[115, 116, 120]⟩ 1 [2, 4],
  storesM ⟨#[115, 116, 121]⟩ 2 [2, 4],
  joinsM ⟨#[97, 100, 99]⟩ 4 0 [1, 2, 4, 5],
  joinsM ⟨#[115, 98, 99]⟩ 5 0 [1, 2, 4, 5],
  joinsM ⟨#[97, 110, 100]⟩ 7 0 [1, 2, 4, 5],
  joinsM ⟨#[111, 114, 97]⟩ 8 0 [1, 2, 4, 5],
  joinsM ⟨#[101, 111, 114]⟩ 9 0 [1, 2, 4, 5],
  joinsM ⟨#[99, 109, 112]⟩ 6 0 [1, 2, 4, 5],
  joinsM ⟨#[99, 112, 120]⟩ 6 1 [1, 2],
  joinsM ⟨#[99, 112, 121]⟩ 6 2 [1, 2],
  turnsM ⟨#[105, 110, 99]⟩ 10 [2, 4],
  turnsM ⟨#[100, 101, 99]⟩ 11 [2, 4],
  turnsM ⟨#[97, 115, 108]⟩ 12 [0, 2],
  turnsM ⟨#[108, 115, 114]⟩ 13 [0, 2],
  turnsM ⟨#[114, 111, 108]⟩ 14 [0, 2],
  turnsM ⟨#[114, 111, 114]⟩ 15 [0, 2]]
def aloneL : List (ByteArray × Int × List Cyc) := [
  (⟨#[116, 97, 120]⟩, 0, [noM [twoM 1 1 0, oneM 3 1]]),
  (⟨#[116, 97, 121]⟩, 0, [noM [twoM 1 2 0, oneM 3 2]]),
  (⟨#[116, 120, 97]⟩, 0, [noM [twoM 1 0 1, oneM 3 0]]),
  (⟨#[116, 121, 97]⟩, 0, [noM [twoM 1 0 2, oneM 3 0]]),
  (⟨#[116, 115, 120]⟩, 0, [noM [twoM 1 1 3, oneM 3 1]]),
  (⟨#[116, 120, 115]⟩, 0, [noM [twoM 1 3 1]]),
  (⟨#[105, 110, 120]⟩, 0, [noM [oneM 10 1]]),
  (⟨#[105, 110, 121]⟩, 0, [noM [oneM 10 2]]),
  (⟨#[100, 101, 120]⟩, 0, [noM [oneM 11 1]]),
  (⟨#[100, 101, 121]⟩, 0, [noM [oneM 11 2]]),
  (⟨#[99, 108, 99]⟩, 0, [noM [⟨17, 0, 0, 1⟩]]),
  (⟨#[115, 101, 99]⟩, 0, [noM [⟨16, 0, 0, 1⟩]]),
  (⟨#[99, 108, 105]⟩, 0, [noM [⟨17, 0, 0, 4⟩]]),
  (⟨#[115, 101, 105]⟩, 0, [noM [⟨16, 0, 0, 4⟩]]),
  (⟨#[110, 111, 112]⟩, 0, [noM []]),
  (⟨#[112, 104, 97]⟩, 0, [wrM 4 0 []]),
  (⟨#[112, 108, 97]⟩, 0, [rdM 5 0 [oneM 3 0]]),
  (⟨#[112, 104, 112]⟩, 0, [wrM 4 4 []]),
  (⟨#[112, 108, 112]⟩, 0, [rdM 5 4 []])]
def waysL : List (ByteArray × Int × List Cyc) := [
  (⟨#[106, 109, 112]⟩, 4, [rdM 0 5 [], rdM 0 6 (jumpM 7)]),
  (⟨#[106, 115, 114]⟩, 4, [rdM 0 5 [twoM 18 8 5], rdM 0 5 [twoM 19 8 5, twoM 21 5 7], wrM 4 5 [twoM 20 5 7], wrM 4 5 [twoM 1 7 8]]),
  (⟨#[114, 116, 115]⟩, 0, [rdM 5 5 [], rdM 5 6 (jumpM 7)]),
  (⟨#[114, 116, 105]⟩, 0, [rdM 5 4 [], rdM 5 5 [], rdM 5 6 (jumpM 7)]),
  (⟨#[98, 101, 113]⟩, 7, [rdM 0 5 [⟨24, 0, 1, 2⟩], noM [twoM 23 7 5]]),
  (⟨#[98, 110, 101]⟩, 7, [rdM 0 5 [⟨24, 0, 0, 2⟩], noM [twoM 23 7 5]]),
  (⟨#[98, 99, 115]⟩, 7, [rdM 0 5 [⟨24, 0, 1, 1⟩], noM [twoM 23 7 5]]),
  (⟨#[98, 99, 99]⟩, 7, [rdM 0 5 [⟨24, 0, 0, 1⟩], noM [twoM 23 7 5]]),
  (⟨#[98, 109, 105]⟩, 7, [rdM 0 5 [⟨24, 0, 1, 128⟩], noM [twoM 23 7 5]]),
  (⟨#[98, 112, 108]⟩, 7, [rdM 0 5 [⟨24, 0, 0, 128⟩], noM [twoM 23 7 5]])]
def number : Nat → List Row → List Ins
  | _, [] => []
  | n, (s, m, cy) :: l => ⟨(n : Int) + 1, s, m, cy⟩ :: number (n + 1) l
theorem number_len : ∀ (l : List Row) (n : Nat), (number n l).length = l.length := by
  intro l; induction l with
  | nil => intro n; rfl
  | cons a l ih => intro n; obtain ⟨s, m, cy⟩ := a; simp [number, ih]
theorem number_app : ∀ (l l' : List Row) (n : Nat), number n (l ++ l') = number n l ++ number (n + l.length) l' := by
  intro l; induction l with
  | nil => intro l' n; rfl
  | cons a l ih =>
    intro l' n; obtain ⟨s, m, cy⟩ := a
    simp only [List.cons_append, number, ih, List.length_cons]
    rw [show n + 1 + l.length = n + (l.length + 1) by omega]
def answersM (lo hi : Int) : List Cyc := [noM [twoM 21 5 7], wrM 4 5 [twoM 20 5 7], wrM 4 5 [], wrM 4 4 [⟨16, 0, 0, 4⟩], rdM lo 5 [], rdM hi 6 (jumpM 7)]
def stdL : List (List Row) := memoryL ++ aloneL.map (fun r => [r]) ++ waysL.map (fun r => [r])
def memR (k : Nat) : List Row := (stdL.take k).flatten
theorem memR_succ (k : Nat) (c : List Row) (hc : stdL[k]? = some c) : memR (k + 1) = memR k ++ c := by
  obtain ⟨hk, rfl⟩ := List.getElem?_eq_some_iff.1 hc
  unfold memR
  rw [List.take_succ_eq_append_getElem hk, List.flatten_append]
  simp
theorem memR_len : ∀ k, k < 50 → 1 ≤ k → 0 < (memR k).length ∧ (memR k).length ≤ 92 := by decide +kernel
def stdRows : List Row := memR 49
def stdM : Cpu := ⟨⟨#[115, 116, 100]⟩, number 0 stdRows, [rdM 10 5 [], rdM 11 6 [twoM 18 7 5, twoM 19 7 6, ⟨2, 3, 0, 255⟩]], answersM 6 7, answersM 8 9⟩
end Go.Proofs.YtolmklnijjfppaaGreat.Calc

namespace Go.Proofs.YtolmklnijjfppaaGreat.Calc
open Go Code
set_option linter.unusedSimpArgs false
set_option linter.unusedVariables false
set_option maxRecDepth 20000
set_option maxHeartbeats 4000000
attribute [local irreducible] WOpsT AW AK RK AKW UK UC
theorem two_ok (d t f : Int) : FnE Tryz.prog 127 [I d, I t, I f] [] (.agg (stC (twoM d t f))) [] := by
  refine N.fn Tryz.func127 k127 lb q127 fun Q hQ hQN => ?_
  rw [c127]
  repeat' (first
  | exact True.intro
  | refine fun (K : KT) hK => ?_
  | intro hcd
  | (refine go1 ?_ ?_ <;> try clear hK K)
  | fail)
  exact WS.drop (n := 0) rfl rfl
theorem one_ok (d t : Int) : FnE Tryz.prog 128 [I d, I t] [] (.agg (stC (oneM d t))) [] := by
  refine N.fn Tryz.func128 k128 lb q128 fun Q hQ hQN => ?_
  rw [c128]
  repeat' (first
  | exact True.intro
  | refine fun (K : KT) hK => ?_
  | intro hcd
  | (refine go1 ?_ ?_ <;> try clear hK K)
  | fail)
  exact WS.drop (n := 0) rfl rfl
theorem zero_ok : FnE Tryz.prog 148 [] [] (.agg (stC zeroM)) [] := by
  refine N.fn Tryz.func148 k148 lb q148 fun Q hQ hQN => ?_
  rw [c148]
  repeat' (first
  | exact True.intro
  | refine fun (K : KT) hK => ?_
  | intro hcd
  | (refine go1 ?_ ?_ <;> try clear hK K)
  | fail)
  exact WS.drop (n := 0) rfl rfl
theorem jump_ok (t : Int) : FnE Tryz.prog 93 [I t] [] (.psl 0 1 0 2) [⟨1, 4, (jumpM t).map stC⟩] := by
  refine N.fn Tryz.func93 k93 lb q93 fun Q hQ hQN => ?_
  rw [c93]
  repeat' (first
  | (show WOpsT _ (⟨_, .call _ _, none⟩ :: _) _ _ _ _; first | refine T.call0 e127 rfl ((two_ok 18 t 5)) ?_ | refine T.call0 e127 rfl ((two_ok 19 t 6)) ?_)
  | exact True.intro
  | refine fun (K : KT) hK => ?_
  | intro hcd
  | (refine go1 ?_ ?_ <;> try clear hK K)
  | fail)
  exact WS.gc [0] 1 rfl rfl .rfl
def cyP (b a r : Int) (p n : Nat) : List V := [I b, I a, I r, .psl p 1 0 n]
theorem Sub.cyN (b a r : Int) : Sub (.agg [I b, I a, I r, .c (.slice none 0 0)]) (.agg (cyC ⟨b, a, r, []⟩)) := by
  refine .agg (Eq.refl _) fun i x y hx hy => ?_
  match i with
  | 0 => cases hx; cases hy; exact .rfl
  | 1 => cases hx; cases hy; exact .rfl
  | 2 => cases hx; cases hy; exact .rfl
  | 3 => cases hx; cases hy; exact .nil
  | i + 4 => cases hx
theorem rdP_ok (a r : Int) (ss : List Stp) (n : Nat) : FnE Tryz.prog 92 [I a, I r, .psl 0 1 0 n] [⟨1, 4, ss.map stC⟩] (.agg [I 1, I a, I r, .psl 0 1 0 n]) [⟨1, 4, ss.map stC⟩] := by
  refine N.fn Tryz.func92 k92 lb q92 fun Q hQ hQN => ?_
  rw [c92]
  repeat' (first
  | exact True.intro
  | refine fun (K : KT) hK => ?_
  | intro hcd
  | (refine go1 ?_ ?_ <;> try clear hK K)
  | fail)
  exact WS.gc [0] 1 rfl (by first | rfl | (symm; unfold outH; simp only [List.map]; (repeat' (first | rfl | exact outB_bytes | exact outB_ints | exact outB_flat | refine consE ?_ ?_)); done)) .rfl
theorem rdQ_ok (a r : Int) (ss : List Stp) (n : Nat) : FnE Tryz.prog 92 [I a, I r, .psl 0 2 0 n] [⟨2, 4, ss.map stC⟩] (.agg [I 1, I a, I r, .psl 0 2 0 n]) [⟨2, 4, ss.map stC⟩] := by
  refine N.fn Tryz.func92 k92 lb q92 fun Q hQ hQN => ?_
  rw [c92]
  repeat' (first
  | exact True.intro
  | refine fun (K : KT) hK => ?_
  | intro hcd
  | (refine go1 ?_ ?_ <;> try clear hK K)
  | fail)
  exact WS.gc [0] 1 rfl (by first | rfl | (symm; unfold outH; simp only [List.map]; (repeat' (first | rfl | exact outB_bytes | exact outB_ints | exact outB_flat | refine consE ?_ ?_)); done)) .rfl
theorem rdN_ok (a r : Int) : FnE Tryz.prog 92 [I a, I r, .c (.slice none 0 0)] [] (.agg (cyC ⟨1, a, r, []⟩)) [] := by
  refine N.fn Tryz.func92 k92 lb q92 fun Q hQ hQN => ?_
  rw [c92]
  repeat' (first
  | exact True.intro
  | refine fun (K : KT) hK => ?_
  | intro hcd
  | (refine go1 ?_ ?_ <;> try clear hK K)
  | fail)
  exact WS.gc [] 1 rfl rfl (Sub.cyN 1 a r)
theorem wrP_ok (a r : Int) (ss : List Stp) (n : Nat) : FnE Tryz.prog 129 [I a, I r, .psl 0 1 0 n] [⟨1, 4, ss.map stC⟩] (.agg [I 2, I a, I r, .psl 0 1 0 n]) [⟨1, 4, ss.map stC⟩] := by
  refine N.fn Tryz.func129 k129 lb q129 fun Q hQ hQN => ?_
  rw [c129]
  repeat' (first
  | exact True.intro
  | refine fun (K : KT) hK => ?_
  | intro hcd
  | (refine go1 ?_ ?_ <;> try clear hK K)
  | fail)
  exact WS.gc [0] 1 rfl (by first | rfl | (symm; unfold outH; simp only [List.map]; (repeat' (first | rfl | exact outB_bytes | exact outB_ints | exact outB_flat | refine consE ?_ ?_)); done)) .rfl
theorem wrN_ok (a r : Int) : FnE Tryz.prog 129 [I a, I r, .c (.slice none 0 0)] [] (.agg (cyC ⟨2, a, r, []⟩)) [] := by
  refine N.fn Tryz.func129 k129 lb q129 fun Q hQ hQN => ?_
  rw [c129]
  repeat' (first
  | exact True.intro
  | refine fun (K : KT) hK => ?_
  | intro hcd
  | (refine go1 ?_ ?_ <;> try clear hK K)
  | fail)
  exact WS.gc [] 1 rfl rfl (Sub.cyN 2 a r)
theorem noP_ok (ss : List Stp) (n : Nat) : FnE Tryz.prog 126 [.psl 0 1 0 n] [⟨1, 4, ss.map stC⟩] (.agg [I 0, I 0, I 0, .psl 0 1 0 n]) [⟨1, 4, ss.map stC⟩] := by
  refine N.fn Tryz.func126 k126 lb q126 fun Q hQ hQN => ?_
  rw [c126]
  repeat' (first
  | exact True.intro
  | refine fun (K : KT) hK => ?_
  | intro hcd
  | (refine go1 ?_ ?_ <;> try clear hK K)
  | fail)
  exact WS.gc [0] 1 rfl (by first | rfl | (symm; unfold outH; simp only [List.map]; (repeat' (first | rfl | exact outB_bytes | exact outB_ints | exact outB_flat | refine consE ?_ ?_)); done)) .rfl
theorem noN_ok : FnE Tryz.prog 126 [.c (.slice none 0 0)] [] (.agg (cyC ⟨0, 0, 0, []⟩)) [] := by
  refine N.fn Tryz.func126 k126 lb q126 fun Q hQ hQN => ?_
  rw [c126]
  repeat' (first
  | exact True.intro
  | refine fun (K : KT) hK => ?_
  | intro hcd
  | (refine go1 ?_ ?_ <;> try clear hK K)
  | fail)
  exact WS.gc [] 1 rfl rfl (Sub.cyN 0 0 0)
end Go.Proofs.YtolmklnijjfppaaGreat.Calc

