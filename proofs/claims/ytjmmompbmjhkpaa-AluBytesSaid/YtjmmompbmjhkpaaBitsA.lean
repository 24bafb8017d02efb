/- Plain lemmas on the bits of whole numbers: masks, or, xor, and-not of 64-bit numbers are those of natural numbers; bits in the opposite order; how many bits are 1. No condition beyond those in each lemma. -/
import Derived.Laws.BitsLemmas
import Derived.Laws.Wrap64
import Derived.RowKit
namespace Go.Proofs.Ytjmmompbmjhkpaa.BA
open Go Go.RowKit

theorem wrap_small (n : Int) (h0 : -9223372036854775808 ≤ n) (h1 : n < 9223372036854775808) : IntKind.i64.wrap n = n := by
  rw [IntKind.wrap_i64]; omega

theorem w63 (n : Int) (h0 : 0 ≤ n) (h1 : n < 2 ^ 63) : IntKind.i64.wrap n = n := by
  apply wrap_small <;> omega

theorem ofInt_nat (a : Nat) : BitVec.ofInt 64 (a : Int) = BitVec.ofNat 64 a := BitVec.ofInt_natCast _ _

theorem and_nat (a b : Nat) (ha : a < 2 ^ 63) (hb : b < 2 ^ 63) : bits .and .i64 a b = ((a &&& b : Nat) : Int) :=
  (bits_nat .i64 63 (by decide) w63 a b ha hb).1
theorem or_nat (a b : Nat) (ha : a < 2 ^ 63) (hb : b < 2 ^ 63) : bits .or .i64 a b = ((a ||| b : Nat) : Int) :=
  (bits_nat .i64 63 (by decide) w63 a b ha hb).2
theorem xor_nat (a b : Nat) (ha : a < 2 ^ 63) (hb : b < 2 ^ 63) : bits .xor .i64 a b = ((a ^^^ b : Nat) : Int) := by
  have ha' : a % 2 ^ 64 = a := Nat.mod_eq_of_lt (by omega)
  have hb' : b % 2 ^ 64 = b := Nat.mod_eq_of_lt (by omega)
  show IntKind.i64.wrap ((BitVec.ofInt 64 (a : Int) ^^^ BitVec.ofInt 64 (b : Int)).toNat : Nat) = _
  rw [BitVec.ofInt_natCast, BitVec.ofInt_natCast, BitVec.toNat_xor, BitVec.toNat_ofNat, BitVec.toNat_ofNat, ha', hb']
  exact w63 _ (Int.natCast_nonneg _) (by exact_mod_cast Nat.xor_lt_two_pow ha hb)

/-- a &^ b -/
def andn (a b : Nat) : Nat := a ^^^ (a &&& b)
theorem andn_bit (a b i : Nat) : (andn a b).testBit i = (a.testBit i && !b.testBit i) := by
  simp only [andn, Nat.testBit_xor, Nat.testBit_and]
  cases a.testBit i <;> cases b.testBit i <;> rfl
theorem andn_le (a b : Nat) (n : Nat) (ha : a < 2 ^ n) : andn a b < 2 ^ n := by
  unfold andn; exact Nat.xor_lt_two_pow ha (Nat.lt_of_le_of_lt Nat.and_le_left ha)
theorem andn_nat (a b : Nat) (ha : a < 2 ^ 63) (_hb : b < 2 ^ 63) : bits .andNot .i64 a b = ((andn a b : Nat) : Int) := by
  have e : (BitVec.ofNat 64 a &&& ~~~ BitVec.ofNat 64 b).toNat = andn a b := by
    apply Nat.eq_of_testBit_eq; intro i
    rw [andn_bit]
    rw [BitVec.testBit_toNat, BitVec.getLsbD_and, BitVec.getLsbD_not]
    simp only [BitVec.getLsbD_ofNat]
    by_cases h : i < 64
    · simp [h]
    · have : a.testBit i = false := Nat.testBit_lt_two_pow (Nat.lt_of_lt_of_le ha (Nat.pow_le_pow_right (by decide) (by omega)))
      simp [h, this]
  show IntKind.i64.wrap ((BitVec.ofInt 64 (a : Int) &&& ~~~ BitVec.ofInt 64 (b : Int)).toNat : Nat) = _
  rw [BitVec.ofInt_natCast, BitVec.ofInt_natCast, e]
  exact w63 _ (Int.natCast_nonneg _) (by exact_mod_cast andn_le a b 63 ha)

/-- any number and a mask -/
theorem low_eq (n : Int) (w : Nat) (hw : w ≤ 62) : bits .and .i64 n (2 ^ w - 1) = n % 2 ^ w := by
  have hpos : 0 < 2 ^ w := Nat.two_pow_pos w
  have hlt : 2 ^ w ≤ 2 ^ 62 := Nat.pow_le_pow_right (by decide) hw
  have hc : ((2 : Int) ^ w - 1) = ((2 ^ w - 1 : Nat) : Int) := by rw [Int.natCast_sub hpos]; simp
  rw [hc]
  have hm : (2 ^ w - 1) % 2 ^ 64 = 2 ^ w - 1 := Nat.mod_eq_of_lt (by omega)
  have hd : (2 ^ w : Nat) ∣ 2 ^ 64 := Nat.pow_dvd_pow 2 (by omega)
  show IntKind.i64.wrap ((BitVec.ofInt 64 n &&& BitVec.ofInt 64 ((2 ^ w - 1 : Nat) : Int)).toNat : Nat) = _
  rw [BitVec.ofInt_natCast, BitVec.toNat_and, BitVec.toNat_ofInt, BitVec.toNat_ofNat, hm, Nat.and_two_pow_sub_one_eq_mod]
  have e : (((n % ((2 ^ 64 : Nat) : Int)).toNat % 2 ^ w : Nat) : Int) = n % 2 ^ w := by
    rw [Int.natCast_emod, Int.toNat_of_nonneg (Int.emod_nonneg _ (by decide))]
    rw [Int.emod_emod_of_dvd _ (by exact_mod_cast hd)]
    simp
  rw [e]
  have h2 : (0 : Int) < 2 ^ w := by exact_mod_cast hpos
  have h3 := Int.emod_nonneg n (b := 2 ^ w) (by omega)
  have h4 := Int.emod_lt_of_pos n h2
  have h5 : (2 : Int) ^ w ≤ 2 ^ 62 := by exact_mod_cast hlt
  exact w63 _ h3 (by omega)

/-! ### Turned bits, counted bits -/
/-- bit i of a number -/
def bitAt (n : Int) (i : Nat) : Nat := (n / 2 ^ i % 2).toNat
theorem bitAt_lt (n : Int) (i : Nat) : bitAt n i < 2 := by
  unfold bitAt
  have := Int.emod_lt_of_pos (n / 2 ^ i) (b := 2) (by decide)
  have := Int.emod_nonneg (n / 2 ^ i) (b := 2) (by decide)
  omega
theorem bitAt_cast (n : Int) (i : Nat) : ((bitAt n i : Nat) : Int) = n / 2 ^ i % 2 := by
  unfold bitAt
  have := Int.emod_nonneg (n / 2 ^ i) (b := 2) (by decide)
  omega
/-- the first w bits in the opposite order -/
def rev : Nat → Int → Nat
  | 0, _ => 0
  | w + 1, n => 2 * rev w n + bitAt n w
/-- the first w bits -/
def lo : Nat → Int → Nat
  | 0, _ => 0
  | w + 1, n => lo w n + bitAt n w * 2 ^ w
def pc : Nat → Int → Nat
  | 0, _ => 0
  | w + 1, n => pc w n + bitAt n w
theorem lo_lt (w : Nat) (n : Int) : lo w n < 2 ^ w := by
  induction w with
  | zero => simp [lo]
  | succ w ih =>
    have := bitAt_lt n w
    have : bitAt n w = 0 ∨ bitAt n w = 1 := by omega
    simp only [lo, Nat.pow_succ]
    rcases this with h | h <;> rw [h] <;> omega
theorem rev_lt (w : Nat) (n : Int) : rev w n < 2 ^ w := by
  induction w with
  | zero => simp [rev]
  | succ w ih =>
    have := bitAt_lt n w
    simp only [rev, Nat.pow_succ]; omega
theorem lo_eq (w : Nat) (n : Int) : ((lo w n : Nat) : Int) = n % 2 ^ w := by
  induction w with
  | zero => simp [lo, Int.emod_one]
  | succ w ih =>
    simp only [lo]
    rw [Int.natCast_add, Int.natCast_mul, ih, bitAt_cast, Int.natCast_pow, Int.pow_succ]
    have h := Int.emod_add_mul_ediv n (2 ^ w)
    have hq := Int.emod_add_mul_ediv (n / 2 ^ w) 2
    have hp : (0 : Int) < 2 ^ w := Int.pow_pos (by decide)
    have h0 := Int.emod_nonneg n (b := 2 ^ w) (by omega)
    have h1 := Int.emod_lt_of_pos n hp
    have h2 := Int.emod_nonneg (n / 2 ^ w) (b := 2) (by decide)
    have h3 := Int.emod_lt_of_pos (n / 2 ^ w) (b := 2) (by decide)
    generalize hr : n % 2 ^ w = r at *
    generalize hb : n / 2 ^ w % 2 = b at *
    generalize hc : n / 2 ^ w / 2 = c at *
    generalize he : n / 2 ^ w = e at *
    generalize (2 : Int) ^ w = p at *
    have e1 : n = (r + b * p) + (p * 2) * c := by
      rw [← h, ← hq, Int.mul_add]
      have : p * (2 * c) = p * 2 * c := by rw [Int.mul_assoc]
      rw [this, Int.mul_comm p b]; omega
    rw [e1, Int.add_mul_emod_self_left]
    symm
    apply Int.emod_eq_of_lt
    · have : 0 ≤ b * p := Int.mul_nonneg h2 (by omega)
      omega
    · have : b = 0 ∨ b = 1 := by omega
      rcases this with h | h <;> rw [h] <;> omega
theorem bitAt_two (m b i : Nat) (hb : b < 2) : bitAt ((2 * m + b : Nat) : Int) (i + 1) = bitAt (m : Int) i := by
  unfold bitAt
  congr 2
  have h2 : (0 : Int) < 2 ^ i := Int.pow_pos (by decide)
  rw [Int.pow_succ, Int.mul_comm, ← Int.ediv_ediv_of_nonneg (by decide)]
  congr 1
  omega
theorem bitAt_zero (m b : Nat) (hb : b < 2) : bitAt ((2 * m + b : Nat) : Int) 0 = b := by
  unfold bitAt; simp; omega
theorem pc_two (w m b : Nat) (hb : b < 2) : pc (w + 1) ((2 * m + b : Nat) : Int) = b + pc w (m : Int) := by
  induction w with
  | zero => simp only [pc]; rw [bitAt_zero m b hb]; omega
  | succ w ih => rw [pc, ih, bitAt_two m b w hb, pc]; omega
theorem lo_two (w m b : Nat) (hb : b < 2) : lo (w + 1) ((2 * m + b : Nat) : Int) = b + 2 * lo w (m : Int) := by
  induction w with
  | zero => simp only [lo]; rw [bitAt_zero m b hb]; omega
  | succ w ih => rw [lo, ih, bitAt_two m b w hb, lo, Nat.pow_succ, Nat.mul_add]; rw [← Nat.mul_assoc, Nat.mul_comm 2 (bitAt _ w * 2 ^ w)]; rw [Nat.mul_assoc]; omega
theorem rev_two (w m b : Nat) (hb : b < 2) : rev (w + 1) ((2 * m + b : Nat) : Int) = b * 2 ^ w + rev w (m : Int) := by
  induction w with
  | zero => simp only [rev]; rw [bitAt_zero m b hb]; omega
  | succ w ih => rw [rev, ih, bitAt_two m b w hb, rev, Nat.pow_succ]; rw [Nat.mul_add, ← Nat.mul_assoc, Nat.mul_comm 2 b, Nat.mul_assoc, Nat.mul_comm 2 (2 ^ w)]; omega
theorem pc_rev (w : Nat) (n : Int) : pc w ((rev w n : Nat) : Int) = pc w n := by
  induction w with
  | zero => rfl
  | succ w ih => rw [rev, pc_two _ _ _ (bitAt_lt n w), ih, pc]; omega
theorem rev_rev (w : Nat) (n : Int) : rev w ((rev w n : Nat) : Int) = lo w n := by
  induction w with
  | zero => rfl
  | succ w ih =>
    show rev (w + 1) ((2 * rev w n + bitAt n w : Nat) : Int) = _
    rw [rev_two _ _ _ (bitAt_lt n w), ih, lo]; omega
theorem bitAt_hi (n i w : Nat) (hn : n < 2 ^ w) (hi : w ≤ i) : bitAt (n : Int) i = 0 := by
  unfold bitAt
  have : n / 2 ^ i = 0 := Nat.div_eq_of_lt (Nat.lt_of_lt_of_le hn (Nat.pow_le_pow_right (by decide) hi))
  have e : ((n : Int) / 2 ^ i) = ((n / 2 ^ i : Nat) : Int) := by simp
  rw [e, this]; rfl
theorem pc_hi (n w k : Nat) (hn : n < 2 ^ w) : pc (w + k) (n : Int) = pc w n := by
  induction k with
  | zero => rfl
  | succ k ih => rw [← Nat.add_assoc, pc, ih, bitAt_hi n (w + k) w hn (by omega)]; rfl
/-- the first w bits of n are those of lo w n -/
theorem pc_lo (w : Nat) (n : Int) : pc w ((lo w n : Nat) : Int) = pc w n := by
  rw [← rev_rev, pc_rev, pc_rev]
theorem pc_mono (w : Nat) (n : Int) : pc w n ≤ w := by
  induction w with
  | zero => simp [pc]
  | succ w ih => have := bitAt_lt n w; simp only [pc]; omega
/-- n & (n - 1) has one bit less -/
theorem pc_clear (w : Nat) : ∀ n : Nat, 0 < n → n < 2 ^ w → pc w ((n &&& (n - 1) : Nat) : Int) + 1 = pc w (n : Int) := by
  induction w with
  | zero => intro n h0 h1; simp at h1; omega
  | succ w ih =>
    intro n h0 h1
    rw [Nat.pow_succ] at h1
    obtain ⟨m, b, hb, rfl⟩ : ∃ m b, b < 2 ∧ n = 2 * m + b := ⟨n / 2, n % 2, Nat.mod_lt _ (by decide), by omega⟩
    have hb' : b = 0 ∨ b = 1 := by omega
    rcases hb' with rfl | rfl
    · have hm : 0 < m := by omega
      have e : (2 * m + 0) &&& (2 * m + 0 - 1) = 2 * (m &&& (m - 1)) + 0 := by
        apply Nat.eq_of_testBit_eq; intro i
        cases i with
        | zero => simp
        | succ i =>
          have h2 : (2 * m + 0 - 1) / 2 = m - 1 := by omega
          have h1 : (2 * m + 0) / 2 = m := by omega
          have h3 : (2 * (m &&& (m - 1)) + 0) / 2 = m &&& (m - 1) := by omega
          rw [Nat.testBit_and, Nat.testBit_succ, Nat.testBit_succ, Nat.testBit_succ, h1, h2, h3, Nat.testBit_and]
      rw [e, pc_two _ _ _ (by decide), pc_two _ _ _ (by decide)]
      have := ih m hm (by omega)
      omega
    · have e : (2 * m + 1) &&& (2 * m + 1 - 1) = 2 * m + 0 := by
        apply Nat.eq_of_testBit_eq; intro i
        cases i with
        | zero => simp
        | succ i =>
          have h1 : (2 * m + 1) / 2 = m := by omega
          have h2 : (2 * m + 1 - 1) / 2 = m := by omega
          have h3 : (2 * m + 0) / 2 = m := by omega
          rw [Nat.testBit_and, Nat.testBit_succ, Nat.testBit_succ, Nat.testBit_succ, h1, h2, h3, Bool.and_self]
      rw [e, pc_two _ _ _ (by decide), pc_two _ _ _ (by decide)]
      omega
theorem pc_zero (w : Nat) : pc w 0 = 0 := by
  induction w with
  | zero => rfl
  | succ w ih => simp [pc, ih, bitAt]
end Go.Proofs.Ytjmmompbmjhkpaa.BA
