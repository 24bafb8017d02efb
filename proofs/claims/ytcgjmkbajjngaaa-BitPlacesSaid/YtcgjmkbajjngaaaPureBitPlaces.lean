/- The law BitPlaces over numbers: a field of a number has what is put into it, and all other bits stay. No condition. -/
import Derived.Test.YtcgjmkbajjngaaaPBitPlacesx1
import Derived.Test.YtcgjmkbajjngaaaBitsA
namespace Go.Proofs.Ytcgjmkbajjngaaa.Pure
open Go.RowKit Go.Proofs.Ytcgjmkbajjngaaa.PBitPlaces Go.Proofs.YtcgjmkbajjngaaaW.PrintWords Go.Proofs.YtcgjmkbajjngaaaW.PrintLast
open Go.Proofs.YtcgjmkbajjngaaaW.PrintMore Go.Proofs.Ytcgjmkbajjngaaa.BA

theorem bp_below (a n : Int) (h0 : 0 < n) (h1 : n ≤ 1000000) : bakemake_Below.f a n = some (a % n) := by
  have h2 := Int.emod_nonneg a (b := n) (by omega)
  have h3 := Int.emod_lt_of_pos a h0
  unfold bakemake_Below.f
  rw [if_neg (by omega)]
  have e : Int.tmod a n = a % n ∨ Int.tmod a n = a % n - n ∧ 0 < a % n := by
    rw [Int.tmod_eq_emod]
    have : ((n.natAbs : Nat) : Int) = n := by omega
    by_cases h : 0 ≤ a ∨ n ∣ a
    · left; simp [h]
    · right
      rw [if_neg h, this]
      refine ⟨rfl, ?_⟩
      have : a % n ≠ 0 := fun h' => h (.inr (Int.dvd_of_emod_eq_zero h'))
      omega
  rcases e with e | ⟨e, h4⟩
  · rw [e, if_neg (by omega)]
  · rw [e, if_pos (by omega)]
    congr 1
    unfold wrap64; omega

theorem bp_width (a : Int) (h0 : 0 ≤ a) (h1 : a ≤ 62) : bit_width.f a = some a := by
  unfold bit_width.f mx mn
  split <;> split <;> simp <;> omega
theorem bp_shl1 (w : Nat) (h : w ≤ 62) : wrap64 (shl .i64 1 w - 1) = 2 ^ w - 1 := by
  have h1 : (2 : Nat) ^ w ≤ 2 ^ 62 := Nat.pow_le_pow_right (by decide) h
  have h2 : (2 : Int) ^ w ≤ 2 ^ 62 := by exact_mod_cast h1
  have h3 : (0 : Int) < 2 ^ w := Int.pow_pos (by decide)
  have e : min (w : Int).toNat IntKind.i64.bits = w := by simp [IntKind.bits]; omega
  unfold shl
  rw [e, Int.one_mul, w63 _ (by omega) (by omega)]
  unfold wrap64; omega
theorem bp_low (n : Int) (w : Nat) (h : w ≤ 62) : bit_Low.f n (w : Int) = some (n % 2 ^ w) := by
  unfold bit_Low.f
  rw [bp_width _ (by omega) (by omega)]
  simp only [Option.bind_some]
  rw [if_pos (by omega), bp_shl1 w h, low_eq n w h]

/-- The Nat of the lowest 62 bits. -/
def N62 (n : Int) : Nat := (n % 2 ^ 62).toNat
theorem N62_lt (n : Int) : N62 n < 2 ^ 62 := by unfold N62; omega
theorem N62_eq (n : Int) : ((N62 n : Nat) : Int) = n % 2 ^ 62 := by unfold N62; omega

theorem bp_place (at_ size : Nat) (h : at_ ≤ 62) : bit_place.f at_ size = some ((at_ : Int), ((min size (62 - at_) : Nat) : Int)) := by
  unfold bit_place.f
  rw [bp_width _ (by omega) (by omega)]
  simp only [Option.bind_some]
  have : wrap64 (62 - at_) = 62 - at_ := by unfold wrap64; omega
  rw [this]
  unfold mx mn
  congr 2
  split <;> split <;> omega

theorem bp_shr (a b : Nat) (h : b ≤ 62) : shr .i64 (a : Int) (b : Int) = ((a / 2 ^ b : Nat) : Int) := by
  have e : min (b : Int).toNat IntKind.i64.bits = b := by simp [IntKind.bits]; omega
  unfold shr
  rw [e]; simp

theorem bp_get (n : Int) (at_ size : Nat) (h : at_ ≤ 62) : bit_Get.f n at_ size = some ((N62 n / 2 ^ at_ % 2 ^ (min size (62 - at_)) : Nat) : Int) := by
  unfold bit_Get.f
  rw [bp_place at_ size h]
  simp only [Option.bind_some]
  have := bp_low n 62 (by omega)
  rw [show ((62 : Nat) : Int) = 62 from rfl] at this
  rw [this, ← N62_eq]
  simp only [Option.bind_some]
  rw [if_pos (by omega), bp_shr _ _ h, bp_low _ _ (by omega)]
  simp

theorem bp_put (n v : Int) (at_ size : Nat) (h : at_ + size ≤ 62) :
    ∃ m : Nat, m < 2 ^ 62 ∧ bit_Put.f n at_ size v = some (m : Int) ∧
      ∀ i, m.testBit i = if at_ ≤ i ∧ i < at_ + size then (v % 2 ^ size).toNat.testBit (i - at_) else (N62 n).testBit i := by
  have hN := N62_lt n
  have hs : (2 : Nat) ^ size ≤ 2 ^ 62 := Nat.pow_le_pow_right (by decide) (by omega)
  have hs0 : 0 < 2 ^ size := Nat.two_pow_pos size
  have hv0 := Int.emod_nonneg v (b := 2 ^ size) (by have := Int.pow_pos (n := 2) (m := size) (by decide); omega)
  have hv1 := Int.emod_lt_of_pos v (b := 2 ^ size) (Int.pow_pos (by decide))
  obtain ⟨u, hu⟩ : ∃ u : Nat, v % 2 ^ size = (u : Int) := ⟨(v % 2 ^ size).toNat, by omega⟩
  have hu1 : u < 2 ^ size := by rw [hu] at hv1; exact_mod_cast hv1
  have hmul : 2 ^ size * 2 ^ at_ = 2 ^ (at_ + size) := by rw [← Nat.pow_add, Nat.add_comm]
  have hlt : 2 ^ (at_ + size) ≤ 2 ^ 62 := Nat.pow_le_pow_right (by decide) h
  have hM : (2 ^ size - 1) * 2 ^ at_ < 2 ^ 62 := by
    have : (2 ^ size - 1) * 2 ^ at_ < 2 ^ size * 2 ^ at_ := Nat.mul_lt_mul_of_pos_right (by omega) (Nat.two_pow_pos _)
    omega
  have hU : u * 2 ^ at_ < 2 ^ 62 := by
    have : u * 2 ^ at_ < 2 ^ size * 2 ^ at_ := Nat.mul_lt_mul_of_pos_right hu1 (Nat.two_pow_pos _)
    omega
  refine ⟨andn (N62 n) ((2 ^ size - 1) * 2 ^ at_) ||| u * 2 ^ at_, Nat.or_lt_two_pow (andn_le _ _ _ hN) hU, ?_, ?_⟩
  · unfold bit_Put.f
    rw [bp_place at_ size (by omega)]
    simp only [Option.bind_some]
    have hmin : min size (62 - at_) = size := by omega
    rw [hmin, if_pos (by omega), if_pos (by omega)]
    have h62 := bp_low n 62 (by omega)
    rw [show ((62 : Nat) : Int) = 62 from rfl] at h62
    rw [h62, ← N62_eq, bp_low v size (by omega), hu, bp_shl1 size (by omega)]
    simp only [Option.bind_some]
    have e1 : shl .i64 (2 ^ size - 1) (at_ : Int) = (((2 ^ size - 1) * 2 ^ at_ : Nat) : Int) := by
      have e : min (at_ : Int).toNat IntKind.i64.bits = at_ := by simp [IntKind.bits]; omega
      unfold shl
      rw [e]
      have : ((2 : Int) ^ size - 1) = ((2 ^ size - 1 : Nat) : Int) := by rw [Int.natCast_sub hs0]; simp
      rw [this, show (2 : Int) ^ at_ = ((2 ^ at_ : Nat) : Int) by simp, ← Int.natCast_mul]
      exact w63 _ (Int.natCast_nonneg _) (by exact_mod_cast (show (2 ^ size - 1) * 2 ^ at_ < 2 ^ 63 by omega))
    have e2 : shl .i64 (u : Int) (at_ : Int) = ((u * 2 ^ at_ : Nat) : Int) := by
      have e : min (at_ : Int).toNat IntKind.i64.bits = at_ := by simp [IntKind.bits]; omega
      unfold shl
      rw [e, show (2 : Int) ^ at_ = ((2 ^ at_ : Nat) : Int) by simp, ← Int.natCast_mul]
      exact w63 _ (Int.natCast_nonneg _) (by exact_mod_cast (show u * 2 ^ at_ < 2 ^ 63 by omega))
    rw [e1, e2, andn_nat _ _ (by omega) (by omega), or_nat _ _ (Nat.lt_of_lt_of_le (andn_le _ _ 62 hN) (by decide)) (by omega)]
  · intro i
    have e3 : (v % 2 ^ size).toNat = u := by omega
    rw [e3, Nat.testBit_or, andn_bit, Nat.testBit_mul_two_pow, Nat.testBit_mul_two_pow, Nat.testBit_two_pow_sub_one]
    by_cases h1 : at_ ≤ i
    · by_cases h2 : i < at_ + size
      · rw [if_pos ⟨h1, h2⟩]
        have : i - at_ < size := by omega
        simp [h1, this]
      · rw [if_neg (by omega)]
        have h3 : ¬ i - at_ < size := by omega
        have h4 : u.testBit (i - at_) = false := Nat.testBit_lt_two_pow (Nat.lt_of_lt_of_le hu1 (Nat.pow_le_pow_right (by decide) (by omega)))
        simp [h1, h3, h4]
    · rw [if_neg (by omega)]
      simp [h1]

theorem div_mod_bit (a k s i : Nat) : (a / 2 ^ k % 2 ^ s).testBit i = (decide (i < s) && a.testBit (k + i)) := by
  rw [Nat.testBit_mod_two_pow, Nat.testBit_div_two_pow]
  rw [Nat.add_comm]

theorem bp_and01 : Go.bits .and .i64 0 1 = 0 := by
  have := low_eq 0 1 (by decide)
  simpa using this
theorem bp_add (a b : Int) (w : Nat) (h : w ≤ 62) : bit_Add.f a b 0 w = some ((a % 2 ^ w + b % 2 ^ w) % 2 ^ w, (a % 2 ^ w + b % 2 ^ w) / 2 ^ w) := by
  unfold bit_Add.f
  have h1 : (2 : Nat) ^ w ≤ 2 ^ 62 := Nat.pow_le_pow_right (by decide) h
  have h2 : (2 : Int) ^ w ≤ 2 ^ 62 := by exact_mod_cast h1
  have h3 : (0 : Int) < 2 ^ w := Int.pow_pos (by decide)
  have ha0 := Int.emod_nonneg a (b := 2 ^ w) (by omega)
  have ha1 := Int.emod_lt_of_pos a h3
  have hb0 := Int.emod_nonneg b (b := 2 ^ w) (by omega)
  have hb1 := Int.emod_lt_of_pos b h3
  rw [bp_width _ (by omega) (by omega)]
  simp only [Option.bind_some]
  rw [bp_low a w h, bp_low b w h, bp_and01]
  simp only [Option.bind_some]
  generalize hA : a % 2 ^ w = A at *
  generalize hB : b % 2 ^ w = B at *
  have e : wrap64 (wrap64 (A + B) + 0) = A + B := by unfold wrap64; omega
  rw [e, bp_low _ w h]
  simp only [Option.bind_some]
  rw [if_pos (by omega)]
  have e2 : min (w : Int).toNat IntKind.i64.bits = w := by simp [IntKind.bits]; omega
  unfold shr
  rw [e2]
theorem bp_bits : bakekeep1_bits.f = some true := by
  unfold bakekeep1_bits.f
  have h := bp_add 200 100 8 (by decide)
  rw [show ((8 : Nat) : Int) = 8 from rfl] at h
  rw [h]
  decide +kernel

theorem N62_nat (m : Nat) (h : m < 2 ^ 62) : N62 (m : Int) = m := by unfold N62; omega

theorem BitPlaces : bakekeep1_BitPlaces.Pure := by
  intro n a b v _ _ _ _
  unfold bakekeep1_BitPlaces.f
  rw [bp_below a 50 (by decide) (by decide), bp_below b 12 (by decide) (by decide)]
  simp only [Option.bind_some]
  obtain ⟨at_, hat, hat1⟩ : ∃ k : Nat, a % 50 = (k : Int) ∧ k < 50 := ⟨(a % 50).toNat, by omega, by omega⟩
  obtain ⟨size, hsz, hsz1⟩ : ∃ k : Nat, b % 12 = (k : Int) ∧ k < 12 := ⟨(b % 12).toNat, by omega, by omega⟩
  rw [hat, hsz]
  obtain ⟨m, hm, e, hbit⟩ := bp_put n v at_ size (by omega)
  rw [e]
  simp only [Option.bind_some]
  rw [bp_bits]
  simp only [Option.bind_some, if_true]
  have hw : wrap64 ((at_ : Int) + size) = ((at_ + size : Nat) : Int) := by unfold wrap64; omega
  rw [hw, bp_get _ at_ size (by omega), bp_low v size (by omega)]
  have g0 (n : Int) := bp_get n 0 at_ (by omega)
  have g1 (n : Int) := bp_get n (at_ + size) 62 (by omega)
  rw [show ((0 : Nat) : Int) = 0 from rfl] at g0
  rw [show ((62 : Nat) : Int) = 62 from rfl] at g1
  rw [g0, g0, g1, g1]
  simp only [Option.bind_some]
  rw [N62_nat m hm]
  have hv0 := Int.emod_nonneg v (b := 2 ^ size) (by have := Int.pow_pos (n := 2) (m := size) (by decide); omega)
  have hv1 := Int.emod_lt_of_pos v (b := 2 ^ size) (Int.pow_pos (by decide))
  have c1 : ((m / 2 ^ at_ % 2 ^ min size (62 - at_) : Nat) : Int) = v % 2 ^ size := by
    have hv2 : (v % 2 ^ size).toNat < 2 ^ size := by
      have : (((v % 2 ^ size).toNat : Nat) : Int) < ((2 ^ size : Nat) : Int) := by rw [Int.toNat_of_nonneg hv0]; simpa using hv1
      exact_mod_cast this
    have : m / 2 ^ at_ % 2 ^ min size (62 - at_) = (v % 2 ^ size).toNat := by
      apply Nat.eq_of_testBit_eq; intro i
      rw [div_mod_bit, hbit]
      by_cases hi : i < size
      · rw [if_pos (by omega)]
        have : i < min size (62 - at_) := by omega
        simp [this]
      · have h1 : ¬ i < min size (62 - at_) := by omega
        have h2 : (v % 2 ^ size).toNat.testBit i = false := Nat.testBit_lt_two_pow (Nat.lt_of_lt_of_le hv2 (Nat.pow_le_pow_right (by decide) (by omega)))
        simp [h1, h2]
    rw [this]; omega
  have c2 : m / 2 ^ 0 % 2 ^ min at_ (62 - 0) = N62 n / 2 ^ 0 % 2 ^ min at_ (62 - 0) := by
    apply Nat.eq_of_testBit_eq; intro i
    rw [div_mod_bit, div_mod_bit, hbit]
    by_cases hi : i < at_
    · rw [if_neg (by omega)]
    · have : ¬ i < min at_ (62 - 0) := by omega
      simp [this]
  have c3 : m / 2 ^ (at_ + size) % 2 ^ min 62 (62 - (at_ + size)) = N62 n / 2 ^ (at_ + size) % 2 ^ min 62 (62 - (at_ + size)) := by
    apply Nat.eq_of_testBit_eq; intro i
    rw [div_mod_bit, div_mod_bit, hbit, if_neg (by omega)]
  rw [if_pos c1, c2, if_pos rfl, c3]
  simp
end Go.Proofs.Ytcgjmkbajjngaaa.Pure
