/- The law BitDecimals over numbers: six decimal digits tell a number below a million, and three of them suffice just below a thousand. No condition. -/
import Derived.Test.YtcgjmkbajjngaaaPBitDecimalsx1
import Derived.Test.YtcgjmkbajjngaaaBitsA
namespace Go.Proofs.Ytcgjmkbajjngaaa.Pure
open Go.RowKit Go.Proofs.Ytcgjmkbajjngaaa.PBitDecimals Go.Proofs.YtcgjmkbajjngaaaW.PrintWords Go.Proofs.YtcgjmkbajjngaaaW.PrintLast
open Go.Proofs.YtcgjmkbajjngaaaW.PrintMore Go.Proofs.Ytcgjmkbajjngaaa.BA

theorem bd_below (a n : Int) (h0 : 0 < n) (h1 : n ≤ 1000000) : bakemake_Below.f a n = some (a % n) := by
  have h2 := Int.emod_nonneg a (b := n) (by omega)
  have h3 := Int.emod_lt_of_pos a h0
  unfold bakemake_Below.f
  rw [if_neg (by omega)]
  have e : Int.tmod a n = a % n ∨ Int.tmod a n = a % n - n ∧ 0 < a % n := by
    rw [Int.tmod_eq_emod]
    have : ((n.natAbs : Nat) : Int) = n := by omega
    by_cases h : 0 ≤ a ∨ n ∣ a
    · left; simp [h]
    · right
      rw [if_neg h, this]
      refine ⟨rfl, ?_⟩
      have : a % n ≠ 0 := fun h' => h (.inr (Int.dvd_of_emod_eq_zero h'))
      omega
  rcases e with e | ⟨e, h4⟩
  · rw [e, if_neg (by omega)]
  · rw [e, if_pos (by omega)]
    congr 1
    unfold wrap64; omega

theorem bd_width (a : Int) (h0 : 0 ≤ a) (h1 : a ≤ 62) : bit_width.f a = some a := by
  unfold bit_width.f mx mn
  split <;> split <;> simp <;> omega
theorem bd_shl1 (w : Nat) (h : w ≤ 62) : wrap64 (shl .i64 1 w - 1) = 2 ^ w - 1 := by
  have h1 : (2 : Nat) ^ w ≤ 2 ^ 62 := Nat.pow_le_pow_right (by decide) h
  have h2 : (2 : Int) ^ w ≤ 2 ^ 62 := by exact_mod_cast h1
  have h3 : (0 : Int) < 2 ^ w := Int.pow_pos (by decide)
  have e : min (w : Int).toNat IntKind.i64.bits = w := by simp [IntKind.bits]; omega
  unfold shl
  rw [e, Int.one_mul, w63 _ (by omega) (by omega)]
  unfold wrap64; omega
theorem bd_low (n : Int) (w : Nat) (h : w ≤ 62) : bit_Low.f n (w : Int) = some (n % 2 ^ w) := by
  unfold bit_Low.f
  rw [bd_width _ (by omega) (by omega)]
  simp only [Option.bind_some]
  rw [if_pos (by omega), bd_shl1 w h, low_eq n w h]
theorem bd_and01 : Go.bits .and .i64 0 1 = 0 := by
  have := low_eq 0 1 (by decide)
  simpa using this
theorem bd_add (a b : Int) (w : Nat) (h : w ≤ 62) : bit_Add.f a b 0 w = some ((a % 2 ^ w + b % 2 ^ w) % 2 ^ w, (a % 2 ^ w + b % 2 ^ w) / 2 ^ w) := by
  unfold bit_Add.f
  have h1 : (2 : Nat) ^ w ≤ 2 ^ 62 := Nat.pow_le_pow_right (by decide) h
  have h2 : (2 : Int) ^ w ≤ 2 ^ 62 := by exact_mod_cast h1
  have h3 : (0 : Int) < 2 ^ w := Int.pow_pos (by decide)
  have ha0 := Int.emod_nonneg a (b := 2 ^ w) (by omega)
  have ha1 := Int.emod_lt_of_pos a h3
  have hb0 := Int.emod_nonneg b (b := 2 ^ w) (by omega)
  have hb1 := Int.emod_lt_of_pos b h3
  rw [bd_width _ (by omega) (by omega)]
  simp only [Option.bind_some]
  rw [bd_low a w h, bd_low b w h, bd_and01]
  simp only [Option.bind_some]
  generalize hA : a % 2 ^ w = A at *
  generalize hB : b % 2 ^ w = B at *
  have e : wrap64 (wrap64 (A + B) + 0) = A + B := by unfold wrap64; omega
  rw [e, bd_low _ w h]
  simp only [Option.bind_some]
  rw [if_pos (by omega)]
  have e2 : min (w : Int).toNat IntKind.i64.bits = w := by simp [IntKind.bits]; omega
  unfold shr
  rw [e2]
theorem bd_bits : bakekeep1_bits.f = some true := by
  unfold bakekeep1_bits.f
  have h := bd_add 200 100 8 (by decide)
  rw [show ((8 : Nat) : Int) = 8 from rfl] at h
  rw [h]
  decide +kernel

/-- The digits of a number from place i on, four bits each. -/
def dg : Nat → Nat → Nat
  | 0, _ => 0
  | k + 1, n => n % 10 + 16 * dg k (n / 10)
theorem dg_lt (k : Nat) : ∀ n, dg k n < 16 ^ k := by
  induction k with
  | zero => intro n; simp [dg]
  | succ k ih => intro n; have := ih (n / 10); simp only [dg, Nat.pow_succ]; omega
theorem dg_snoc (k : Nat) : ∀ n, dg (k + 1) n = dg k n + (n / 10 ^ k % 10) * 16 ^ k := by
  induction k with
  | zero => intro n; simp [dg]
  | succ k ih =>
    intro n
    rw [dg, ih, dg, Nat.pow_succ 10, Nat.pow_succ 16]
    have e : n / 10 / 10 ^ k = n / (10 ^ k * 10) := by rw [Nat.div_div_eq_div_mul, Nat.mul_comm]
    rw [e, Nat.mul_add, ← Nat.mul_assoc 16, Nat.mul_comm 16 (_ % 10), Nat.mul_assoc, Nat.mul_comm 16 (16 ^ k)]
    omega
theorem or_add (a b k : Nat) (ha : a < 2 ^ k) : a ||| b * 2 ^ k = a + b * 2 ^ k := by
  rw [Nat.or_comm, Nat.mul_comm, ← Nat.two_pow_add_eq_or_of_lt ha, Nat.add_comm]

theorem digits_l (m : Nat) (hm : m ≤ 15) (n0 : Nat) (hn : n0 < 2 ^ 62) (d : Nat) : ∀ (k i : Nat), i ≤ m → m - i = d → d < k →
    bit_Digits.l0 k ((n0 / 10 ^ i : Nat) : Int) ((dg i n0 : Nat) : Int) (m : Int) (i : Int) = some (((dg m n0 : Nat) : Int), ((n0 / 10 ^ m : Nat) : Int) == 0) := by
  induction d with
  | zero =>
    intro k i hi hd hk
    obtain ⟨k, rfl⟩ : ∃ j, k = j + 1 := ⟨k - 1, by omega⟩
    obtain rfl : i = m := by omega
    simp only [bit_Digits.l0]; rw [if_neg (by omega)]
  | succ d ih =>
    intro k i hi hd hk
    obtain ⟨k, rfl⟩ : ∃ j, k = j + 1 := ⟨k - 1, by omega⟩
    simp only [bit_Digits.l0]
    have a1 : i + 1 ≤ m := by omega
    have a2 : m - (i + 1) = d := by omega
    have a3 : d < k := by omega
    have w4 : wrap64 (4 * (i : Int)) = ((4 * i : Nat) : Int) := by unfold wrap64; omega
    rw [if_pos (by omega), w4, if_pos (by omega)]
    have hle : n0 / 10 ^ i ≤ n0 := Nat.div_le_self _ _
    have e1 : wrap64 (Int.tdiv ((n0 / 10 ^ i : Nat) : Int) 10) = ((n0 / 10 ^ (i + 1) : Nat) : Int) := by
      rw [Int.tdiv_eq_ediv_of_nonneg (Int.natCast_nonneg _), Nat.pow_succ, ← Nat.div_div_eq_div_mul]
      generalize n0 / 10 ^ i = q at *
      unfold wrap64; omega
    have e2 : Int.tmod ((n0 / 10 ^ i : Nat) : Int) 10 = ((n0 / 10 ^ i % 10 : Nat) : Int) := by
      rw [Int.tmod_eq_emod_of_nonneg (Int.natCast_nonneg _)]; simp
    have hp : (2 : Nat) ^ (4 * i) = 16 ^ i := by rw [Nat.pow_mul]
    have hq : (16 : Nat) ^ i ≤ 16 ^ 14 := Nat.pow_le_pow_right (by decide) (by omega)
    have hdl := dg_lt i n0
    have hr : n0 / 10 ^ i % 10 < 10 := Nat.mod_lt _ (by decide)
    have hb : n0 / 10 ^ i % 10 * 2 ^ (4 * i) < 2 ^ 63 := by
      rw [hp]
      have : n0 / 10 ^ i % 10 * 16 ^ i ≤ 9 * 16 ^ 14 := Nat.mul_le_mul (by omega) hq
      have h2 : 9 * 16 ^ 14 < 2 ^ 63 := by decide
      omega
    have e3 : shl .i64 ((n0 / 10 ^ i % 10 : Nat) : Int) ((4 * i : Nat) : Int) = ((n0 / 10 ^ i % 10 * 2 ^ (4 * i) : Nat) : Int) := by
      have e : min ((4 * i : Nat) : Int).toNat IntKind.i64.bits = 4 * i := by simp [IntKind.bits]; omega
      unfold shl
      rw [e, show (2 : Int) ^ (4 * i) = ((2 ^ (4 * i) : Nat) : Int) by simp, ← Int.natCast_mul]
      exact w63 _ (Int.natCast_nonneg _) (by exact_mod_cast hb)
    have e4 : wrap64 ((i : Int) + 1) = ((i + 1 : Nat) : Int) := by unfold wrap64; omega
    have hdl' : dg i n0 < 2 ^ 63 := by
      have : (16 : Nat) ^ 14 < 2 ^ 63 := by decide
      omega
    rw [e1, e2, e3, or_nat _ _ hdl' hb, e4, or_add _ _ _ (by rw [hp]; exact hdl), hp, ← dg_snoc]
    exact ih k (i + 1) a1 a2 a3

theorem digits_eq (n : Nat) (hn : n < 2 ^ 62) (m : Nat) (hm : m ≤ 15) (k : Nat) (hk : 16 < k) : bit_Digits.f k (n : Int) (m : Int) = some (((dg m n : Nat) : Int), ((n / 10 ^ m : Nat) : Int) == 0) := by
  unfold bit_Digits.f
  rw [if_neg (by omega)]
  have e : mx 0 (mn (m : Int) 15) = m := by unfold mx mn; split <;> split <;> omega
  rw [e]
  have := digits_l m hm n hn m k 0 (by omega) (by omega) (by omega)
  simpa [dg] using this

theorem dg_at (k : Nat) : ∀ n i, i < k → dg k n / 16 ^ i % 16 = n / 10 ^ i % 10 := by
  induction k with
  | zero => intro n i h; omega
  | succ k ih =>
    intro n i h
    cases i with
    | zero => simp only [dg, Nat.pow_zero, Nat.div_one]; omega
    | succ i =>
      have := ih (n / 10) i (by omega)
      have e : dg (k + 1) n / 16 = dg k (n / 10) := by simp only [dg]; omega
      rw [Nat.pow_succ, Nat.mul_comm, ← Nat.div_div_eq_div_mul, e, this, Nat.pow_succ, Nat.mul_comm, ← Nat.div_div_eq_div_mul]

theorem bd_get (n : Nat) (hn : n < 2 ^ 62) (i : Nat) (hi : i ≤ 14) : bit_Get.f (n : Int) ((4 * i : Nat) : Int) 4 = some ((n / 16 ^ i % 16 : Nat) : Int) := by
  unfold bit_Get.f bit_place.f
  rw [bd_width _ (by omega) (by omega)]
  simp only [Option.bind_some]
  have e : mx 0 (mn 4 (wrap64 (62 - ((4 * i : Nat) : Int)))) = 4 := by
    have : wrap64 (62 - ((4 * i : Nat) : Int)) = 62 - ((4 * i : Nat) : Int) := by unfold wrap64; omega
    rw [this]; unfold mx mn; split <;> split <;> omega
  have h62 := bd_low n 62 (by omega)
  rw [show ((62 : Nat) : Int) = 62 from rfl] at h62
  rw [e, h62]
  simp only [Option.bind_some]
  have hN : ((n : Int) % 2 ^ 62) = (n : Int) := by omega
  have e5 : shr .i64 (n : Int) ((4 * i : Nat) : Int) = ((n / 16 ^ i : Nat) : Int) := by
    have e : min ((4 * i : Nat) : Int).toNat IntKind.i64.bits = 4 * i := by simp [IntKind.bits]; omega
    unfold shr
    rw [e, Int.pow_mul]; simp
  have h4 := bd_low ((n / 16 ^ i : Nat) : Int) 4 (by omega)
  rw [show ((4 : Nat) : Int) = 4 from rfl] at h4
  rw [hN, if_pos (by omega), e5, h4]
  simp only [Option.bind_some]
  rfl

theorem number_l (n0 : Nat) (hn : n0 < 10 ^ 6) : ∀ (i k : Nat), i ≤ 6 → i < k →
    bit_Number.l0 k ((dg 6 n0 : Nat) : Int) ((n0 / 10 ^ i : Nat) : Int) ((i : Int) - 1) = some ((n0 : Int), true) := by
  intro i
  induction i with
  | zero =>
    intro k _ hk
    obtain ⟨k, rfl⟩ : ∃ j, k = j + 1 := ⟨k - 1, by omega⟩
    simp only [bit_Number.l0]; rw [if_neg (by omega)]; simp
  | succ i ih =>
    intro k hi hk
    obtain ⟨k, rfl⟩ : ∃ j, k = j + 1 := ⟨k - 1, by omega⟩
    simp only [bit_Number.l0]
    have e0 : ((i + 1 : Nat) : Int) - 1 = (i : Int) := by omega
    have e1 : wrap64 (4 * (i : Int)) = ((4 * i : Nat) : Int) := by unfold wrap64; omega
    have hl := dg_lt 6 n0
    rw [e0, if_pos (by omega), e1, bd_get _ (by omega) i (by omega)]
    simp only [Option.bind_some]
    rw [dg_at 6 n0 i (by omega), if_neg (by omega)]
    have e2 : wrap64 (wrap64 (((n0 / 10 ^ (i + 1) : Nat) : Int) * 10) + ((n0 / 10 ^ i % 10 : Nat) : Int)) = ((n0 / 10 ^ i : Nat) : Int) := by
      rw [Nat.pow_succ, ← Nat.div_div_eq_div_mul]
      have : n0 / 10 ^ i ≤ n0 := Nat.div_le_self _ _
      generalize n0 / 10 ^ i = q at *
      unfold wrap64; omega
    have e3 : wrap64 ((i : Int) - 1) = (i : Int) - 1 := by unfold wrap64; omega
    rw [e2, e3]
    exact ih k (by omega) (by omega)

theorem BitDecimals : bakekeep1_BitDecimals.Pure := by
  intro a _
  refine ⟨17, ?_⟩
  unfold bakekeep1_BitDecimals.f
  rw [bd_below a 1000000 (by decide) (by decide)]
  simp only [Option.bind_some]
  obtain ⟨n, hn, hn1⟩ : ∃ n : Nat, a % 1000000 = (n : Int) ∧ n < 1000000 := ⟨(a % 1000000).toNat, by omega, by omega⟩
  rw [hn]
  have h6 := digits_eq n (by omega) 6 (by decide) 17 (by decide)
  have h3 := digits_eq n (by omega) 3 (by decide) 17 (by decide)
  rw [show ((6 : Nat) : Int) = 6 from rfl] at h6
  rw [show ((3 : Nat) : Int) = 3 from rfl] at h3
  have hm : bit_Number.f 17 ((dg 6 n : Nat) : Int) 6 = some ((n : Int), true) := by
    unfold bit_Number.f
    have := number_l n (by omega) 6 17 (by omega) (by omega)
    have e : mx 0 (mn 6 15) - 1 = ((6 : Nat) : Int) - 1 := by decide
    have z : n / 10 ^ 6 = 0 := by omega
    rw [z] at this
    rw [e]; exact this
  rw [h6, h3]
  simp only [Option.bind_some]
  rw [hm]
  simp only [Option.bind_some]
  rw [bd_bits]
  simp only [Option.bind_some, if_true]
  have z : n / 10 ^ 6 = 0 := by omega
  rw [z]
  have e : (((n / 10 ^ 3 : Nat) : Int) == 0) = decide ((n : Int) < 1000) := by
    rw [Bool.eq_iff_iff]; simp; omega
  rw [e]; simp
end Go.Proofs.Ytcgjmkbajjngaaa.Pure
