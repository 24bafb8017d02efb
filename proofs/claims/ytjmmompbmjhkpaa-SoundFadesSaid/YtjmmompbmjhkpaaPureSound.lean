/- Plain lemmas on a voice of the sound chip: some cycles at once are as many single cycles. Condition: the voice's numbers fit. -/
import Derived.RowKit
namespace Go.Proofs.Ytjmmompbmjhkpaa.Calc
/-- A voice: period, volume, rate, count, phase, wait. -/
structure Vo where
  p : Int
  v : Int
  r : Int
  c : Int
  f : Int
  w : Int
def Vo.list (x : Vo) : List Int := [x.p, x.v, x.r, x.c, x.f, x.w]
def Vo.Ok (x : Vo) : Prop := (0 ≤ x.p ∧ x.p < 4096) ∧ (0 ≤ x.v ∧ x.v < 16) ∧ (0 ≤ x.r ∧ x.r < 256) ∧ (0 ≤ x.c ∧ x.c < 4096) ∧ (0 ≤ x.f ∧ x.f < 2) ∧ (0 ≤ x.w ∧ x.w < 16384)
/-- k cycles, in which the voice at most turns and fades in the last one. -/
def Vo.pass (x : Vo) (k : Int) : Vo where
  p := x.p
  v := if 0 < x.r ∧ 0 < x.v then (if x.r * 64 ≤ x.w + k then x.v - 1 else x.v) else x.v
  r := x.r
  c := if 0 < x.p then (if x.p ≤ x.c + k then 0 else x.c + k) else x.c
  f := if 0 < x.p then (if x.p ≤ x.c + k then 1 - x.f else x.f) else x.f
  w := if 0 < x.r ∧ 0 < x.v then (if x.r * 64 ≤ x.w + k then 0 else x.w + k) else x.w
def Vo.quiet (x : Vo) : Int :=
  let a := if 0 < x.p then min 100000 (max 1 (x.p - x.c) - 1) else 100000
  if 0 < x.r ∧ 0 < x.v then min a (max 1 (x.r * 64 - x.w) - 1) else a
def Vo.ticks : Nat → Vo → Vo
  | 0, x => x
  | n + 1, x => Vo.ticks n (x.pass 1)
theorem Vo.ticks_succ (n : Nat) : ∀ x : Vo, Vo.ticks (n + 1) x = (Vo.ticks n x).pass 1 := by
  induction n with
  | zero => intro x; rfl
  | succ n ih => intro x; rw [Vo.ticks, ih]; rfl
theorem Vo.ticks_add (m n : Nat) : ∀ x : Vo, Vo.ticks (m + n) x = Vo.ticks n (Vo.ticks m x) := by
  induction m with
  | zero => intro x; rw [Nat.zero_add]; rfl
  | succ m ih => intro x; rw [show m + 1 + n = m + n + 1 by omega, Vo.ticks, ih]; rfl
theorem Vo.quiet_le (x : Vo) (h : x.Ok) : 0 ≤ x.quiet ∧ x.quiet ≤ 100000 := by
  unfold Vo.quiet Vo.Ok at *
  dsimp only
  split <;> split <;> omega
theorem Vo.pass_ok (x : Vo) (h : x.Ok) (k : Int) (h0 : 0 ≤ k) : (x.pass k).Ok := by
  unfold Vo.Ok Vo.pass at *
  dsimp only
  obtain ⟨h1, h2, h3, h4, h5, h6⟩ := h
  refine ⟨h1, ?_, h3, ?_, ?_, ?_⟩ <;> (repeat' split) <;> omega
theorem Vo.pass_zero (x : Vo) (h : x.Ok) (hp : ¬ (0 < x.p ∧ x.p ≤ x.c)) (hw : ¬ (0 < x.r ∧ 0 < x.v ∧ x.r * 64 ≤ x.w)) : x.pass 0 = x := by
  obtain ⟨p, v, r, c, f, w⟩ := x
  unfold Vo.pass Vo.Ok at *
  dsimp only at *
  congr 1 <;> (repeat' split) <;> omega
/-- One cycle more. -/
theorem Vo.pass_succ (x : Vo) (k : Int) (h0 : 0 < k) (hk : k ≤ x.quiet) : (x.pass k).pass 1 = x.pass (k + 1) := by
  obtain ⟨p, v, r, c, f, w⟩ := x
  unfold Vo.quiet at hk
  unfold Vo.pass
  dsimp only at *
  by_cases hp : 0 < p
  · have a1 : ¬ p ≤ c + k := by
      rw [if_pos hp] at hk
      split at hk <;> omega
    by_cases hr : 0 < r ∧ 0 < v
    · have a2 : ¬ r * 64 ≤ w + k := by
        rw [if_pos hr] at hk
        omega
      simp only [if_pos hp, if_pos hr, if_neg a1, if_neg a2, Int.add_assoc]
    · simp only [if_pos hp, if_neg hr, if_neg a1, Int.add_assoc]
  · by_cases hr : 0 < r ∧ 0 < v
    · have a2 : ¬ r * 64 ≤ w + k := by
        rw [if_pos hr] at hk
        omega
      simp only [if_neg hp, if_pos hr, if_neg a2, Int.add_assoc]
    · simp only [if_neg hp, if_neg hr]
theorem Vo.pass_ticks (x : Vo) (n : Nat) (hn : (n : Int) ≤ x.quiet) : x.pass (n + 1) = Vo.ticks (n + 1) x := by
  induction n with
  | zero => rfl
  | succ n ih =>
    rw [Vo.ticks_succ, ← ih (by omega)]
    exact (x.pass_succ (n + 1) (by omega) (by omega)).symm
/-- A voice that neither turns nor fades. -/
theorem Vo.idle (x : Vo) (h : x.Ok) (hq : x.quiet = 100000) (k : Int) : x.pass k = x := by
  obtain ⟨p, v, r, c, f, w⟩ := x
  unfold Vo.quiet at hq
  unfold Vo.pass Vo.Ok at *
  dsimp only at *
  by_cases hp : 0 < p
  · rw [if_pos hp] at hq
    split at hq <;> omega
  · by_cases hr : 0 < r ∧ 0 < v
    · rw [if_pos hr] at hq
      omega
    · simp only [if_neg hp, if_neg hr]
theorem Vo.idle_ticks (x : Vo) (h : x.Ok) (hq : x.quiet = 100000) (n : Nat) : Vo.ticks n x = x := by
  induction n with
  | zero => rfl
  | succ n ih => rw [Vo.ticks_succ, ih, x.idle h hq]
theorem Vo.ticks_ok (x : Vo) (h : x.Ok) (n : Nat) : (Vo.ticks n x).Ok := by
  induction n with
  | zero => exact h
  | succ n ih => rw [Vo.ticks_succ]; exact Vo.pass_ok _ ih 1 (by decide)
/-- Turning. -/
theorem Vo.turns (P v : Int) (hP : 0 < P ∧ P < 4096) (n : Nat) : Vo.ticks n ⟨P, v, 0, 0, 0, 0⟩ = ⟨P, v, 0, n % P, n / P % 2, 0⟩ := by
  induction n with
  | zero => simp [Vo.ticks]
  | succ n ih =>
    rw [Vo.ticks_succ, ih]
    unfold Vo.pass
    dsimp only
    have h1 := Int.emod_nonneg (n : Int) (show P ≠ 0 by omega)
    have h2 := Int.emod_lt_of_pos (n : Int) hP.1
    have h3 := Int.emod_add_mul_ediv (n : Int) P
    have h4 : ((n + 1 : Nat) : Int) = (n : Int) % P + 1 + P * ((n : Int) / P) := by omega
    by_cases h : P ≤ (n : Int) % P + 1
    · have e : ((n + 1 : Nat) : Int) = P * ((n : Int) / P + 1) := by rw [h4, Int.mul_add]; omega
      have d1 : ((n + 1 : Nat) : Int) % P = 0 := by rw [e]; exact Int.mul_emod_right _ _
      have d2 : ((n + 1 : Nat) : Int) / P = (n : Int) / P + 1 := by rw [e]; exact Int.mul_ediv_cancel_left _ (by omega)
      rw [d1, d2]
      simp only [if_pos hP.1, if_pos h]
      congr 1
      omega
    · have d1 : ((n + 1 : Nat) : Int) % P = (n : Int) % P + 1 := by
        rw [h4, Int.add_mul_emod_self_left]; exact Int.emod_eq_of_lt (by omega) (by omega)
      have d2 : ((n + 1 : Nat) : Int) / P = (n : Int) / P := by
        rw [h4, Int.add_mul_ediv_left _ _ (by omega), Int.ediv_eq_zero_of_lt (by omega) (by omega)]; omega
      rw [d1, d2]
      simp only [if_pos hP.1, if_neg h]
      rfl
/-- Fading. -/
theorem Vo.fades (R : Int) (hR : 0 < R ∧ R < 256) : ∀ (n : Nat) (v : Int), 0 ≤ v → (n : Int) ≤ 64 * R * v → Vo.ticks n ⟨0, v, R, 0, 0, 0⟩ = ⟨0, v - n / (64 * R), R, 0, 0, n % (64 * R)⟩ := by
  intro n v hv hn
  induction n with
  | zero => simp [Vo.ticks]
  | succ n ih =>
    rw [Vo.ticks_succ, ih (by omega)]
    unfold Vo.pass
    dsimp only
    obtain ⟨D, hD⟩ : ∃ D, 64 * R = D := ⟨_, rfl⟩
    have hD1 : 0 < D := by omega
    rw [hD] at hn ⊢
    have h1 := Int.emod_nonneg (n : Int) (show D ≠ 0 by omega)
    have h2 := Int.emod_lt_of_pos (n : Int) hD1
    have h3 := Int.emod_add_mul_ediv (n : Int) D
    have h4 : ((n + 1 : Nat) : Int) = (n : Int) % D + 1 + D * ((n : Int) / D) := by omega
    have hv1 : 0 < v - (n : Int) / D := by
      have : (n : Int) / D < v := Int.ediv_lt_of_lt_mul hD1 (by rw [Int.mul_comm]; omega)
      omega
    by_cases h : D ≤ (n : Int) % D + 1
    · have e : ((n + 1 : Nat) : Int) = D * ((n : Int) / D + 1) := by rw [h4, Int.mul_add]; omega
      have d1 : ((n + 1 : Nat) : Int) % D = 0 := by rw [e]; exact Int.mul_emod_right _ _
      have d2 : ((n + 1 : Nat) : Int) / D = (n : Int) / D + 1 := by rw [e]; exact Int.mul_ediv_cancel_left _ (by omega)
      rw [d1, d2]
      have q0 : ¬ ((0 : Int) < 0) := by decide
      have q1 : 0 < R ∧ 0 < v - (n : Int) / D := ⟨hR.1, hv1⟩
      have q2 : R * 64 ≤ (n : Int) % D + 1 := by omega
      simp only [if_neg q0, if_pos q1, if_pos q2]
      congr 1
      omega
    · have d1 : ((n + 1 : Nat) : Int) % D = (n : Int) % D + 1 := by
        rw [h4, Int.add_mul_emod_self_left]; exact Int.emod_eq_of_lt (by omega) (by omega)
      have d2 : ((n + 1 : Nat) : Int) / D = (n : Int) / D := by
        rw [h4, Int.add_mul_ediv_left _ _ (by omega), Int.ediv_eq_zero_of_lt (by omega) (by omega)]; omega
      rw [d1, d2]
      have q0 : ¬ ((0 : Int) < 0) := by decide
      have q1 : 0 < R ∧ 0 < v - (n : Int) / D := ⟨hR.1, hv1⟩
      have q2 : ¬ R * 64 ≤ (n : Int) % D + 1 := by omega
      simp only [if_neg q0, if_pos q1, if_neg q2]
end Go.Proofs.Ytjmmompbmjhkpaa.Calc
