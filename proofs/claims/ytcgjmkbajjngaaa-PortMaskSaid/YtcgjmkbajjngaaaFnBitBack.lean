/- The contract of BitBack: it returns true. Condition: none on its three numbers. -/
import Derived.Test.YtcgjmkbajjngaaaFnBits
namespace Go.Proofs.Ytcgjmkbajjngaaa.Calc
open Go Code
set_option linter.unusedSimpArgs false
set_option linter.unusedVariables false
set_option maxRecDepth 20000
attribute [local irreducible] WOpsT AW
theorem wdN (n : Nat) (hn : n ≤ 62) : wd (n : Int) = n := by unfold wd; omega
theorem carry (x y M : Int) (hx : 0 ≤ x ∧ x < M) (hy : 0 ≤ y ∧ y < M) : (x + y < M ∧ (x + y) % M = x + y ∧ (x + y) / M = 0) ∨ (M ≤ x + y ∧ (x + y) % M = x + y - M ∧ (x + y) / M = 1) := by
  by_cases h : x + y < M
  · exact .inl ⟨h, Int.emod_eq_of_lt (by omega) h, Int.ediv_eq_zero_of_lt (by omega) h⟩
  · refine .inr ⟨by omega, ?_, ?_⟩
    · have := Int.add_emod_right (x + y - M) M
      rw [show x + y - M + M = x + y by omega] at this
      rw [this]; exact Int.emod_eq_of_lt (by omega) (by omega)
    · have g1 : 1 ≤ (x + y) / M := Int.le_ediv_of_mul_le (by omega) (by omega)
      have g2 : (x + y) / M < 2 := Int.ediv_lt_of_lt_mul (by omega) (by omega)
      omega
theorem sgn_low (v : Int) (n : Nat) : sgn v n % 2 ^ n = v % 2 ^ n := by
  unfold sgn
  split
  · rw [Int.sub_emod, Int.emod_self, Int.sub_zero, Int.emod_emod, Int.emod_emod]
  · rw [Int.emod_emod]
theorem backAdd (a b : Int) (n : Nat) (hn : n ≤ 62) : ∃ s c : Int, FnE Try.prog 20 [I a, I b, I 0, I n] [] (.tup [I s, I c]) [] ∧ FnE Try.prog 21 [I s, I b, I 0, I n] [] (.tup [I (a % 2 ^ n), I c]) [] := by
  have h1 := add_ok a b 0 n
  rw [wdN n hn] at h1
  have h2 := sub_ok ((a % 2 ^ n + b % 2 ^ n + 0 % 2) % 2 ^ n) b 0 n
  rw [wdN n hn] at h2
  refine ⟨_, _, h1, ?_⟩
  have hx := mod_lo a n
  have hy := mod_lo b n
  rw [Int.emod_emod] at h2
  simp only [Int.zero_emod, Int.add_zero, Int.sub_zero] at h2 ⊢
  rcases carry _ _ _ hx hy with ⟨g1, g2, g3⟩ | ⟨g1, g2, g3⟩
  · rw [g3]; rw [g2] at h2 ⊢
    rw [if_neg (by omega), show a % 2 ^ n + b % 2 ^ n - b % 2 ^ n = a % 2 ^ n by omega] at h2
    exact h2
  · rw [g3]; rw [g2] at h2 ⊢
    rw [if_pos (by omega), show a % 2 ^ n + b % 2 ^ n - 2 ^ n - b % 2 ^ n + 2 ^ n = a % 2 ^ n by omega] at h2
    exact h2

theorem bitBack_ok (a b w : Int) : FnE Try.prog 4 [I a, I b, I w] [] (.c (.bool true)) [] := by
  refine fnI Try.func4 k4 (Nat.le_of_ble_eq_true rfl) q4 fun Q hQ => ?_
  rw [c4]
  obtain ⟨n, hn, e⟩ : ∃ n : Nat, n ≤ 62 ∧ w % 63 = n := ⟨(w % 63).toNat, by omega, by omega⟩
  have hB := below_ok w 63 (by decide) (by decide)
  rw [e] at hB
  obtain ⟨s, c, hA, hS⟩ := backAdd a b n hn
  have hG := signed_ok a n
  rw [wdN n hn] at hG
  repeat (first
    | refine T.call0 enters15 rfl hB ?_
    | refine T.call0 enters20 rfl hA ?_
    | refine T.call0 enters21 rfl hS ?_
    | refine T.call0 enters17 rfl bits_ok ?_
    | refine T.call0 enters22 rfl hG ?_
    | refine T.call0 enters19 rfl (lowN_ok _ _ hn) ?_
    | refine T.go rfl (decide_eq_true rfl) ?_
    | refine T.pickT rfl (decide_eq_true rfl) ?_
    | refine T.pickT rfl rfl ?_
    | refine AW.regS fun K hK => ?_
    | refine AW.dregS fun K hK => ?_
    | refine AW.regN fun K hK => ?_
    | refine AW.dregN fun K hK => ?_
    | simp only [T.mv, AO.ev, put, lk, enter, reduceIte, Nat.reduceEqDiff, Nat.reduceAdd, Nat.reduceMul, Nat.reduceSub, ren_c, ren_tup, ren_agg, ren_sl, List.map, Int.reduceNeg, Int.toNat_zero, Nat.zero_add, Nat.add_zero, List.length_cons, List.length_nil]
    | refine T.nil ?_
    | (first | refine hK _ _ _ (by rfl) ?_ | refine hK _ _ _ ?_); simp only [keep, List.map, lk, reduceIte, Nat.reduceEqDiff, enter]; clear hK; clear K
    | refine T.add rfl rfl (by omega) (by omega) ?_
    | refine T.sub rfl rfl (by omega) (by omega) ?_
    | refine T.bin rfl rfl rfl ?_
    | refine T.rem rfl rfl (by omega) ?_
    | refine T.quo rfl rfl (by omega) ?_
    | refine T.shl rfl rfl (by omega) ?_
    | refine T.shr rfl rfl (by omega) ?_
    | refine T.min2 rfl rfl rfl ?_
    | refine T.max2 rfl rfl rfl ?_
    | refine T.ext rfl rfl ?_
    | refine T.lenc ?_
    | refine T.not rfl ?_
    | refine T.cvt rfl ?_
    | refine T.ld rfl rfl rfl rfl rfl ?_
    | refine T.ldd rfl rfl ?_
    | refine T.ldn rfl rfl rfl rfl (by decide) ?_
    | refine T.lddn rfl (by decide) ?_
    | refine T.fad rfl rfl rfl ?_
    | refine T.fadd rfl ?_
    | refine T.nilc rfl rfl rfl ?_
    | refine T.nilcd rfl ?_
    | refine T.st rfl rfl rfl ⟨rfl, rfl⟩ rfl (by decide) ?_
    | refine T.fld rfl rfl ?_
    | refine T.new rfl ⟨rfl, by decide⟩ ?_
    | refine T.zero (by decide) ?_
    | refine T.build rfl ?_
    | refine T.len rfl rfl rfl ?_
    | refine T.lenS rfl ?_
    | refine T.lenN rfl ?_
    | refine T.mkf ?_
    | refine T.mki ?_
    | refine T.go rfl rfl ?_
    | refine T.pass rfl rfl ?_
    | refine T.pickB rfl rfl rfl ?_
    | refine AW.retI ?_)
  refine hQ _ _ _ rfl (WeakV.cE rfl ?_)
  rw [sgn_low, decide_eq_true rfl]
end Go.Proofs.Ytcgjmkbajjngaaa.Calc
