/- Several texts in one (FnLawChip), for the proof of LawChipQuiet. No condition beyond those in each lemma. -/
import Derived.Test.YtolmklnijjfppaaGreatPLawChipQuietM
import Derived.Test.YtolmklnijjfppaaGreatPLawChipQuietH
import Derived.Test.YtolmklnijjfppaaGreatPLawChipQuietJ
import Derived.Test.YtolmklnijjfppaaGreatPLawChipQuietE
import Derived.Test.YtolmklnijjfppaaGreatPLawChipQuietD
namespace Go.Proofs.YtolmklnijjfppaaGreat.Calc
open Go Code
set_option linter.unusedSimpArgs false
set_option linter.unusedVariables false
set_option maxRecDepth 20000
set_option maxHeartbeats 4000000
attribute [local irreducible] WOpsT AW AK RK AKW UK UC
theorem memory_k (k : Int) (p : Bool) (hp : p = decide (k = 0 ∨ k = 1 ∨ k = 2)) : FnE Tryz.prog 87 [I k] [] (.c (.bool p)) [] := by
  subst hp
  refine N.fn Tryz.func87 k87 lb q87 fun Q hQ hQN => ?_
  rw [c87]
  repeat' (first
  | exact True.intro
  | refine fun (K : KT) hK => ?_
  | intro hcd
  | (refine go1 ?_ ?_ <;> try clear hK K)
  | fail)
  all_goals first
    | (exfalso; omega)
    | exact WS.bool rfl (by simp; omega)
    | exact WS.c rfl (by rw [decide_eq_true (by omega)])
    | exact WS.c rfl (by rw [decide_eq_false (by omega)])
theorem size_k (k z : Int) (h : (k = 3 ∧ z = 4) ∨ (k = 4 ∧ z = 2) ∨ (k = 5 ∧ z = 3) ∨ (k = 6 ∧ z = 32) ∨ (k = 7 ∧ z = 8) ∨ (k = 8 ∧ z = 4)) : FnE Tryz.prog 88 [I k] [] (I z) [] := by
  rcases h with ⟨rfl, rfl⟩ | ⟨rfl, rfl⟩ | ⟨rfl, rfl⟩ | ⟨rfl, rfl⟩ | ⟨rfl, rfl⟩ | ⟨rfl, rfl⟩
  all_goals
    refine N.fn Tryz.func88 k88 lb q88 fun Q hQ hQN => ?_
    rw [c88]
    repeat' (first
    | exact True.intro
    | refine fun (K : KT) hK => ?_
    | intro hcd
    | (refine go1 ?_ ?_ <;> try clear hK K)
    | fail)
    exact WS.c rfl rfl
structure VPlace (c : Chp) : Prop where
  name : VName c.name
  cpu : c.name ≠ ⟨#[99, 112, 117]⟩
  lo : 0 ≤ c.base
  hi : c.base + c.size ≤ 65536
theorem check_v (c : Chp) (hc : VKind c) (hp : VPlace c) : FnE Tryz.prog 34 [.agg (chV c)] [] (I 0) [] := by
  obtain ⟨nm, k, b, s, dat⟩ := c
  obtain ⟨hn, hcpu, hlo, hhi⟩ := hp
  dsimp only at hn hcpu hlo hhi
  have hnm := name_ok nm hn
  have hne : decide (nm = ⟨#[99, 112, 117]⟩) = false := decide_eq_false hcpu
  unfold chV
  dsimp only
  have hdl := bcells_len dat
  rcases hc with ⟨z, hk, hs, h1, hd, hb⟩ | ⟨nb, hk, hs, h1, hd, hb⟩ | ⟨hk, hs, hd⟩ | ⟨nd, hk, hs, hn, hd, hb⟩
  · dsimp only at hk hs hd; subst hs
    rcases hk with rfl | rfl
    all_goals
      have hm := memory_k _ true (by first | exact rfl : true = decide ((0 : Int) = 0 ∨ (0 : Int) = 1 ∨ (0 : Int) = 2))
      have hm1 := memory_k _ true (by first | exact rfl : true = decide ((1 : Int) = 0 ∨ (1 : Int) = 1 ∨ (1 : Int) = 2))
      refine N.fn Tryz.func34 k34 lb q34 fun Q hQ hQN => ?_
      rw [c34]
      repeat' (first
      | rw [hne]
      | rw [hdl]
      | (show WOpsT _ (⟨_, .call _ _, none⟩ :: _) _ _ _ _; first | refine T.call0 e86 rfl (hnm) ?_ | refine T.call0 e87 rfl (hm) ?_ | refine T.call0 e87 rfl (hm1) ?_)
      | exact True.intro
      | refine fun (K : KT) hK => ?_
      | intro hcd
      | (refine go1 ?_ ?_ <;> try clear hK K)
      | fail)
      all_goals first
        | (exfalso; omega)
        | exact WS.c rfl rfl
  · dsimp only at hk hs hd; subst hs; subst hk
    have hm := memory_k 2 true (by exact rfl)
    refine N.fn Tryz.func34 k34 lb q34 fun Q hQ hQN => ?_
    rw [c34]
    repeat' (first
    | rw [hne]
    | rw [hdl]
    | (show WOpsT _ (⟨_, .call _ _, none⟩ :: _) _ _ _ _; first | refine T.call0 e86 rfl (hnm) ?_ | refine T.call0 e87 rfl (hm) ?_)
    | exact True.intro
    | refine fun (K : KT) hK => ?_
    | intro hcd
    | (refine go1 ?_ ?_ <;> try clear hK K)
    | fail)
    all_goals first
      | (exfalso; omega)
      | exact WS.c rfl rfl
  · dsimp only at hk hs hd; subst hd
    rcases hk with rfl | rfl | rfl | rfl | rfl
    all_goals
      (first | obtain rfl : s = 4 := hs | obtain rfl : s = 2 := hs | obtain rfl : s = 3 := hs | obtain rfl : s = 32 := hs | obtain rfl : s = 8 := hs)
      have m3 := memory_k 3 false (by exact rfl)
      have m4 := memory_k 4 false (by exact rfl)
      have m5 := memory_k 5 false (by exact rfl)
      have m6 := memory_k 6 false (by exact rfl)
      have m7 := memory_k 7 false (by exact rfl)
      have s3 := size_k 3 4 (by omega)
      have s4 := size_k 4 2 (by omega)
      have s5 := size_k 5 3 (by omega)
      have s6 := size_k 6 32 (by omega)
      have s7 := size_k 7 8 (by omega)
      refine N.fn Tryz.func34 k34 lb q34 fun Q hQ hQN => ?_
      rw [c34]
      repeat' (first
      | rw [hne]
      | (show WOpsT _ (⟨_, .call _ _, none⟩ :: _) _ _ _ _; first | refine T.call0 e86 rfl (hnm) ?_ | refine T.call0 e87 rfl (m3) ?_ | refine T.call0 e87 rfl (m4) ?_ | refine T.call0 e87 rfl (m5) ?_ | refine T.call0 e87 rfl (m6) ?_ | refine T.call0 e87 rfl (m7) ?_ | refine T.call0 e88 rfl (s3) ?_ | refine T.call0 e88 rfl (s4) ?_ | refine T.call0 e88 rfl (s5) ?_ | refine T.call0 e88 rfl (s6) ?_ | refine T.call0 e88 rfl (s7) ?_)
      | exact True.intro
      | refine fun (K : KT) hK => ?_
      | intro hcd
      | (refine go1 ?_ ?_ <;> try clear hK K)
      | fail)
      all_goals first
        | (exfalso; omega)
        | exact WS.c rfl rfl
  · dsimp only at hk hs hd; subst hs; subst hk
    have hm := memory_k 8 false (by exact rfl)
    have s8 := size_k 8 4 (by omega)
    have e1 : ((dat.length : Nat) : Int).tmod 256 = 0 := by rw [Int.tmod_eq_emod_of_nonneg (by omega), hd]; omega
    refine N.fn Tryz.func34 k34 lb q34 fun Q hQ hQN => ?_
    rw [c34]
    repeat' (first
    | rw [hne]
    | rw [hdl]
    | rw [e1]
    | (show WOpsT _ (⟨_, .call _ _, none⟩ :: _) _ _ _ _; first | refine T.call0 e86 rfl (hnm) ?_ | refine T.call0 e87 rfl (hm) ?_ | refine T.call0 e88 rfl (s8) ?_)
    | exact True.intro
    | refine fun (K : KT) hK => ?_
    | intro hcd
    | (refine go1 ?_ ?_ <;> try clear hK K)
    | fail)
    all_goals first
      | (exfalso; omega)
      | exact WS.c rfl rfl
end Go.Proofs.YtolmklnijjfppaaGreat.Calc

