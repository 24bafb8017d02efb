/- The contract of TimerWaits: it returns true. Condition: none on its arguments. -/
import Derived.Test.YtcgjmkbajjngaaaFnTimerFires
import Derived.Test.YtcgjmkbajjngaaaFnStream
namespace Go.Proofs.Ytcgjmkbajjngaaa.Calc
open Go Code
set_option linter.unusedSimpArgs false
set_option linter.unusedVariables false
set_option maxRecDepth 20000
set_option maxHeartbeats 4000000
attribute [local irreducible] WOpsT AW AK RK AKW
theorem waits_ok (l : List Int) (k : Int) : FnE Try.prog 13 [.sl 1 (cells l), I k] [] (.c (.bool true)) [] := by
  refine N.fn Try.func13 k13 (Nat.le_of_ble_eq_true rfl) q13 fun Q hQ => ?_
  rw [c13]
  have n1 := next_ok l 300 (by decide)
  have r1 := sval_range l 300 (by decide)
  generalize sval l 300 = a at n1 r1
  generalize srest l 300 = l1 at n1
  have n2 := next_ok l1 300 (by decide)
  have r2 := sval_range l1 300 (by decide)
  generalize sval l1 300 = b at n2 r2
  generalize srest l1 300 = l2 at n2
  have n3 := next_ok l2 8 (by decide)
  have r3 := sval_range l2 8 (by decide)
  generalize sval l2 8 = c at n3 r3
  generalize srest l2 8 = l3 at n3
  have n4 := next_ok l3 2 (by decide)
  have r4 := sval_range l3 2 (by decide)
  generalize sval l3 2 = f at n4 r4
  generalize srest l3 2 = l4 at n4
  have hT : TimOk a b c f := by omega
  have m1 := FnE.arg0 (timnext_ok a b c f [] hT) (Sub.devN rfl)
  have hn : 0 ≤ (if c % 2 = 0 then (100000 : Int) else a) ∧ (if c % 2 = 0 then (100000 : Int) else a) ≤ 100000 := by split <;> omega
  have hnc : c % 2 ≠ 0 → (if c % 2 = 0 then (100000 : Int) else a) = a := fun h => if_neg h
  generalize (if c % 2 = 0 then (100000 : Int) else a) = n at m1 hn hnc
  obtain ⟨x, hx⟩ : ∃ x, k % (min n 1000 + 1) = x := ⟨_, rfl⟩
  have hx1 : 0 ≤ x ∧ x ≤ n := by
    have h1 := Int.emod_nonneg k (show min n 1000 + 1 ≠ 0 by omega)
    have h2 := Int.emod_lt_of_pos k (show 0 < min n 1000 + 1 by omega)
    omega
  have hB := below_ok k (min n 1000 + 1) (by omega) (by omega)
  rw [hx] at hB
  have s1 := FnE.arg0 (timskip_ok a b c f x [] hT (by omega)) (Sub.devN rfl)
  have k1 : ∃ a', 0 ≤ a' ∧ a' < 65536 ∧ skip4 a b c f x = [a', b, c, f] := by
    unfold skip4
    (repeat' split) <;> first | exact ⟨a, by omega, by omega, rfl⟩ | exact ⟨a - x, by omega, by omega, rfl⟩ | (exfalso; omega)
  obtain ⟨a', ha1, ha2, he1⟩ := k1
  rw [he1] at s1
  have i1 := timirq_ok a' b c f [] (by omega)
  have i2 := FnE.arg0 (timirq_ok a b c f [] hT) (Sub.devN rfl)
  have s2 := FnE.arg0 (timskip_ok a b c f (n + 1) [] hT (by omega)) (Sub.devN rfl)
  have k2 : ∃ a' c' f', TimOk a' b c' f' ∧ skip4 a b c f (n + 1) = [a', b, c', f'] ∧ (f' = 1 ↔ (c % 2 = 1 ∨ f = 1)) := by
    unfold skip4
    split
    · omega
    · split
      · exact ⟨a, c, f, hT, rfl, by omega⟩
      · have := hnc (by assumption)
        split
        · omega
        · split
          · refine ⟨b - (n + 1 - a - 1) % (b + 1), c, 1, ?_, rfl, by omega⟩
            rw [show n + 1 - a - 1 = 0 by omega, Int.zero_emod]
            omega
          · exact ⟨0, c - c % 2, 1, by omega, rfl, by omega⟩
  obtain ⟨a2, c2, f2, hT2, he2, hf2⟩ := k2
  rw [he2] at s2
  have rd := timread_ok a2 b c2 f2 [] hT2
  repeat' (first
    | (show AKW _ _ (.seq (.reg (⟨some 25, _, _⟩ :: _) _) _) _ _ _ _; refine N.weak (fr1 := [(1, I k), (6, .ptr 1 1 0 0)]) (h1 := [strB l4, ⟨1, 2, [[.sl 1 (cells [a, b, c, f]), .c (.slice none 0 0)]]⟩]) (Weaks.gc [0, 2] 2 rfl (by repeat (first | exact trivial | refine ⟨.rfl, ?_⟩ | refine ⟨.any, ?_⟩)) rfl) ?_; refine N.now ?_)
    | rw [bits1]
    | refine N.regS fun K hK => ?_
    | refine N.dregS fun K hK => ?_
    | refine N.regN fun K hK => ?_
    | refine N.dregN fun K hK => ?_
    | simp only [T.mv, AO.ev, put, lk, enter, reduceIte, Nat.reduceEqDiff, Nat.reduceAdd, Nat.reduceMul, Nat.reduceSub, ren_c, ren_tup, ren_agg, ren_sl, List.map, Int.reduceNeg, Int.toNat_zero, Nat.zero_add, Nat.add_zero, List.length_cons, List.length_nil, List.nil_append, List.cons_append, List.set_cons_zero, List.set_cons_succ, Int.reduceToNat, List.take_zero, upto, ren_psl, ren_ptr, List.getElem?_cons_zero, List.getElem?_cons_succ, renB, cells_ren, decide_eq_true_eq, Bool.false_eq_true, true_iff, iff_true, false_iff, iff_false]
    | (refine T.nil ?_; (first | refine hK _ _ _ (by rfl) ?_ | refine hK _ _ _ ?_); simp only [keep, List.map, lk, reduceIte, Nat.reduceEqDiff, enter]; clear hK; clear K)
    | (show WOpsT _ (⟨_, .call _ _, none⟩ :: _) _ _ _ _; first | refine T.call1 0 e52 rfl rfl (n1) ?_ | refine T.call1 0 e52 rfl rfl (n2) ?_ | refine T.call1 0 e52 rfl rfl (n3) ?_ | refine T.call1 0 e52 rfl rfl (n4) ?_ | refine T.call0 e53 rfl (m1) ?_ | refine T.call0 e15 rfl (hB) ?_ | refine T.call0 e44 rfl (s1) ?_ | refine T.call0 e44 rfl (s2) ?_ | refine T.call0 e45 rfl (rd) ?_ | refine T.call0 e54 rfl (i1) ?_ | refine T.call0 e54 rfl (i2) ?_ | refine T.call0 e47 rfl (timers_ok) ?_)
    | (show WOpsT _ (⟨_, .ld _ _, none⟩ :: _) _ _ _ _; first | refine T.ld rfl rfl rfl rfl rfl ?_ | refine T.ldd rfl rfl ?_ | refine T.ldn rfl rfl rfl rfl (Nat.le_of_ble_eq_true rfl) ?_ | refine T.lddn rfl (Nat.le_of_ble_eq_true rfl) ?_)
    | (show WOpsT _ (⟨_, .idx _ _ _ _, none⟩ :: _) _ _ _ _; first | refine T.idx rfl rfl rfl ⟨rfl, rfl⟩ (by omega) ?_ | refine T.idxs rfl rfl rfl (by omega) rfl ?_ | refine T.idxa rfl rfl rfl rfl (by omega) ?_ | refine T.idxd rfl rfl (by omega) ?_)
    | (show WOpsT _ (⟨_, .bin _ _ _, none⟩ :: _) _ _ _ _; first | refine T.add rfl rfl (by omega) (by omega) ?_ | refine T.sub rfl rfl (by omega) (by omega) ?_ | refine T.rem rfl rfl (by omega) ?_ | refine T.quo rfl rfl (by omega) ?_ | refine T.shl rfl rfl (by omega) ?_ | refine T.shr rfl rfl (by omega) ?_ | refine T.bin rfl rfl rfl ?_)
    | (show WOpsT _ (⟨_, _, some (_, true)⟩ :: _) _ _ _ _; first | refine T.goT rfl (by omega) ?_ | refine T.paT rfl (by omega) ?_ | refine T.go rfl rfl ?_ | refine T.pass rfl rfl ?_ | refine T.pU rfl ?_ | refine T.gT rfl (fun hg => ?_) (fun hg => ?_))
    | (show WOpsT _ (⟨_, _, some (_, false)⟩ :: _) _ _ _ _; first | refine T.goF rfl (by omega) ?_ | refine T.paF rfl (by omega) ?_ | refine T.go rfl rfl ?_ | refine T.pass rfl rfl ?_ | refine T.pU rfl ?_ | refine T.gF rfl (fun hg => ?_) (fun hg => ?_))
    | (show WOpsT _ (⟨_, .pick _ _ _, none⟩ :: _) _ _ _ _; first | refine T.pkT rfl (by omega) ?_ | refine T.pkF rfl (by omega) ?_ | refine T.pickT rfl rfl ?_ | refine T.pickF rfl rfl ?_ | refine T.pickB rfl rfl rfl ?_ | refine T.pkD rfl (fun hg => ?_) (fun hg => ?_))
    | (show AKW _ _ _ _ _ _ _; first | refine N.now ?_)
    | (show AK _ _ (.cond _ _ _) _ _ _ _; first | refine N.cT rfl (by omega) ?_ | refine N.cF rfl (by omega) ?_ | refine N.condT rfl rfl ?_ | refine N.condF rfl rfl ?_ | refine N.condD rfl (fun hc => ?_) (fun hc => ?_) | refine N.condB rfl (fun hc => ?_) (fun hc => ?_))
    | (show AK _ _ _ _ _ _ _; first | refine N.seq ?_ | refine N.block ?_ | refine N.skip ?_ | refine N.exit ?_ | refine N.ret ?_)
    | (show RK _ _ _ _ _ _ _; first | refine N.seqN ?_ | refine N.blkN ?_ | refine N.blkE rfl ?_ | refine N.blkX (by decide) ?_ | refine N.seqX ?_ | refine N.lpX ?_ | refine N.seqR ?_ | refine N.blkR ?_ | refine N.lpR ?_ | refine N.lpN ?_ | refine N.nil ?_)
    | (show WOpsT _ _ _ _ _ _; first | refine T.min2 rfl rfl rfl ?_ | refine T.max2 rfl rfl rfl ?_ | refine T.ext rfl rfl ?_ | refine T.lenc ?_ | refine T.notD rfl ?_ | refine T.not rfl ?_ | refine T.eqb0 rfl rfl ?_ | refine T.eqb1 rfl rfl ?_ | refine T.cvt rfl ?_ | refine T.fad rfl rfl rfl ?_ | refine T.fadd rfl ?_ | refine T.nilc rfl rfl rfl ?_ | refine T.nilcd rfl ?_ | refine T.st rfl rfl rfl ⟨rfl, rfl⟩ rfl (Nat.le_of_ble_eq_true rfl) ?_ | refine T.fld rfl rfl ?_ | refine T.new rfl ⟨rfl, by decide⟩ ?_ | refine T.zero (by decide) ?_ | refine T.build rfl ?_ | refine T.len rfl rfl rfl ?_ | refine T.lenS rfl ?_ | refine T.lenN rfl ?_ | refine T.mkf ?_ | refine T.mki ?_ | refine T.mksl rfl rfl (by decide) ?_ | refine T.copy rfl rfl rfl ⟨rfl, rfl⟩ ?_ | refine T.ixa rfl rfl (by omega) rfl ?_ | refine T.bsl rfl (by decide) ?_ | refine T.slc rfl rfl rfl rfl ⟨rfl, rfl⟩ (by omega) ?_ | refine T.slcS rfl rfl rfl rfl (by omega) ?_)
    | refine hQ _ _ _ rfl ?_)
  all_goals (refine WS.bool rfl ?_; simp only [decide_eq_true_eq, Bool.false_eq_true, iff_true, iff_false, true_iff, false_iff] <;> omega)
end Go.Proofs.Ytcgjmkbajjngaaa.Calc
