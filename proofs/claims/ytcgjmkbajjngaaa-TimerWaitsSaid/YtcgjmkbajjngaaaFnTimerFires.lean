/- The contract of TimerFires: it returns true. Condition: none on its arguments. -/
import Derived.Test.YtcgjmkbajjngaaaFnTimer
namespace Go.Proofs.Ytcgjmkbajjngaaa.Calc
open Go Code
set_option linter.unusedSimpArgs false
set_option linter.unusedVariables false
set_option maxRecDepth 20000
set_option maxHeartbeats 2000000
attribute [local irreducible] WOpsT AW AK RK AKW
theorem timers_ok : FnE Try.prog 47 [] [] (.c (.bool true)) [] := by
  refine N.fn Try.func47 k47 (Nat.le_of_ble_eq_true rfl) q47 fun Q hQ => ?_
  rw [c47]
  have h := timw0_ok 0 0 0 0 5 [] (by omega)
  rw [show putv 0 0 8 5 = 5 by decide] at h
  repeat' (first
    | refine N.regS fun K hK => ?_
    | refine N.dregS fun K hK => ?_
    | refine N.regN fun K hK => ?_
    | refine N.dregN fun K hK => ?_
    | simp only [T.mv, AO.ev, put, lk, enter, reduceIte, Nat.reduceEqDiff, Nat.reduceAdd, Nat.reduceMul, Nat.reduceSub, ren_c, ren_tup, ren_agg, ren_sl, List.map, Int.reduceNeg, Int.toNat_zero, Nat.zero_add, Nat.add_zero, List.length_cons, List.length_nil, List.nil_append, List.cons_append, List.set_cons_zero, List.set_cons_succ, Int.reduceToNat, List.take_zero, upto, ren_psl, ren_ptr, List.getElem?_cons_zero, List.getElem?_cons_succ, renB, cells_ren, decide_eq_true_eq, Bool.false_eq_true, true_iff, iff_true, false_iff, iff_false]
    | (refine T.nil ?_; (first | refine hK _ _ _ (by rfl) ?_ | refine hK _ _ _ ?_); simp only [keep, List.map, lk, reduceIte, Nat.reduceEqDiff, enter]; clear hK; clear K)
    | (show WOpsT _ (⟨_, .call _ _, none⟩ :: _) _ _ _ _; first | refine T.call0 e43 rfl (timnew_ok) ?_ | refine T.call0 e42 rfl (h) ?_)
    | (show WOpsT _ (⟨_, .ld _ _, none⟩ :: _) _ _ _ _; first | refine T.ld rfl rfl rfl rfl rfl ?_ | refine T.ldd rfl rfl ?_ | refine T.ldn rfl rfl rfl rfl (Nat.le_of_ble_eq_true rfl) ?_ | refine T.lddn rfl (Nat.le_of_ble_eq_true rfl) ?_)
    | (show WOpsT _ (⟨_, .idx _ _ _ _, none⟩ :: _) _ _ _ _; first | refine T.idx rfl rfl rfl ⟨rfl, rfl⟩ (by omega) ?_ | refine T.idxs rfl rfl rfl (by omega) rfl ?_ | refine T.idxa rfl rfl rfl rfl (by omega) ?_ | refine T.idxd rfl rfl (by omega) ?_)
    | (show WOpsT _ (⟨_, .bin _ _ _, none⟩ :: _) _ _ _ _; first | refine T.add rfl rfl (by omega) (by omega) ?_ | refine T.sub rfl rfl (by omega) (by omega) ?_ | refine T.rem rfl rfl (by omega) ?_ | refine T.quo rfl rfl (by omega) ?_ | refine T.shl rfl rfl (by omega) ?_ | refine T.shr rfl rfl (by omega) ?_ | refine T.bin rfl rfl rfl ?_)
    | (show WOpsT _ (⟨_, _, some (_, true)⟩ :: _) _ _ _ _; first | refine T.goT rfl (by omega) ?_ | refine T.paT rfl (by omega) ?_ | refine T.go rfl rfl ?_ | refine T.pass rfl rfl ?_ | refine T.pU rfl ?_ | refine T.gT rfl (fun hg => ?_) (fun hg => ?_))
    | (show WOpsT _ (⟨_, _, some (_, false)⟩ :: _) _ _ _ _; first | refine T.goF rfl (by omega) ?_ | refine T.paF rfl (by omega) ?_ | refine T.go rfl rfl ?_ | refine T.pass rfl rfl ?_ | refine T.pU rfl ?_ | refine T.gF rfl (fun hg => ?_) (fun hg => ?_))
    | (show WOpsT _ (⟨_, .pick _ _ _, none⟩ :: _) _ _ _ _; first | refine T.pkT rfl (by omega) ?_ | refine T.pkF rfl (by omega) ?_ | refine T.pickT rfl rfl ?_ | refine T.pickF rfl rfl ?_ | refine T.pickB rfl rfl rfl ?_ | refine T.pkD rfl (fun hg => ?_) (fun hg => ?_))
    | (show AKW _ _ _ _ _ _ _; first | refine N.now ?_)
    | (show AK _ _ (.cond _ _ _) _ _ _ _; first | refine N.cT rfl (by omega) ?_ | refine N.cF rfl (by omega) ?_ | refine N.condT rfl rfl ?_ | refine N.condF rfl rfl ?_ | refine N.condD rfl (fun hc => ?_) (fun hc => ?_) | refine N.condB rfl (fun hc => ?_) (fun hc => ?_))
    | (show AK _ _ _ _ _ _ _; first | refine N.seq ?_ | refine N.block ?_ | refine N.skip ?_ | refine N.exit ?_ | refine N.ret ?_)
    | (show RK _ _ _ _ _ _ _; first | refine N.seqN ?_ | refine N.blkN ?_ | refine N.blkE rfl ?_ | refine N.blkX (by decide) ?_ | refine N.seqX ?_ | refine N.lpX ?_ | refine N.seqR ?_ | refine N.blkR ?_ | refine N.lpR ?_ | refine N.lpN ?_ | refine N.nil ?_)
    | (show WOpsT _ _ _ _ _ _; first | refine T.min2 rfl rfl rfl ?_ | refine T.max2 rfl rfl rfl ?_ | refine T.ext rfl rfl ?_ | refine T.lenc ?_ | refine T.notD rfl ?_ | refine T.not rfl ?_ | refine T.eqb0 rfl rfl ?_ | refine T.eqb1 rfl rfl ?_ | refine T.cvt rfl ?_ | refine T.fad rfl rfl rfl ?_ | refine T.fadd rfl ?_ | refine T.nilc rfl rfl rfl ?_ | refine T.nilcd rfl ?_ | refine T.st rfl rfl rfl ⟨rfl, rfl⟩ rfl (Nat.le_of_ble_eq_true rfl) ?_ | refine T.fld rfl rfl ?_ | refine T.new rfl ⟨rfl, by decide⟩ ?_ | refine T.zero (by decide) ?_ | refine T.build rfl ?_ | refine T.len rfl rfl rfl ?_ | refine T.lenS rfl ?_ | refine T.lenN rfl ?_ | refine T.mkf ?_ | refine T.mki ?_ | refine T.mksl rfl rfl (by decide) ?_ | refine T.copy rfl rfl rfl ⟨rfl, rfl⟩ ?_ | refine T.ixa rfl rfl (by omega) rfl ?_ | refine T.bsl rfl (by decide) ?_ | refine T.slc rfl rfl rfl rfl ⟨rfl, rfl⟩ (by omega) ?_ | refine T.slcS rfl rfl rfl rfl (by omega) ?_)
    | refine hQ _ _ _ rfl ?_)
  exact WS.bool rfl (by simp)
/-- The state ahead of a round. -/
def fireSt (x : Int) (rep : Bool) (r : Nat) : List Int := if rep then [x, x, 7, 0] else if r = 0 then [x, x, 1, 0] else [0, x, 0, 0]
theorem fires_ok (n : Int) (rep : Bool) : FnE Try.prog 10 [I n, .c (.bool rep)] [] (.c (.bool true)) [] := by
  refine N.fn Try.func10 k10 (Nat.le_of_ble_eq_true rfl) q10 fun Q hQ => ?_
  rw [c10]
  obtain ⟨x, hx⟩ : ∃ x, n % 500 = x := ⟨_, rfl⟩
  have hx1 : 0 ≤ x ∧ x < 500 := by omega
  have hB := below_ok n 500 (by decide) (by decide)
  rw [hx] at hB
  have h0 := timw0_ok 0 0 0 0 x [] (by omega)
  have p0 : putv 0 0 8 x = x % 256 := by unfold putv; omega
  have p1 : putv (x % 256) 8 8 (x / 2 ^ min (8 : Int).toNat IntKind.i64.bits) = x := by
    rw [show min (8 : Int).toNat IntKind.i64.bits = 8 from rfl]; unfold putv; omega
  rw [p0] at h0
  have h1 := timw1_ok 0 (x % 256) 0 0 (x / 2 ^ min (8 : Int).toNat IntKind.i64.bits) [] (by omega)
  rw [p1] at h1
  have h2 := timw2_ok 0 x 0 0 129 [] (by omega)
  rw [if_pos (by decide +kernel), show (129 : Int) % 2 ^ 3 = 1 by decide] at h2
  have h3 := timw2_ok x x 1 0 7 [] (by omega)
  rw [if_neg (by decide +kernel), show (7 : Int) % 2 ^ 3 = 7 by decide] at h3
  have hW (r : Nat) (hr : r ≤ 3) : r = 0 ∨ r = 1 ∨ r = 2 ∨ r = 3 := by omega
  cases rep
  · have s0 : FnE Try.prog 44 [dev [x, x, 1, 0] [], I x] [] (dev [0, x, 1, 0] []) [] := by
      have := timskip_ok x x 1 0 x [] (by omega) (by omega)
      rw [show skip4 x x 1 0 x = [0, x, 1, 0] by simp only [skip4]; (repeat' split) <;> first | omega | (congr 1; omega)] at this
      exact this
    have s1 : FnE Try.prog 44 [dev [0, x, 0, 0] [], I x] [] (dev [0, x, 0, 0] []) [] := by
      have := timskip_ok 0 x 0 0 x [] (by omega) (by omega)
      rw [show skip4 0 x 0 0 x = [0, x, 0, 0] by simp only [skip4]; (repeat' split) <;> first | omega | rfl] at this
      exact this
    have t0 : FnE Try.prog 46 [dev [0, x, 1, 0] []] [] (dev [0, x, 0, 1] []) [] := timtick_ok 0 x 1 0 [] (by omega)
    have t1 : FnE Try.prog 46 [dev [0, x, 0, 0] []] [] (dev [0, x, 0, 0] []) [] := timtick_ok 0 x 0 0 [] (by omega)
    repeat' (first
      | refine N.regS fun K hK => ?_
      | refine N.dregS fun K hK => ?_
      | refine N.regN fun K hK => ?_
      | refine N.dregN fun K hK => ?_
      | simp only [T.mv, AO.ev, put, lk, enter, reduceIte, Nat.reduceEqDiff, Nat.reduceAdd, Nat.reduceMul, Nat.reduceSub, ren_c, ren_tup, ren_agg, ren_sl, List.map, Int.reduceNeg, Int.toNat_zero, Nat.zero_add, Nat.add_zero, List.length_cons, List.length_nil, List.nil_append, List.cons_append, List.set_cons_zero, List.set_cons_succ, Int.reduceToNat, List.take_zero, upto, ren_psl, ren_ptr, List.getElem?_cons_zero, List.getElem?_cons_succ, renB, cells_ren, decide_eq_true_eq, Bool.false_eq_true, true_iff, iff_true, false_iff, iff_false]
      | (refine T.nil ?_; (first | refine hK _ _ _ (by rfl) ?_ | refine hK _ _ _ ?_); simp only [keep, List.map, lk, reduceIte, Nat.reduceEqDiff, enter]; clear hK; clear K)
      | (show WOpsT _ (⟨_, .call _ _, none⟩ :: _) _ _ _ _; first | refine T.call0 e15 rfl (hB) ?_ | refine T.call0 e43 rfl (timnew_ok) ?_ | refine T.call0 e42 rfl (h0) ?_ | refine T.call0 e42 rfl (h1) ?_ | refine T.call0 e42 rfl (h2) ?_ | refine T.call0 e42 rfl (h3) ?_)
      | (show WOpsT _ (⟨_, .ld _ _, none⟩ :: _) _ _ _ _; first | refine T.ld rfl rfl rfl rfl rfl ?_ | refine T.ldd rfl rfl ?_ | refine T.ldn rfl rfl rfl rfl (Nat.le_of_ble_eq_true rfl) ?_ | refine T.lddn rfl (Nat.le_of_ble_eq_true rfl) ?_)
      | (show WOpsT _ (⟨_, .idx _ _ _ _, none⟩ :: _) _ _ _ _; first | refine T.idx rfl rfl rfl ⟨rfl, rfl⟩ (by omega) ?_ | refine T.idxs rfl rfl rfl (by omega) rfl ?_ | refine T.idxa rfl rfl rfl rfl (by omega) ?_ | refine T.idxd rfl rfl (by omega) ?_)
      | (show WOpsT _ (⟨_, .bin _ _ _, none⟩ :: _) _ _ _ _; first | refine T.add rfl rfl (by omega) (by omega) ?_ | refine T.sub rfl rfl (by omega) (by omega) ?_ | refine T.rem rfl rfl (by omega) ?_ | refine T.quo rfl rfl (by omega) ?_ | refine T.shl rfl rfl (by omega) ?_ | refine T.shr rfl rfl (by omega) ?_ | refine T.bin rfl rfl rfl ?_)
      | (show WOpsT _ (⟨_, _, some (_, true)⟩ :: _) _ _ _ _; first | refine T.goT rfl (by omega) ?_ | refine T.paT rfl (by omega) ?_ | refine T.go rfl rfl ?_ | refine T.pass rfl rfl ?_ | refine T.pU rfl ?_ | refine T.gT rfl (fun hg => ?_) (fun hg => ?_))
      | (show WOpsT _ (⟨_, _, some (_, false)⟩ :: _) _ _ _ _; first | refine T.goF rfl (by omega) ?_ | refine T.paF rfl (by omega) ?_ | refine T.go rfl rfl ?_ | refine T.pass rfl rfl ?_ | refine T.pU rfl ?_ | refine T.gF rfl (fun hg => ?_) (fun hg => ?_))
      | (show WOpsT _ (⟨_, .pick _ _ _, none⟩ :: _) _ _ _ _; first | refine T.pkT rfl (by omega) ?_ | refine T.pkF rfl (by omega) ?_ | refine T.pickT rfl rfl ?_ | refine T.pickF rfl rfl ?_ | refine T.pickB rfl rfl rfl ?_ | refine T.pkD rfl (fun hg => ?_) (fun hg => ?_))
      | (show AKW _ _ _ _ _ _ _; first | refine N.now ?_)
      | (show AK _ _ (.cond _ _ _) _ _ _ _; first | refine N.cT rfl (by omega) ?_ | refine N.cF rfl (by omega) ?_ | refine N.condT rfl rfl ?_ | refine N.condF rfl rfl ?_ | refine N.condD rfl (fun hc => ?_) (fun hc => ?_) | refine N.condB rfl (fun hc => ?_) (fun hc => ?_))
      | (show AK _ _ _ _ _ _ _; first | refine N.seq ?_ | refine N.block ?_ | refine N.skip ?_ | refine N.exit ?_ | refine N.ret ?_)
      | (show RK _ _ _ _ _ _ _; first | refine N.seqN ?_ | refine N.blkN ?_ | refine N.blkE rfl ?_ | refine N.blkX (by decide) ?_ | refine N.seqX ?_ | refine N.lpX ?_ | refine N.seqR ?_ | refine N.blkR ?_ | refine N.lpR ?_ | refine N.lpN ?_ | refine N.nil ?_)
      | (show WOpsT _ _ _ _ _ _; first | refine T.min2 rfl rfl rfl ?_ | refine T.max2 rfl rfl rfl ?_ | refine T.ext rfl rfl ?_ | refine T.lenc ?_ | refine T.notD rfl ?_ | refine T.not rfl ?_ | refine T.eqb0 rfl rfl ?_ | refine T.eqb1 rfl rfl ?_ | refine T.cvt rfl ?_ | refine T.fad rfl rfl rfl ?_ | refine T.fadd rfl ?_ | refine T.nilc rfl rfl rfl ?_ | refine T.nilcd rfl ?_ | refine T.st rfl rfl rfl ⟨rfl, rfl⟩ rfl (Nat.le_of_ble_eq_true rfl) ?_ | refine T.fld rfl rfl ?_ | refine T.new rfl ⟨rfl, by decide⟩ ?_ | refine T.zero (by decide) ?_ | refine T.build rfl ?_ | refine T.len rfl rfl rfl ?_ | refine T.lenS rfl ?_ | refine T.lenN rfl ?_ | refine T.mkf ?_ | refine T.mki ?_ | refine T.mksl rfl rfl (by decide) ?_ | refine T.copy rfl rfl rfl ⟨rfl, rfl⟩ ?_ | refine T.ixa rfl rfl (by omega) rfl ?_ | refine T.bsl rfl (by decide) ?_ | refine T.slc rfl rfl rfl rfl ⟨rfl, rfl⟩ (by omega) ?_ | refine T.slcS rfl rfl rfl rfl (by omega) ?_)
      | refine hQ _ _ _ rfl ?_)
    refine N.loop (σ := Nat) (fun r => [(0, I x), (1, .c (.bool false)), (5, .ptr 0 1 0 0), (24, I r)]) (fun r => [⟨1, 2, [[.sl 1 (cells (fireSt x false r)), .sl 1 (cells [])]]⟩]) (fun r => r ≤ 3) (fun r => 3 - r) 0 (by decide) (Weaks.sel (by repeat (first | exact trivial | refine ⟨.rfl, ?_⟩ | refine ⟨.any, ?_⟩)) rfl) fun r hr C hC => ?_
    obtain rfl | rfl | rfl | rfl := hW r hr
    · skip
      repeat' (first
        | refine N.regS fun K hK => ?_
        | refine N.dregS fun K hK => ?_
        | refine N.regN fun K hK => ?_
        | refine N.dregN fun K hK => ?_
        | simp only [T.mv, AO.ev, put, lk, enter, reduceIte, Nat.reduceEqDiff, Nat.reduceAdd, Nat.reduceMul, Nat.reduceSub, ren_c, ren_tup, ren_agg, ren_sl, List.map, Int.reduceNeg, Int.toNat_zero, Nat.zero_add, Nat.add_zero, List.length_cons, List.length_nil, List.nil_append, List.cons_append, List.set_cons_zero, List.set_cons_succ, Int.reduceToNat, List.take_zero, upto, ren_psl, ren_ptr, List.getElem?_cons_zero, List.getElem?_cons_succ, renB, cells_ren, decide_eq_true_eq, Bool.false_eq_true, true_iff, iff_true, false_iff, iff_false]
        | (refine T.nil ?_; (first | refine hK _ _ _ (by rfl) ?_ | refine hK _ _ _ ?_); simp only [keep, List.map, lk, reduceIte, Nat.reduceEqDiff, enter]; clear hK; clear K)
        | (show WOpsT _ (⟨_, .call _ _, none⟩ :: _) _ _ _ _; first | refine T.call0 e44 rfl (s0) ?_ | refine T.call0 e46 rfl (t0) ?_ | refine T.call0 e45 rfl (timread_ok _ _ _ _ _ (by omega)) ?_)
        | (show WOpsT _ (⟨_, .ld _ _, none⟩ :: _) _ _ _ _; first | refine T.ld rfl rfl rfl rfl rfl ?_ | refine T.ldd rfl rfl ?_ | refine T.ldn rfl rfl rfl rfl (Nat.le_of_ble_eq_true rfl) ?_ | refine T.lddn rfl (Nat.le_of_ble_eq_true rfl) ?_)
        | (show WOpsT _ (⟨_, .idx _ _ _ _, none⟩ :: _) _ _ _ _; first | refine T.idx rfl rfl rfl ⟨rfl, rfl⟩ (by omega) ?_ | refine T.idxs rfl rfl rfl (by omega) rfl ?_ | refine T.idxa rfl rfl rfl rfl (by omega) ?_ | refine T.idxd rfl rfl (by omega) ?_)
        | (show WOpsT _ (⟨_, .bin _ _ _, none⟩ :: _) _ _ _ _; first | refine T.add rfl rfl (by omega) (by omega) ?_ | refine T.sub rfl rfl (by omega) (by omega) ?_ | refine T.rem rfl rfl (by omega) ?_ | refine T.quo rfl rfl (by omega) ?_ | refine T.shl rfl rfl (by omega) ?_ | refine T.shr rfl rfl (by omega) ?_ | refine T.bin rfl rfl rfl ?_)
        | (show WOpsT _ (⟨_, _, some (_, true)⟩ :: _) _ _ _ _; first | refine T.goT rfl (by omega) ?_ | refine T.paT rfl (by omega) ?_ | refine T.go rfl rfl ?_ | refine T.pass rfl rfl ?_ | refine T.pU rfl ?_ | refine T.gT rfl (fun hg => ?_) (fun hg => ?_))
        | (show WOpsT _ (⟨_, _, some (_, false)⟩ :: _) _ _ _ _; first | refine T.goF rfl (by omega) ?_ | refine T.paF rfl (by omega) ?_ | refine T.go rfl rfl ?_ | refine T.pass rfl rfl ?_ | refine T.pU rfl ?_ | refine T.gF rfl (fun hg => ?_) (fun hg => ?_))
        | (show WOpsT _ (⟨_, .pick _ _ _, none⟩ :: _) _ _ _ _; first | refine T.pkT rfl (by omega) ?_ | refine T.pkF rfl (by omega) ?_ | refine T.pickT rfl rfl ?_ | refine T.pickF rfl rfl ?_ | refine T.pickB rfl rfl rfl ?_ | refine T.pkD rfl (fun hg => ?_) (fun hg => ?_))
        | (show AKW _ _ _ _ _ _ _; first | refine N.now ?_)
        | (show AK _ _ (.cond _ _ _) _ _ _ _; first | refine N.cT rfl (by omega) ?_ | refine N.cF rfl (by omega) ?_ | refine N.condT rfl rfl ?_ | refine N.condF rfl rfl ?_ | refine N.condD rfl (fun hc => ?_) (fun hc => ?_) | refine N.condB rfl (fun hc => ?_) (fun hc => ?_))
        | (show AK _ _ _ _ _ _ _; first | refine N.seq ?_ | refine N.block ?_ | refine N.skip ?_ | refine N.exit ?_ | refine N.ret ?_)
        | (show RK _ _ _ _ _ _ _; first | refine N.seqN ?_ | refine N.blkN ?_ | refine N.blkE rfl ?_ | refine N.blkX (by decide) ?_ | refine N.seqX ?_ | refine N.lpX ?_ | refine N.seqR ?_ | refine N.blkR ?_ | refine N.lpR ?_ | refine N.lpN ?_ | refine N.nil ?_)
        | (show WOpsT _ _ _ _ _ _; first | refine T.min2 rfl rfl rfl ?_ | refine T.max2 rfl rfl rfl ?_ | refine T.ext rfl rfl ?_ | refine T.lenc ?_ | refine T.notD rfl ?_ | refine T.not rfl ?_ | refine T.eqb0 rfl rfl ?_ | refine T.eqb1 rfl rfl ?_ | refine T.cvt rfl ?_ | refine T.fad rfl rfl rfl ?_ | refine T.fadd rfl ?_ | refine T.nilc rfl rfl rfl ?_ | refine T.nilcd rfl ?_ | refine T.st rfl rfl rfl ⟨rfl, rfl⟩ rfl (Nat.le_of_ble_eq_true rfl) ?_ | refine T.fld rfl rfl ?_ | refine T.new rfl ⟨rfl, by decide⟩ ?_ | refine T.zero (by decide) ?_ | refine T.build rfl ?_ | refine T.len rfl rfl rfl ?_ | refine T.lenS rfl ?_ | refine T.lenN rfl ?_ | refine T.mkf ?_ | refine T.mki ?_ | refine T.mksl rfl rfl (by decide) ?_ | refine T.copy rfl rfl rfl ⟨rfl, rfl⟩ ?_ | refine T.ixa rfl rfl (by omega) rfl ?_ | refine T.bsl rfl (by decide) ?_ | refine T.slc rfl rfl rfl rfl ⟨rfl, rfl⟩ (by omega) ?_ | refine T.slcS rfl rfl rfl rfl (by omega) ?_)
        | refine hQ _ _ _ rfl ?_)
      exact hC _ _ 1 (by decide) (by decide) (Weaks.gc [0] 1 rfl (by repeat (first | exact trivial | refine ⟨.rfl, ?_⟩ | refine ⟨.any, ?_⟩)) rfl)
    · skip
      repeat' (first
        | refine N.regS fun K hK => ?_
        | refine N.dregS fun K hK => ?_
        | refine N.regN fun K hK => ?_
        | refine N.dregN fun K hK => ?_
        | simp only [T.mv, AO.ev, put, lk, enter, reduceIte, Nat.reduceEqDiff, Nat.reduceAdd, Nat.reduceMul, Nat.reduceSub, ren_c, ren_tup, ren_agg, ren_sl, List.map, Int.reduceNeg, Int.toNat_zero, Nat.zero_add, Nat.add_zero, List.length_cons, List.length_nil, List.nil_append, List.cons_append, List.set_cons_zero, List.set_cons_succ, Int.reduceToNat, List.take_zero, upto, ren_psl, ren_ptr, List.getElem?_cons_zero, List.getElem?_cons_succ, renB, cells_ren, decide_eq_true_eq, Bool.false_eq_true, true_iff, iff_true, false_iff, iff_false]
        | (refine T.nil ?_; (first | refine hK _ _ _ (by rfl) ?_ | refine hK _ _ _ ?_); simp only [keep, List.map, lk, reduceIte, Nat.reduceEqDiff, enter]; clear hK; clear K)
        | (show WOpsT _ (⟨_, .call _ _, none⟩ :: _) _ _ _ _; first | refine T.call0 e44 rfl (s1) ?_ | refine T.call0 e46 rfl (t1) ?_ | refine T.call0 e45 rfl (timread_ok _ _ _ _ _ (by omega)) ?_)
        | (show WOpsT _ (⟨_, .ld _ _, none⟩ :: _) _ _ _ _; first | refine T.ld rfl rfl rfl rfl rfl ?_ | refine T.ldd rfl rfl ?_ | refine T.ldn rfl rfl rfl rfl (Nat.le_of_ble_eq_true rfl) ?_ | refine T.lddn rfl (Nat.le_of_ble_eq_true rfl) ?_)
        | (show WOpsT _ (⟨_, .idx _ _ _ _, none⟩ :: _) _ _ _ _; first | refine T.idx rfl rfl rfl ⟨rfl, rfl⟩ (by omega) ?_ | refine T.idxs rfl rfl rfl (by omega) rfl ?_ | refine T.idxa rfl rfl rfl rfl (by omega) ?_ | refine T.idxd rfl rfl (by omega) ?_)
        | (show WOpsT _ (⟨_, .bin _ _ _, none⟩ :: _) _ _ _ _; first | refine T.add rfl rfl (by omega) (by omega) ?_ | refine T.sub rfl rfl (by omega) (by omega) ?_ | refine T.rem rfl rfl (by omega) ?_ | refine T.quo rfl rfl (by omega) ?_ | refine T.shl rfl rfl (by omega) ?_ | refine T.shr rfl rfl (by omega) ?_ | refine T.bin rfl rfl rfl ?_)
        | (show WOpsT _ (⟨_, _, some (_, true)⟩ :: _) _ _ _ _; first | refine T.goT rfl (by omega) ?_ | refine T.paT rfl (by omega) ?_ | refine T.go rfl rfl ?_ | refine T.pass rfl rfl ?_ | refine T.pU rfl ?_ | refine T.gT rfl (fun hg => ?_) (fun hg => ?_))
        | (show WOpsT _ (⟨_, _, some (_, false)⟩ :: _) _ _ _ _; first | refine T.goF rfl (by omega) ?_ | refine T.paF rfl (by omega) ?_ | refine T.go rfl rfl ?_ | refine T.pass rfl rfl ?_ | refine T.pU rfl ?_ | refine T.gF rfl (fun hg => ?_) (fun hg => ?_))
        | (show WOpsT _ (⟨_, .pick _ _ _, none⟩ :: _) _ _ _ _; first | refine T.pkT rfl (by omega) ?_ | refine T.pkF rfl (by omega) ?_ | refine T.pickT rfl rfl ?_ | refine T.pickF rfl rfl ?_ | refine T.pickB rfl rfl rfl ?_ | refine T.pkD rfl (fun hg => ?_) (fun hg => ?_))
        | (show AKW _ _ _ _ _ _ _; first | refine N.now ?_)
        | (show AK _ _ (.cond _ _ _) _ _ _ _; first | refine N.cT rfl (by omega) ?_ | refine N.cF rfl (by omega) ?_ | refine N.condT rfl rfl ?_ | refine N.condF rfl rfl ?_ | refine N.condD rfl (fun hc => ?_) (fun hc => ?_) | refine N.condB rfl (fun hc => ?_) (fun hc => ?_))
        | (show AK _ _ _ _ _ _ _; first | refine N.seq ?_ | refine N.block ?_ | refine N.skip ?_ | refine N.exit ?_ | refine N.ret ?_)
        | (show RK _ _ _ _ _ _ _; first | refine N.seqN ?_ | refine N.blkN ?_ | refine N.blkE rfl ?_ | refine N.blkX (by decide) ?_ | refine N.seqX ?_ | refine N.lpX ?_ | refine N.seqR ?_ | refine N.blkR ?_ | refine N.lpR ?_ | refine N.lpN ?_ | refine N.nil ?_)
        | (show WOpsT _ _ _ _ _ _; first | refine T.min2 rfl rfl rfl ?_ | refine T.max2 rfl rfl rfl ?_ | refine T.ext rfl rfl ?_ | refine T.lenc ?_ | refine T.notD rfl ?_ | refine T.not rfl ?_ | refine T.eqb0 rfl rfl ?_ | refine T.eqb1 rfl rfl ?_ | refine T.cvt rfl ?_ | refine T.fad rfl rfl rfl ?_ | refine T.fadd rfl ?_ | refine T.nilc rfl rfl rfl ?_ | refine T.nilcd rfl ?_ | refine T.st rfl rfl rfl ⟨rfl, rfl⟩ rfl (Nat.le_of_ble_eq_true rfl) ?_ | refine T.fld rfl rfl ?_ | refine T.new rfl ⟨rfl, by decide⟩ ?_ | refine T.zero (by decide) ?_ | refine T.build rfl ?_ | refine T.len rfl rfl rfl ?_ | refine T.lenS rfl ?_ | refine T.lenN rfl ?_ | refine T.mkf ?_ | refine T.mki ?_ | refine T.mksl rfl rfl (by decide) ?_ | refine T.copy rfl rfl rfl ⟨rfl, rfl⟩ ?_ | refine T.ixa rfl rfl (by omega) rfl ?_ | refine T.bsl rfl (by decide) ?_ | refine T.slc rfl rfl rfl rfl ⟨rfl, rfl⟩ (by omega) ?_ | refine T.slcS rfl rfl rfl rfl (by omega) ?_)
        | refine hQ _ _ _ rfl ?_)
      exact hC _ _ 2 (by decide) (by decide) (Weaks.gc [0] 1 rfl (by repeat (first | exact trivial | refine ⟨.rfl, ?_⟩ | refine ⟨.any, ?_⟩)) rfl)
    · skip
      repeat' (first
        | refine N.regS fun K hK => ?_
        | refine N.dregS fun K hK => ?_
        | refine N.regN fun K hK => ?_
        | refine N.dregN fun K hK => ?_
        | simp only [T.mv, AO.ev, put, lk, enter, reduceIte, Nat.reduceEqDiff, Nat.reduceAdd, Nat.reduceMul, Nat.reduceSub, ren_c, ren_tup, ren_agg, ren_sl, List.map, Int.reduceNeg, Int.toNat_zero, Nat.zero_add, Nat.add_zero, List.length_cons, List.length_nil, List.nil_append, List.cons_append, List.set_cons_zero, List.set_cons_succ, Int.reduceToNat, List.take_zero, upto, ren_psl, ren_ptr, List.getElem?_cons_zero, List.getElem?_cons_succ, renB, cells_ren, decide_eq_true_eq, Bool.false_eq_true, true_iff, iff_true, false_iff, iff_false]
        | (refine T.nil ?_; (first | refine hK _ _ _ (by rfl) ?_ | refine hK _ _ _ ?_); simp only [keep, List.map, lk, reduceIte, Nat.reduceEqDiff, enter]; clear hK; clear K)
        | (show WOpsT _ (⟨_, .call _ _, none⟩ :: _) _ _ _ _; first | refine T.call0 e44 rfl (s1) ?_ | refine T.call0 e46 rfl (t1) ?_ | refine T.call0 e45 rfl (timread_ok _ _ _ _ _ (by omega)) ?_)
        | (show WOpsT _ (⟨_, .ld _ _, none⟩ :: _) _ _ _ _; first | refine T.ld rfl rfl rfl rfl rfl ?_ | refine T.ldd rfl rfl ?_ | refine T.ldn rfl rfl rfl rfl (Nat.le_of_ble_eq_true rfl) ?_ | refine T.lddn rfl (Nat.le_of_ble_eq_true rfl) ?_)
        | (show WOpsT _ (⟨_, .idx _ _ _ _, none⟩ :: _) _ _ _ _; first | refine T.idx rfl rfl rfl ⟨rfl, rfl⟩ (by omega) ?_ | refine T.idxs rfl rfl rfl (by omega) rfl ?_ | refine T.idxa rfl rfl rfl rfl (by omega) ?_ | refine T.idxd rfl rfl (by omega) ?_)
        | (show WOpsT _ (⟨_, .bin _ _ _, none⟩ :: _) _ _ _ _; first | refine T.add rfl rfl (by omega) (by omega) ?_ | refine T.sub rfl rfl (by omega) (by omega) ?_ | refine T.rem rfl rfl (by omega) ?_ | refine T.quo rfl rfl (by omega) ?_ | refine T.shl rfl rfl (by omega) ?_ | refine T.shr rfl rfl (by omega) ?_ | refine T.bin rfl rfl rfl ?_)
        | (show WOpsT _ (⟨_, _, some (_, true)⟩ :: _) _ _ _ _; first | refine T.goT rfl (by omega) ?_ | refine T.paT rfl (by omega) ?_ | refine T.go rfl rfl ?_ | refine T.pass rfl rfl ?_ | refine T.pU rfl ?_ | refine T.gT rfl (fun hg => ?_) (fun hg => ?_))
        | (show WOpsT _ (⟨_, _, some (_, false)⟩ :: _) _ _ _ _; first | refine T.goF rfl (by omega) ?_ | refine T.paF rfl (by omega) ?_ | refine T.go rfl rfl ?_ | refine T.pass rfl rfl ?_ | refine T.pU rfl ?_ | refine T.gF rfl (fun hg => ?_) (fun hg => ?_))
        | (show WOpsT _ (⟨_, .pick _ _ _, none⟩ :: _) _ _ _ _; first | refine T.pkT rfl (by omega) ?_ | refine T.pkF rfl (by omega) ?_ | refine T.pickT rfl rfl ?_ | refine T.pickF rfl rfl ?_ | refine T.pickB rfl rfl rfl ?_ | refine T.pkD rfl (fun hg => ?_) (fun hg => ?_))
        | (show AKW _ _ _ _ _ _ _; first | refine N.now ?_)
        | (show AK _ _ (.cond _ _ _) _ _ _ _; first | refine N.cT rfl (by omega) ?_ | refine N.cF rfl (by omega) ?_ | refine N.condT rfl rfl ?_ | refine N.condF rfl rfl ?_ | refine N.condD rfl (fun hc => ?_) (fun hc => ?_) | refine N.condB rfl (fun hc => ?_) (fun hc => ?_))
        | (show AK _ _ _ _ _ _ _; first | refine N.seq ?_ | refine N.block ?_ | refine N.skip ?_ | refine N.exit ?_ | refine N.ret ?_)
        | (show RK _ _ _ _ _ _ _; first | refine N.seqN ?_ | refine N.blkN ?_ | refine N.blkE rfl ?_ | refine N.blkX (by decide) ?_ | refine N.seqX ?_ | refine N.lpX ?_ | refine N.seqR ?_ | refine N.blkR ?_ | refine N.lpR ?_ | refine N.lpN ?_ | refine N.nil ?_)
        | (show WOpsT _ _ _ _ _ _; first | refine T.min2 rfl rfl rfl ?_ | refine T.max2 rfl rfl rfl ?_ | refine T.ext rfl rfl ?_ | refine T.lenc ?_ | refine T.notD rfl ?_ | refine T.not rfl ?_ | refine T.eqb0 rfl rfl ?_ | refine T.eqb1 rfl rfl ?_ | refine T.cvt rfl ?_ | refine T.fad rfl rfl rfl ?_ | refine T.fadd rfl ?_ | refine T.nilc rfl rfl rfl ?_ | refine T.nilcd rfl ?_ | refine T.st rfl rfl rfl ⟨rfl, rfl⟩ rfl (Nat.le_of_ble_eq_true rfl) ?_ | refine T.fld rfl rfl ?_ | refine T.new rfl ⟨rfl, by decide⟩ ?_ | refine T.zero (by decide) ?_ | refine T.build rfl ?_ | refine T.len rfl rfl rfl ?_ | refine T.lenS rfl ?_ | refine T.lenN rfl ?_ | refine T.mkf ?_ | refine T.mki ?_ | refine T.mksl rfl rfl (by decide) ?_ | refine T.copy rfl rfl rfl ⟨rfl, rfl⟩ ?_ | refine T.ixa rfl rfl (by omega) rfl ?_ | refine T.bsl rfl (by decide) ?_ | refine T.slc rfl rfl rfl rfl ⟨rfl, rfl⟩ (by omega) ?_ | refine T.slcS rfl rfl rfl rfl (by omega) ?_)
        | refine hQ _ _ _ rfl ?_)
      exact hC _ _ 3 (by decide) (by decide) (Weaks.gc [0] 1 rfl (by repeat (first | exact trivial | refine ⟨.rfl, ?_⟩ | refine ⟨.any, ?_⟩)) rfl)
    · skip
      repeat' (first
        | refine N.regS fun K hK => ?_
        | refine N.dregS fun K hK => ?_
        | refine N.regN fun K hK => ?_
        | refine N.dregN fun K hK => ?_
        | simp only [T.mv, AO.ev, put, lk, enter, reduceIte, Nat.reduceEqDiff, Nat.reduceAdd, Nat.reduceMul, Nat.reduceSub, ren_c, ren_tup, ren_agg, ren_sl, List.map, Int.reduceNeg, Int.toNat_zero, Nat.zero_add, Nat.add_zero, List.length_cons, List.length_nil, List.nil_append, List.cons_append, List.set_cons_zero, List.set_cons_succ, Int.reduceToNat, List.take_zero, upto, ren_psl, ren_ptr, List.getElem?_cons_zero, List.getElem?_cons_succ, renB, cells_ren, decide_eq_true_eq, Bool.false_eq_true, true_iff, iff_true, false_iff, iff_false]
        | (refine T.nil ?_; (first | refine hK _ _ _ (by rfl) ?_ | refine hK _ _ _ ?_); simp only [keep, List.map, lk, reduceIte, Nat.reduceEqDiff, enter]; clear hK; clear K)
        | (show WOpsT _ (⟨_, .call _ _, none⟩ :: _) _ _ _ _; first | refine T.call0 e47 rfl (timers_ok) ?_)
        | (show WOpsT _ (⟨_, .ld _ _, none⟩ :: _) _ _ _ _; first | refine T.ld rfl rfl rfl rfl rfl ?_ | refine T.ldd rfl rfl ?_ | refine T.ldn rfl rfl rfl rfl (Nat.le_of_ble_eq_true rfl) ?_ | refine T.lddn rfl (Nat.le_of_ble_eq_true rfl) ?_)
        | (show WOpsT _ (⟨_, .idx _ _ _ _, none⟩ :: _) _ _ _ _; first | refine T.idx rfl rfl rfl ⟨rfl, rfl⟩ (by omega) ?_ | refine T.idxs rfl rfl rfl (by omega) rfl ?_ | refine T.idxa rfl rfl rfl rfl (by omega) ?_ | refine T.idxd rfl rfl (by omega) ?_)
        | (show WOpsT _ (⟨_, .bin _ _ _, none⟩ :: _) _ _ _ _; first | refine T.add rfl rfl (by omega) (by omega) ?_ | refine T.sub rfl rfl (by omega) (by omega) ?_ | refine T.rem rfl rfl (by omega) ?_ | refine T.quo rfl rfl (by omega) ?_ | refine T.shl rfl rfl (by omega) ?_ | refine T.shr rfl rfl (by omega) ?_ | refine T.bin rfl rfl rfl ?_)
        | (show WOpsT _ (⟨_, _, some (_, true)⟩ :: _) _ _ _ _; first | refine T.goT rfl (by omega) ?_ | refine T.paT rfl (by omega) ?_ | refine T.go rfl rfl ?_ | refine T.pass rfl rfl ?_ | refine T.pU rfl ?_ | refine T.gT rfl (fun hg => ?_) (fun hg => ?_))
        | (show WOpsT _ (⟨_, _, some (_, false)⟩ :: _) _ _ _ _; first | refine T.goF rfl (by omega) ?_ | refine T.paF rfl (by omega) ?_ | refine T.go rfl rfl ?_ | refine T.pass rfl rfl ?_ | refine T.pU rfl ?_ | refine T.gF rfl (fun hg => ?_) (fun hg => ?_))
        | (show WOpsT _ (⟨_, .pick _ _ _, none⟩ :: _) _ _ _ _; first | refine T.pkT rfl (by omega) ?_ | refine T.pkF rfl (by omega) ?_ | refine T.pickT rfl rfl ?_ | refine T.pickF rfl rfl ?_ | refine T.pickB rfl rfl rfl ?_ | refine T.pkD rfl (fun hg => ?_) (fun hg => ?_))
        | (show AKW _ _ _ _ _ _ _; first | refine N.now ?_)
        | (show AK _ _ (.cond _ _ _) _ _ _ _; first | refine N.cT rfl (by omega) ?_ | refine N.cF rfl (by omega) ?_ | refine N.condT rfl rfl ?_ | refine N.condF rfl rfl ?_ | refine N.condD rfl (fun hc => ?_) (fun hc => ?_) | refine N.condB rfl (fun hc => ?_) (fun hc => ?_))
        | (show AK _ _ _ _ _ _ _; first | refine N.seq ?_ | refine N.block ?_ | refine N.skip ?_ | refine N.exit ?_ | refine N.ret ?_)
        | (show RK _ _ _ _ _ _ _; first | refine N.seqN ?_ | refine N.blkN ?_ | refine N.blkE rfl ?_ | refine N.blkX (by decide) ?_ | refine N.seqX ?_ | refine N.lpX ?_ | refine N.seqR ?_ | refine N.blkR ?_ | refine N.lpR ?_ | refine N.lpN ?_ | refine N.nil ?_)
        | (show WOpsT _ _ _ _ _ _; first | refine T.min2 rfl rfl rfl ?_ | refine T.max2 rfl rfl rfl ?_ | refine T.ext rfl rfl ?_ | refine T.lenc ?_ | refine T.notD rfl ?_ | refine T.not rfl ?_ | refine T.eqb0 rfl rfl ?_ | refine T.eqb1 rfl rfl ?_ | refine T.cvt rfl ?_ | refine T.fad rfl rfl rfl ?_ | refine T.fadd rfl ?_ | refine T.nilc rfl rfl rfl ?_ | refine T.nilcd rfl ?_ | refine T.st rfl rfl rfl ⟨rfl, rfl⟩ rfl (Nat.le_of_ble_eq_true rfl) ?_ | refine T.fld rfl rfl ?_ | refine T.new rfl ⟨rfl, by decide⟩ ?_ | refine T.zero (by decide) ?_ | refine T.build rfl ?_ | refine T.len rfl rfl rfl ?_ | refine T.lenS rfl ?_ | refine T.lenN rfl ?_ | refine T.mkf ?_ | refine T.mki ?_ | refine T.mksl rfl rfl (by decide) ?_ | refine T.copy rfl rfl rfl ⟨rfl, rfl⟩ ?_ | refine T.ixa rfl rfl (by omega) rfl ?_ | refine T.bsl rfl (by decide) ?_ | refine T.slc rfl rfl rfl rfl ⟨rfl, rfl⟩ (by omega) ?_ | refine T.slcS rfl rfl rfl rfl (by omega) ?_)
        | refine hQ _ _ _ rfl ?_)
      exact WS.c rfl rfl
  · have s0 : FnE Try.prog 44 [dev [x, x, 7, 0] [], I x] [] (dev [0, x, 7, 0] []) [] := by
      have := timskip_ok x x 7 0 x [] (by omega) (by omega)
      rw [show skip4 x x 7 0 x = [0, x, 7, 0] by simp only [skip4]; (repeat' split) <;> first | omega | (congr 1; omega)] at this
      exact this
    have t0 : FnE Try.prog 46 [dev [0, x, 7, 0] []] [] (dev [x, x, 7, 1] []) [] := by
      have := timtick_ok 0 x 7 0 [] (by omega)
      rw [show skip4 0 x 7 0 1 = [x, x, 7, 1] by simp [skip4]] at this
      exact this
    repeat' (first
      | refine N.regS fun K hK => ?_
      | refine N.dregS fun K hK => ?_
      | refine N.regN fun K hK => ?_
      | refine N.dregN fun K hK => ?_
      | simp only [T.mv, AO.ev, put, lk, enter, reduceIte, Nat.reduceEqDiff, Nat.reduceAdd, Nat.reduceMul, Nat.reduceSub, ren_c, ren_tup, ren_agg, ren_sl, List.map, Int.reduceNeg, Int.toNat_zero, Nat.zero_add, Nat.add_zero, List.length_cons, List.length_nil, List.nil_append, List.cons_append, List.set_cons_zero, List.set_cons_succ, Int.reduceToNat, List.take_zero, upto, ren_psl, ren_ptr, List.getElem?_cons_zero, List.getElem?_cons_succ, renB, cells_ren, decide_eq_true_eq, Bool.false_eq_true, true_iff, iff_true, false_iff, iff_false]
      | (refine T.nil ?_; (first | refine hK _ _ _ (by rfl) ?_ | refine hK _ _ _ ?_); simp only [keep, List.map, lk, reduceIte, Nat.reduceEqDiff, enter]; clear hK; clear K)
      | (show WOpsT _ (⟨_, .call _ _, none⟩ :: _) _ _ _ _; first | refine T.call0 e15 rfl (hB) ?_ | refine T.call0 e43 rfl (timnew_ok) ?_ | refine T.call0 e42 rfl (h0) ?_ | refine T.call0 e42 rfl (h1) ?_ | refine T.call0 e42 rfl (h2) ?_ | refine T.call0 e42 rfl (h3) ?_)
      | (show WOpsT _ (⟨_, .ld _ _, none⟩ :: _) _ _ _ _; first | refine T.ld rfl rfl rfl rfl rfl ?_ | refine T.ldd rfl rfl ?_ | refine T.ldn rfl rfl rfl rfl (Nat.le_of_ble_eq_true rfl) ?_ | refine T.lddn rfl (Nat.le_of_ble_eq_true rfl) ?_)
      | (show WOpsT _ (⟨_, .idx _ _ _ _, none⟩ :: _) _ _ _ _; first | refine T.idx rfl rfl rfl ⟨rfl, rfl⟩ (by omega) ?_ | refine T.idxs rfl rfl rfl (by omega) rfl ?_ | refine T.idxa rfl rfl rfl rfl (by omega) ?_ | refine T.idxd rfl rfl (by omega) ?_)
      | (show WOpsT _ (⟨_, .bin _ _ _, none⟩ :: _) _ _ _ _; first | refine T.add rfl rfl (by omega) (by omega) ?_ | refine T.sub rfl rfl (by omega) (by omega) ?_ | refine T.rem rfl rfl (by omega) ?_ | refine T.quo rfl rfl (by omega) ?_ | refine T.shl rfl rfl (by omega) ?_ | refine T.shr rfl rfl (by omega) ?_ | refine T.bin rfl rfl rfl ?_)
      | (show WOpsT _ (⟨_, _, some (_, true)⟩ :: _) _ _ _ _; first | refine T.goT rfl (by omega) ?_ | refine T.paT rfl (by omega) ?_ | refine T.go rfl rfl ?_ | refine T.pass rfl rfl ?_ | refine T.pU rfl ?_ | refine T.gT rfl (fun hg => ?_) (fun hg => ?_))
      | (show WOpsT _ (⟨_, _, some (_, false)⟩ :: _) _ _ _ _; first | refine T.goF rfl (by omega) ?_ | refine T.paF rfl (by omega) ?_ | refine T.go rfl rfl ?_ | refine T.pass rfl rfl ?_ | refine T.pU rfl ?_ | refine T.gF rfl (fun hg => ?_) (fun hg => ?_))
      | (show WOpsT _ (⟨_, .pick _ _ _, none⟩ :: _) _ _ _ _; first | refine T.pkT rfl (by omega) ?_ | refine T.pkF rfl (by omega) ?_ | refine T.pickT rfl rfl ?_ | refine T.pickF rfl rfl ?_ | refine T.pickB rfl rfl rfl ?_ | refine T.pkD rfl (fun hg => ?_) (fun hg => ?_))
      | (show AKW _ _ _ _ _ _ _; first | refine N.now ?_)
      | (show AK _ _ (.cond _ _ _) _ _ _ _; first | refine N.cT rfl (by omega) ?_ | refine N.cF rfl (by omega) ?_ | refine N.condT rfl rfl ?_ | refine N.condF rfl rfl ?_ | refine N.condD rfl (fun hc => ?_) (fun hc => ?_) | refine N.condB rfl (fun hc => ?_) (fun hc => ?_))
      | (show AK _ _ _ _ _ _ _; first | refine N.seq ?_ | refine N.block ?_ | refine N.skip ?_ | refine N.exit ?_ | refine N.ret ?_)
      | (show RK _ _ _ _ _ _ _; first | refine N.seqN ?_ | refine N.blkN ?_ | refine N.blkE rfl ?_ | refine N.blkX (by decide) ?_ | refine N.seqX ?_ | refine N.lpX ?_ | refine N.seqR ?_ | refine N.blkR ?_ | refine N.lpR ?_ | refine N.lpN ?_ | refine N.nil ?_)
      | (show WOpsT _ _ _ _ _ _; first | refine T.min2 rfl rfl rfl ?_ | refine T.max2 rfl rfl rfl ?_ | refine T.ext rfl rfl ?_ | refine T.lenc ?_ | refine T.notD rfl ?_ | refine T.not rfl ?_ | refine T.eqb0 rfl rfl ?_ | refine T.eqb1 rfl rfl ?_ | refine T.cvt rfl ?_ | refine T.fad rfl rfl rfl ?_ | refine T.fadd rfl ?_ | refine T.nilc rfl rfl rfl ?_ | refine T.nilcd rfl ?_ | refine T.st rfl rfl rfl ⟨rfl, rfl⟩ rfl (Nat.le_of_ble_eq_true rfl) ?_ | refine T.fld rfl rfl ?_ | refine T.new rfl ⟨rfl, by decide⟩ ?_ | refine T.zero (by decide) ?_ | refine T.build rfl ?_ | refine T.len rfl rfl rfl ?_ | refine T.lenS rfl ?_ | refine T.lenN rfl ?_ | refine T.mkf ?_ | refine T.mki ?_ | refine T.mksl rfl rfl (by decide) ?_ | refine T.copy rfl rfl rfl ⟨rfl, rfl⟩ ?_ | refine T.ixa rfl rfl (by omega) rfl ?_ | refine T.bsl rfl (by decide) ?_ | refine T.slc rfl rfl rfl rfl ⟨rfl, rfl⟩ (by omega) ?_ | refine T.slcS rfl rfl rfl rfl (by omega) ?_)
      | refine hQ _ _ _ rfl ?_)
    refine N.loop (σ := Nat) (fun r => [(0, I x), (1, .c (.bool true)), (5, .ptr 0 1 0 0), (24, I r)]) (fun r => [⟨1, 2, [[.sl 1 (cells [x, x, 7, 0]), .sl 1 (cells [])]]⟩]) (fun r => r ≤ 3) (fun r => 3 - r) 0 (by decide) (Weaks.sel (by repeat (first | exact trivial | refine ⟨.rfl, ?_⟩ | refine ⟨.any, ?_⟩)) rfl) fun r hr C hC => ?_
    obtain rfl | rfl | rfl | rfl := hW r hr
    · skip
      repeat' (first
        | refine N.regS fun K hK => ?_
        | refine N.dregS fun K hK => ?_
        | refine N.regN fun K hK => ?_
        | refine N.dregN fun K hK => ?_
        | simp only [T.mv, AO.ev, put, lk, enter, reduceIte, Nat.reduceEqDiff, Nat.reduceAdd, Nat.reduceMul, Nat.reduceSub, ren_c, ren_tup, ren_agg, ren_sl, List.map, Int.reduceNeg, Int.toNat_zero, Nat.zero_add, Nat.add_zero, List.length_cons, List.length_nil, List.nil_append, List.cons_append, List.set_cons_zero, List.set_cons_succ, Int.reduceToNat, List.take_zero, upto, ren_psl, ren_ptr, List.getElem?_cons_zero, List.getElem?_cons_succ, renB, cells_ren, decide_eq_true_eq, Bool.false_eq_true, true_iff, iff_true, false_iff, iff_false]
        | (refine T.nil ?_; (first | refine hK _ _ _ (by rfl) ?_ | refine hK _ _ _ ?_); simp only [keep, List.map, lk, reduceIte, Nat.reduceEqDiff, enter]; clear hK; clear K)
        | (show WOpsT _ (⟨_, .call _ _, none⟩ :: _) _ _ _ _; first | refine T.call0 e44 rfl (s0) ?_ | refine T.call0 e46 rfl (t0) ?_ | refine T.call0 e45 rfl (timread_ok _ _ _ _ _ (by omega)) ?_)
        | (show WOpsT _ (⟨_, .ld _ _, none⟩ :: _) _ _ _ _; first | refine T.ld rfl rfl rfl rfl rfl ?_ | refine T.ldd rfl rfl ?_ | refine T.ldn rfl rfl rfl rfl (Nat.le_of_ble_eq_true rfl) ?_ | refine T.lddn rfl (Nat.le_of_ble_eq_true rfl) ?_)
        | (show WOpsT _ (⟨_, .idx _ _ _ _, none⟩ :: _) _ _ _ _; first | refine T.idx rfl rfl rfl ⟨rfl, rfl⟩ (by omega) ?_ | refine T.idxs rfl rfl rfl (by omega) rfl ?_ | refine T.idxa rfl rfl rfl rfl (by omega) ?_ | refine T.idxd rfl rfl (by omega) ?_)
        | (show WOpsT _ (⟨_, .bin _ _ _, none⟩ :: _) _ _ _ _; first | refine T.add rfl rfl (by omega) (by omega) ?_ | refine T.sub rfl rfl (by omega) (by omega) ?_ | refine T.rem rfl rfl (by omega) ?_ | refine T.quo rfl rfl (by omega) ?_ | refine T.shl rfl rfl (by omega) ?_ | refine T.shr rfl rfl (by omega) ?_ | refine T.bin rfl rfl rfl ?_)
        | (show WOpsT _ (⟨_, _, some (_, true)⟩ :: _) _ _ _ _; first | refine T.goT rfl (by omega) ?_ | refine T.paT rfl (by omega) ?_ | refine T.go rfl rfl ?_ | refine T.pass rfl rfl ?_ | refine T.pU rfl ?_ | refine T.gT rfl (fun hg => ?_) (fun hg => ?_))
        | (show WOpsT _ (⟨_, _, some (_, false)⟩ :: _) _ _ _ _; first | refine T.goF rfl (by omega) ?_ | refine T.paF rfl (by omega) ?_ | refine T.go rfl rfl ?_ | refine T.pass rfl rfl ?_ | refine T.pU rfl ?_ | refine T.gF rfl (fun hg => ?_) (fun hg => ?_))
        | (show WOpsT _ (⟨_, .pick _ _ _, none⟩ :: _) _ _ _ _; first | refine T.pkT rfl (by omega) ?_ | refine T.pkF rfl (by omega) ?_ | refine T.pickT rfl rfl ?_ | refine T.pickF rfl rfl ?_ | refine T.pickB rfl rfl rfl ?_ | refine T.pkD rfl (fun hg => ?_) (fun hg => ?_))
        | (show AKW _ _ _ _ _ _ _; first | refine N.now ?_)
        | (show AK _ _ (.cond _ _ _) _ _ _ _; first | refine N.cT rfl (by omega) ?_ | refine N.cF rfl (by omega) ?_ | refine N.condT rfl rfl ?_ | refine N.condF rfl rfl ?_ | refine N.condD rfl (fun hc => ?_) (fun hc => ?_) | refine N.condB rfl (fun hc => ?_) (fun hc => ?_))
        | (show AK _ _ _ _ _ _ _; first | refine N.seq ?_ | refine N.block ?_ | refine N.skip ?_ | refine N.exit ?_ | refine N.ret ?_)
        | (show RK _ _ _ _ _ _ _; first | refine N.seqN ?_ | refine N.blkN ?_ | refine N.blkE rfl ?_ | refine N.blkX (by decide) ?_ | refine N.seqX ?_ | refine N.lpX ?_ | refine N.seqR ?_ | refine N.blkR ?_ | refine N.lpR ?_ | refine N.lpN ?_ | refine N.nil ?_)
        | (show WOpsT _ _ _ _ _ _; first | refine T.min2 rfl rfl rfl ?_ | refine T.max2 rfl rfl rfl ?_ | refine T.ext rfl rfl ?_ | refine T.lenc ?_ | refine T.notD rfl ?_ | refine T.not rfl ?_ | refine T.eqb0 rfl rfl ?_ | refine T.eqb1 rfl rfl ?_ | refine T.cvt rfl ?_ | refine T.fad rfl rfl rfl ?_ | refine T.fadd rfl ?_ | refine T.nilc rfl rfl rfl ?_ | refine T.nilcd rfl ?_ | refine T.st rfl rfl rfl ⟨rfl, rfl⟩ rfl (Nat.le_of_ble_eq_true rfl) ?_ | refine T.fld rfl rfl ?_ | refine T.new rfl ⟨rfl, by decide⟩ ?_ | refine T.zero (by decide) ?_ | refine T.build rfl ?_ | refine T.len rfl rfl rfl ?_ | refine T.lenS rfl ?_ | refine T.lenN rfl ?_ | refine T.mkf ?_ | refine T.mki ?_ | refine T.mksl rfl rfl (by decide) ?_ | refine T.copy rfl rfl rfl ⟨rfl, rfl⟩ ?_ | refine T.ixa rfl rfl (by omega) rfl ?_ | refine T.bsl rfl (by decide) ?_ | refine T.slc rfl rfl rfl rfl ⟨rfl, rfl⟩ (by omega) ?_ | refine T.slcS rfl rfl rfl rfl (by omega) ?_)
        | refine hQ _ _ _ rfl ?_)
      exact hC _ _ 1 (by decide) (by decide) (Weaks.gc [0] 1 rfl (by repeat (first | exact trivial | refine ⟨.rfl, ?_⟩ | refine ⟨.any, ?_⟩)) rfl)
    · skip
      repeat' (first
        | refine N.regS fun K hK => ?_
        | refine N.dregS fun K hK => ?_
        | refine N.regN fun K hK => ?_
        | refine N.dregN fun K hK => ?_
        | simp only [T.mv, AO.ev, put, lk, enter, reduceIte, Nat.reduceEqDiff, Nat.reduceAdd, Nat.reduceMul, Nat.reduceSub, ren_c, ren_tup, ren_agg, ren_sl, List.map, Int.reduceNeg, Int.toNat_zero, Nat.zero_add, Nat.add_zero, List.length_cons, List.length_nil, List.nil_append, List.cons_append, List.set_cons_zero, List.set_cons_succ, Int.reduceToNat, List.take_zero, upto, ren_psl, ren_ptr, List.getElem?_cons_zero, List.getElem?_cons_succ, renB, cells_ren, decide_eq_true_eq, Bool.false_eq_true, true_iff, iff_true, false_iff, iff_false]
        | (refine T.nil ?_; (first | refine hK _ _ _ (by rfl) ?_ | refine hK _ _ _ ?_); simp only [keep, List.map, lk, reduceIte, Nat.reduceEqDiff, enter]; clear hK; clear K)
        | (show WOpsT _ (⟨_, .call _ _, none⟩ :: _) _ _ _ _; first | refine T.call0 e44 rfl (s0) ?_ | refine T.call0 e46 rfl (t0) ?_ | refine T.call0 e45 rfl (timread_ok _ _ _ _ _ (by omega)) ?_)
        | (show WOpsT _ (⟨_, .ld _ _, none⟩ :: _) _ _ _ _; first | refine T.ld rfl rfl rfl rfl rfl ?_ | refine T.ldd rfl rfl ?_ | refine T.ldn rfl rfl rfl rfl (Nat.le_of_ble_eq_true rfl) ?_ | refine T.lddn rfl (Nat.le_of_ble_eq_true rfl) ?_)
        | (show WOpsT _ (⟨_, .idx _ _ _ _, none⟩ :: _) _ _ _ _; first | refine T.idx rfl rfl rfl ⟨rfl, rfl⟩ (by omega) ?_ | refine T.idxs rfl rfl rfl (by omega) rfl ?_ | refine T.idxa rfl rfl rfl rfl (by omega) ?_ | refine T.idxd rfl rfl (by omega) ?_)
        | (show WOpsT _ (⟨_, .bin _ _ _, none⟩ :: _) _ _ _ _; first | refine T.add rfl rfl (by omega) (by omega) ?_ | refine T.sub rfl rfl (by omega) (by omega) ?_ | refine T.rem rfl rfl (by omega) ?_ | refine T.quo rfl rfl (by omega) ?_ | refine T.shl rfl rfl (by omega) ?_ | refine T.shr rfl rfl (by omega) ?_ | refine T.bin rfl rfl rfl ?_)
        | (show WOpsT _ (⟨_, _, some (_, true)⟩ :: _) _ _ _ _; first | refine T.goT rfl (by omega) ?_ | refine T.paT rfl (by omega) ?_ | refine T.go rfl rfl ?_ | refine T.pass rfl rfl ?_ | refine T.pU rfl ?_ | refine T.gT rfl (fun hg => ?_) (fun hg => ?_))
        | (show WOpsT _ (⟨_, _, some (_, false)⟩ :: _) _ _ _ _; first | refine T.goF rfl (by omega) ?_ | refine T.paF rfl (by omega) ?_ | refine T.go rfl rfl ?_ | refine T.pass rfl rfl ?_ | refine T.pU rfl ?_ | refine T.gF rfl (fun hg => ?_) (fun hg => ?_))
        | (show WOpsT _ (⟨_, .pick _ _ _, none⟩ :: _) _ _ _ _; first | refine T.pkT rfl (by omega) ?_ | refine T.pkF rfl (by omega) ?_ | refine T.pickT rfl rfl ?_ | refine T.pickF rfl rfl ?_ | refine T.pickB rfl rfl rfl ?_ | refine T.pkD rfl (fun hg => ?_) (fun hg => ?_))
        | (show AKW _ _ _ _ _ _ _; first | refine N.now ?_)
        | (show AK _ _ (.cond _ _ _) _ _ _ _; first | refine N.cT rfl (by omega) ?_ | refine N.cF rfl (by omega) ?_ | refine N.condT rfl rfl ?_ | refine N.condF rfl rfl ?_ | refine N.condD rfl (fun hc => ?_) (fun hc => ?_) | refine N.condB rfl (fun hc => ?_) (fun hc => ?_))
        | (show AK _ _ _ _ _ _ _; first | refine N.seq ?_ | refine N.block ?_ | refine N.skip ?_ | refine N.exit ?_ | refine N.ret ?_)
        | (show RK _ _ _ _ _ _ _; first | refine N.seqN ?_ | refine N.blkN ?_ | refine N.blkE rfl ?_ | refine N.blkX (by decide) ?_ | refine N.seqX ?_ | refine N.lpX ?_ | refine N.seqR ?_ | refine N.blkR ?_ | refine N.lpR ?_ | refine N.lpN ?_ | refine N.nil ?_)
        | (show WOpsT _ _ _ _ _ _; first | refine T.min2 rfl rfl rfl ?_ | refine T.max2 rfl rfl rfl ?_ | refine T.ext rfl rfl ?_ | refine T.lenc ?_ | refine T.notD rfl ?_ | refine T.not rfl ?_ | refine T.eqb0 rfl rfl ?_ | refine T.eqb1 rfl rfl ?_ | refine T.cvt rfl ?_ | refine T.fad rfl rfl rfl ?_ | refine T.fadd rfl ?_ | refine T.nilc rfl rfl rfl ?_ | refine T.nilcd rfl ?_ | refine T.st rfl rfl rfl ⟨rfl, rfl⟩ rfl (Nat.le_of_ble_eq_true rfl) ?_ | refine T.fld rfl rfl ?_ | refine T.new rfl ⟨rfl, by decide⟩ ?_ | refine T.zero (by decide) ?_ | refine T.build rfl ?_ | refine T.len rfl rfl rfl ?_ | refine T.lenS rfl ?_ | refine T.lenN rfl ?_ | refine T.mkf ?_ | refine T.mki ?_ | refine T.mksl rfl rfl (by decide) ?_ | refine T.copy rfl rfl rfl ⟨rfl, rfl⟩ ?_ | refine T.ixa rfl rfl (by omega) rfl ?_ | refine T.bsl rfl (by decide) ?_ | refine T.slc rfl rfl rfl rfl ⟨rfl, rfl⟩ (by omega) ?_ | refine T.slcS rfl rfl rfl rfl (by omega) ?_)
        | refine hQ _ _ _ rfl ?_)
      exact hC _ _ 2 (by decide) (by decide) (Weaks.gc [0] 1 rfl (by repeat (first | exact trivial | refine ⟨.rfl, ?_⟩ | refine ⟨.any, ?_⟩)) rfl)
    · skip
      repeat' (first
        | refine N.regS fun K hK => ?_
        | refine N.dregS fun K hK => ?_
        | refine N.regN fun K hK => ?_
        | refine N.dregN fun K hK => ?_
        | simp only [T.mv, AO.ev, put, lk, enter, reduceIte, Nat.reduceEqDiff, Nat.reduceAdd, Nat.reduceMul, Nat.reduceSub, ren_c, ren_tup, ren_agg, ren_sl, List.map, Int.reduceNeg, Int.toNat_zero, Nat.zero_add, Nat.add_zero, List.length_cons, List.length_nil, List.nil_append, List.cons_append, List.set_cons_zero, List.set_cons_succ, Int.reduceToNat, List.take_zero, upto, ren_psl, ren_ptr, List.getElem?_cons_zero, List.getElem?_cons_succ, renB, cells_ren, decide_eq_true_eq, Bool.false_eq_true, true_iff, iff_true, false_iff, iff_false]
        | (refine T.nil ?_; (first | refine hK _ _ _ (by rfl) ?_ | refine hK _ _ _ ?_); simp only [keep, List.map, lk, reduceIte, Nat.reduceEqDiff, enter]; clear hK; clear K)
        | (show WOpsT _ (⟨_, .call _ _, none⟩ :: _) _ _ _ _; first | refine T.call0 e44 rfl (s0) ?_ | refine T.call0 e46 rfl (t0) ?_ | refine T.call0 e45 rfl (timread_ok _ _ _ _ _ (by omega)) ?_)
        | (show WOpsT _ (⟨_, .ld _ _, none⟩ :: _) _ _ _ _; first | refine T.ld rfl rfl rfl rfl rfl ?_ | refine T.ldd rfl rfl ?_ | refine T.ldn rfl rfl rfl rfl (Nat.le_of_ble_eq_true rfl) ?_ | refine T.lddn rfl (Nat.le_of_ble_eq_true rfl) ?_)
        | (show WOpsT _ (⟨_, .idx _ _ _ _, none⟩ :: _) _ _ _ _; first | refine T.idx rfl rfl rfl ⟨rfl, rfl⟩ (by omega) ?_ | refine T.idxs rfl rfl rfl (by omega) rfl ?_ | refine T.idxa rfl rfl rfl rfl (by omega) ?_ | refine T.idxd rfl rfl (by omega) ?_)
        | (show WOpsT _ (⟨_, .bin _ _ _, none⟩ :: _) _ _ _ _; first | refine T.add rfl rfl (by omega) (by omega) ?_ | refine T.sub rfl rfl (by omega) (by omega) ?_ | refine T.rem rfl rfl (by omega) ?_ | refine T.quo rfl rfl (by omega) ?_ | refine T.shl rfl rfl (by omega) ?_ | refine T.shr rfl rfl (by omega) ?_ | refine T.bin rfl rfl rfl ?_)
        | (show WOpsT _ (⟨_, _, some (_, true)⟩ :: _) _ _ _ _; first | refine T.goT rfl (by omega) ?_ | refine T.paT rfl (by omega) ?_ | refine T.go rfl rfl ?_ | refine T.pass rfl rfl ?_ | refine T.pU rfl ?_ | refine T.gT rfl (fun hg => ?_) (fun hg => ?_))
        | (show WOpsT _ (⟨_, _, some (_, false)⟩ :: _) _ _ _ _; first | refine T.goF rfl (by omega) ?_ | refine T.paF rfl (by omega) ?_ | refine T.go rfl rfl ?_ | refine T.pass rfl rfl ?_ | refine T.pU rfl ?_ | refine T.gF rfl (fun hg => ?_) (fun hg => ?_))
        | (show WOpsT _ (⟨_, .pick _ _ _, none⟩ :: _) _ _ _ _; first | refine T.pkT rfl (by omega) ?_ | refine T.pkF rfl (by omega) ?_ | refine T.pickT rfl rfl ?_ | refine T.pickF rfl rfl ?_ | refine T.pickB rfl rfl rfl ?_ | refine T.pkD rfl (fun hg => ?_) (fun hg => ?_))
        | (show AKW _ _ _ _ _ _ _; first | refine N.now ?_)
        | (show AK _ _ (.cond _ _ _) _ _ _ _; first | refine N.cT rfl (by omega) ?_ | refine N.cF rfl (by omega) ?_ | refine N.condT rfl rfl ?_ | refine N.condF rfl rfl ?_ | refine N.condD rfl (fun hc => ?_) (fun hc => ?_) | refine N.condB rfl (fun hc => ?_) (fun hc => ?_))
        | (show AK _ _ _ _ _ _ _; first | refine N.seq ?_ | refine N.block ?_ | refine N.skip ?_ | refine N.exit ?_ | refine N.ret ?_)
        | (show RK _ _ _ _ _ _ _; first | refine N.seqN ?_ | refine N.blkN ?_ | refine N.blkE rfl ?_ | refine N.blkX (by decide) ?_ | refine N.seqX ?_ | refine N.lpX ?_ | refine N.seqR ?_ | refine N.blkR ?_ | refine N.lpR ?_ | refine N.lpN ?_ | refine N.nil ?_)
        | (show WOpsT _ _ _ _ _ _; first | refine T.min2 rfl rfl rfl ?_ | refine T.max2 rfl rfl rfl ?_ | refine T.ext rfl rfl ?_ | refine T.lenc ?_ | refine T.notD rfl ?_ | refine T.not rfl ?_ | refine T.eqb0 rfl rfl ?_ | refine T.eqb1 rfl rfl ?_ | refine T.cvt rfl ?_ | refine T.fad rfl rfl rfl ?_ | refine T.fadd rfl ?_ | refine T.nilc rfl rfl rfl ?_ | refine T.nilcd rfl ?_ | refine T.st rfl rfl rfl ⟨rfl, rfl⟩ rfl (Nat.le_of_ble_eq_true rfl) ?_ | refine T.fld rfl rfl ?_ | refine T.new rfl ⟨rfl, by decide⟩ ?_ | refine T.zero (by decide) ?_ | refine T.build rfl ?_ | refine T.len rfl rfl rfl ?_ | refine T.lenS rfl ?_ | refine T.lenN rfl ?_ | refine T.mkf ?_ | refine T.mki ?_ | refine T.mksl rfl rfl (by decide) ?_ | refine T.copy rfl rfl rfl ⟨rfl, rfl⟩ ?_ | refine T.ixa rfl rfl (by omega) rfl ?_ | refine T.bsl rfl (by decide) ?_ | refine T.slc rfl rfl rfl rfl ⟨rfl, rfl⟩ (by omega) ?_ | refine T.slcS rfl rfl rfl rfl (by omega) ?_)
        | refine hQ _ _ _ rfl ?_)
      exact hC _ _ 3 (by decide) (by decide) (Weaks.gc [0] 1 rfl (by repeat (first | exact trivial | refine ⟨.rfl, ?_⟩ | refine ⟨.any, ?_⟩)) rfl)
    · skip
      repeat' (first
        | refine N.regS fun K hK => ?_
        | refine N.dregS fun K hK => ?_
        | refine N.regN fun K hK => ?_
        | refine N.dregN fun K hK => ?_
        | simp only [T.mv, AO.ev, put, lk, enter, reduceIte, Nat.reduceEqDiff, Nat.reduceAdd, Nat.reduceMul, Nat.reduceSub, ren_c, ren_tup, ren_agg, ren_sl, List.map, Int.reduceNeg, Int.toNat_zero, Nat.zero_add, Nat.add_zero, List.length_cons, List.length_nil, List.nil_append, List.cons_append, List.set_cons_zero, List.set_cons_succ, Int.reduceToNat, List.take_zero, upto, ren_psl, ren_ptr, List.getElem?_cons_zero, List.getElem?_cons_succ, renB, cells_ren, decide_eq_true_eq, Bool.false_eq_true, true_iff, iff_true, false_iff, iff_false]
        | (refine T.nil ?_; (first | refine hK _ _ _ (by rfl) ?_ | refine hK _ _ _ ?_); simp only [keep, List.map, lk, reduceIte, Nat.reduceEqDiff, enter]; clear hK; clear K)
        | (show WOpsT _ (⟨_, .call _ _, none⟩ :: _) _ _ _ _; first | refine T.call0 e47 rfl (timers_ok) ?_)
        | (show WOpsT _ (⟨_, .ld _ _, none⟩ :: _) _ _ _ _; first | refine T.ld rfl rfl rfl rfl rfl ?_ | refine T.ldd rfl rfl ?_ | refine T.ldn rfl rfl rfl rfl (Nat.le_of_ble_eq_true rfl) ?_ | refine T.lddn rfl (Nat.le_of_ble_eq_true rfl) ?_)
        | (show WOpsT _ (⟨_, .idx _ _ _ _, none⟩ :: _) _ _ _ _; first | refine T.idx rfl rfl rfl ⟨rfl, rfl⟩ (by omega) ?_ | refine T.idxs rfl rfl rfl (by omega) rfl ?_ | refine T.idxa rfl rfl rfl rfl (by omega) ?_ | refine T.idxd rfl rfl (by omega) ?_)
        | (show WOpsT _ (⟨_, .bin _ _ _, none⟩ :: _) _ _ _ _; first | refine T.add rfl rfl (by omega) (by omega) ?_ | refine T.sub rfl rfl (by omega) (by omega) ?_ | refine T.rem rfl rfl (by omega) ?_ | refine T.quo rfl rfl (by omega) ?_ | refine T.shl rfl rfl (by omega) ?_ | refine T.shr rfl rfl (by omega) ?_ | refine T.bin rfl rfl rfl ?_)
        | (show WOpsT _ (⟨_, _, some (_, true)⟩ :: _) _ _ _ _; first | refine T.goT rfl (by omega) ?_ | refine T.paT rfl (by omega) ?_ | refine T.go rfl rfl ?_ | refine T.pass rfl rfl ?_ | refine T.pU rfl ?_ | refine T.gT rfl (fun hg => ?_) (fun hg => ?_))
        | (show WOpsT _ (⟨_, _, some (_, false)⟩ :: _) _ _ _ _; first | refine T.goF rfl (by omega) ?_ | refine T.paF rfl (by omega) ?_ | refine T.go rfl rfl ?_ | refine T.pass rfl rfl ?_ | refine T.pU rfl ?_ | refine T.gF rfl (fun hg => ?_) (fun hg => ?_))
        | (show WOpsT _ (⟨_, .pick _ _ _, none⟩ :: _) _ _ _ _; first | refine T.pkT rfl (by omega) ?_ | refine T.pkF rfl (by omega) ?_ | refine T.pickT rfl rfl ?_ | refine T.pickF rfl rfl ?_ | refine T.pickB rfl rfl rfl ?_ | refine T.pkD rfl (fun hg => ?_) (fun hg => ?_))
        | (show AKW _ _ _ _ _ _ _; first | refine N.now ?_)
        | (show AK _ _ (.cond _ _ _) _ _ _ _; first | refine N.cT rfl (by omega) ?_ | refine N.cF rfl (by omega) ?_ | refine N.condT rfl rfl ?_ | refine N.condF rfl rfl ?_ | refine N.condD rfl (fun hc => ?_) (fun hc => ?_) | refine N.condB rfl (fun hc => ?_) (fun hc => ?_))
        | (show AK _ _ _ _ _ _ _; first | refine N.seq ?_ | refine N.block ?_ | refine N.skip ?_ | refine N.exit ?_ | refine N.ret ?_)
        | (show RK _ _ _ _ _ _ _; first | refine N.seqN ?_ | refine N.blkN ?_ | refine N.blkE rfl ?_ | refine N.blkX (by decide) ?_ | refine N.seqX ?_ | refine N.lpX ?_ | refine N.seqR ?_ | refine N.blkR ?_ | refine N.lpR ?_ | refine N.lpN ?_ | refine N.nil ?_)
        | (show WOpsT _ _ _ _ _ _; first | refine T.min2 rfl rfl rfl ?_ | refine T.max2 rfl rfl rfl ?_ | refine T.ext rfl rfl ?_ | refine T.lenc ?_ | refine T.notD rfl ?_ | refine T.not rfl ?_ | refine T.eqb0 rfl rfl ?_ | refine T.eqb1 rfl rfl ?_ | refine T.cvt rfl ?_ | refine T.fad rfl rfl rfl ?_ | refine T.fadd rfl ?_ | refine T.nilc rfl rfl rfl ?_ | refine T.nilcd rfl ?_ | refine T.st rfl rfl rfl ⟨rfl, rfl⟩ rfl (Nat.le_of_ble_eq_true rfl) ?_ | refine T.fld rfl rfl ?_ | refine T.new rfl ⟨rfl, by decide⟩ ?_ | refine T.zero (by decide) ?_ | refine T.build rfl ?_ | refine T.len rfl rfl rfl ?_ | refine T.lenS rfl ?_ | refine T.lenN rfl ?_ | refine T.mkf ?_ | refine T.mki ?_ | refine T.mksl rfl rfl (by decide) ?_ | refine T.copy rfl rfl rfl ⟨rfl, rfl⟩ ?_ | refine T.ixa rfl rfl (by omega) rfl ?_ | refine T.bsl rfl (by decide) ?_ | refine T.slc rfl rfl rfl rfl ⟨rfl, rfl⟩ (by omega) ?_ | refine T.slcS rfl rfl rfl rfl (by omega) ?_)
        | refine hQ _ _ _ rfl ?_)
      exact WS.c rfl rfl
end Go.Proofs.Ytcgjmkbajjngaaa.Calc
