/- The contracts of SerialHears, SerialSends, SerialAsks: they return true. Condition: none on their arguments. -/
import Derived.Test.YtcgjmkbajjngaaaFnSerial
namespace Go.Proofs.Ytcgjmkbajjngaaa.Calc
open Go Code
set_option linter.unusedSimpArgs false
set_option linter.unusedVariables false
set_option maxRecDepth 20000
set_option maxHeartbeats 4000000
attribute [local irreducible] WOpsT AW AK RK AKW
theorem serials_ok : FnE Try.prog 32 [] [] (.c (.bool true)) [] := by
  refine N.fn Try.func32 k32 (Nat.le_of_ble_eq_true rfl) q32 fun Q hQ => ?_
  rw [c32]
  have h1 := serin_ok 0 0 0 0 0 0 0 0 65 [] (by omega)
  rw [if_neg (by decide), show (65 : Int) % 2 ^ 8 = 65 by decide] at h1
  repeat' (first
    | refine N.regS fun K hK => ?_
    | refine N.dregS fun K hK => ?_
    | refine N.regN fun K hK => ?_
    | refine N.dregN fun K hK => ?_
    | simp only [T.mv, AO.ev, put, lk, enter, reduceIte, Nat.reduceEqDiff, Nat.reduceAdd, Nat.reduceMul, Nat.reduceSub, ren_c, ren_tup, ren_agg, ren_sl, List.map, Int.reduceNeg, Int.toNat_zero, Nat.zero_add, Nat.add_zero, List.length_cons, List.length_nil, List.nil_append, List.cons_append, List.set_cons_zero, List.set_cons_succ, Int.reduceToNat, List.take_zero, upto, ren_psl, ren_ptr, List.getElem?_cons_zero, List.getElem?_cons_succ, renB, cells_ren, decide_eq_true_eq, Bool.false_eq_true, true_iff, iff_true, false_iff, iff_false]
    | (refine T.nil ?_; (first | refine hK _ _ _ (by rfl) ?_ | refine hK _ _ _ ?_); simp only [keep, List.map, lk, reduceIte, Nat.reduceEqDiff, enter]; clear hK; clear K)
    | (show WOpsT _ (⟨_, .call _ _, none⟩ :: _) _ _ _ _; first | refine T.call0 e30 rfl (sernew_ok) ?_ | refine T.call0 e29 rfl (h1) ?_ | refine T.call0 e31 rfl (serread0_ok _ _ _ _ _ _ _ _ _ (by omega)) ?_)
    | (show WOpsT _ (⟨_, .ld _ _, none⟩ :: _) _ _ _ _; first | refine T.ld rfl rfl rfl rfl rfl ?_ | refine T.ldd rfl rfl ?_ | refine T.ldn rfl rfl rfl rfl (Nat.le_of_ble_eq_true rfl) ?_ | refine T.lddn rfl (Nat.le_of_ble_eq_true rfl) ?_)
    | (show WOpsT _ (⟨_, .idx _ _ _ _, none⟩ :: _) _ _ _ _; first | refine T.idx rfl rfl rfl ⟨rfl, rfl⟩ (by omega) ?_ | refine T.idxs rfl rfl rfl (by omega) rfl ?_ | refine T.idxa rfl rfl rfl rfl (by omega) ?_ | refine T.idxd rfl rfl (by omega) ?_)
    | (show WOpsT _ (⟨_, .bin _ _ _, none⟩ :: _) _ _ _ _; first | refine T.add rfl rfl (by omega) (by omega) ?_ | refine T.sub rfl rfl (by omega) (by omega) ?_ | refine T.rem rfl rfl (by omega) ?_ | refine T.quo rfl rfl (by omega) ?_ | refine T.shl rfl rfl (by omega) ?_ | refine T.shr rfl rfl (by omega) ?_ | refine T.bin rfl rfl rfl ?_)
    | (show WOpsT _ (⟨_, _, some (_, true)⟩ :: _) _ _ _ _; first | refine T.goT rfl (by omega) ?_ | refine T.paT rfl (by omega) ?_ | refine T.go rfl rfl ?_ | refine T.pass rfl rfl ?_ | refine T.pU rfl ?_ | refine T.gT rfl (fun hg => ?_) (fun hg => ?_))
    | (show WOpsT _ (⟨_, _, some (_, false)⟩ :: _) _ _ _ _; first | refine T.goF rfl (by omega) ?_ | refine T.paF rfl (by omega) ?_ | refine T.go rfl rfl ?_ | refine T.pass rfl rfl ?_ | refine T.pU rfl ?_ | refine T.gF rfl (fun hg => ?_) (fun hg => ?_))
    | (show WOpsT _ (⟨_, .pick _ _ _, none⟩ :: _) _ _ _ _; first | refine T.pkT rfl (by omega) ?_ | refine T.pkF rfl (by omega) ?_ | refine T.pickT rfl rfl ?_ | refine T.pickF rfl rfl ?_ | refine T.pickB rfl rfl rfl ?_ | refine T.pkD rfl (fun hg => ?_) (fun hg => ?_))
    | (show AKW _ _ _ _ _ _ _; first | refine N.now ?_)
    | (show AK _ _ (.cond _ _ _) _ _ _ _; first | refine N.cT rfl (by omega) ?_ | refine N.cF rfl (by omega) ?_ | refine N.condT rfl rfl ?_ | refine N.condF rfl rfl ?_ | refine N.condD rfl (fun hc => ?_) (fun hc => ?_) | refine N.condB rfl (fun hc => ?_) (fun hc => ?_))
    | (show AK _ _ _ _ _ _ _; first | refine N.seq ?_ | refine N.block ?_ | refine N.skip ?_ | refine N.exit ?_ | refine N.ret ?_)
    | (show RK _ _ _ _ _ _ _; first | refine N.seqN ?_ | refine N.blkN ?_ | refine N.blkE rfl ?_ | refine N.blkX (by decide) ?_ | refine N.seqX ?_ | refine N.lpX ?_ | refine N.seqR ?_ | refine N.blkR ?_ | refine N.lpR ?_ | refine N.lpN ?_ | refine N.nil ?_)
    | (show WOpsT _ _ _ _ _ _; first | refine T.min2 rfl rfl rfl ?_ | refine T.max2 rfl rfl rfl ?_ | refine T.ext rfl rfl ?_ | refine T.lenc ?_ | refine T.notD rfl ?_ | refine T.not rfl ?_ | refine T.eqb0 rfl rfl ?_ | refine T.eqb1 rfl rfl ?_ | refine T.cvt rfl ?_ | refine T.fad rfl rfl rfl ?_ | refine T.fadd rfl ?_ | refine T.nilc rfl rfl rfl ?_ | refine T.nilcd rfl ?_ | refine T.st rfl rfl rfl ⟨rfl, rfl⟩ rfl (Nat.le_of_ble_eq_true rfl) ?_ | refine T.fld rfl rfl ?_ | refine T.new rfl ⟨rfl, by decide⟩ ?_ | refine T.zero (by decide) ?_ | refine T.build rfl ?_ | refine T.len rfl rfl rfl ?_ | refine T.lenS rfl ?_ | refine T.lenN rfl ?_ | refine T.mkf ?_ | refine T.mki ?_ | refine T.mksl rfl rfl (by decide) ?_ | refine T.copy rfl rfl rfl ⟨rfl, rfl⟩ ?_ | refine T.ixa rfl rfl (by omega) rfl ?_ | refine T.bsl rfl (by decide) ?_ | refine T.slc rfl rfl rfl rfl ⟨rfl, rfl⟩ (by omega) ?_ | refine T.slcS rfl rfl rfl rfl (by omega) ?_)
    | refine hQ _ _ _ rfl ?_)
  exact WS.bool rfl (by simp)
theorem hears_ok (a b : Int) : FnE Try.prog 7 [I a, I b] [] (.c (.bool true)) [] := by
  refine N.fn Try.func7 k7 (Nat.le_of_ble_eq_true rfl) q7 fun Q hQ => ?_
  rw [c7]
  have h1 := serin_ok 0 0 0 0 0 0 0 0 a [] (by omega)
  have h2 := serin_ok 0 0 (a % 2 ^ 8) 1 0 0 0 0 b [] (by omega)
  have h3 := serread1_ok 0 0 (a % 2 ^ 8) 1 1 0 0 0 [] (by omega)
  have h4 := serread1_ok 0 0 (a % 2 ^ 8) 1 0 0 0 0 [] (by omega)
  have h5 := serread0_ok 0 0 (a % 2 ^ 8) 1 0 0 0 0 [] (by omega)
  have h6 := serread1_ok 0 0 (a % 2 ^ 8) 0 0 0 0 0 [] (by omega)
  rw [if_neg (by decide)] at h1
  rw [if_pos (by decide)] at h2
  repeat' (first
    | refine N.regS fun K hK => ?_
    | refine N.dregS fun K hK => ?_
    | refine N.regN fun K hK => ?_
    | refine N.dregN fun K hK => ?_
    | simp only [T.mv, AO.ev, put, lk, enter, reduceIte, Nat.reduceEqDiff, Nat.reduceAdd, Nat.reduceMul, Nat.reduceSub, ren_c, ren_tup, ren_agg, ren_sl, List.map, Int.reduceNeg, Int.toNat_zero, Nat.zero_add, Nat.add_zero, List.length_cons, List.length_nil, List.nil_append, List.cons_append, List.set_cons_zero, List.set_cons_succ, Int.reduceToNat, List.take_zero, upto, ren_psl, ren_ptr, List.getElem?_cons_zero, List.getElem?_cons_succ, renB, cells_ren, decide_eq_true_eq, Bool.false_eq_true, true_iff, iff_true, false_iff, iff_false]
    | (refine T.nil ?_; (first | refine hK _ _ _ (by rfl) ?_ | refine hK _ _ _ ?_); simp only [keep, List.map, lk, reduceIte, Nat.reduceEqDiff, enter]; clear hK; clear K)
    | (show WOpsT _ (⟨_, .call _ _, none⟩ :: _) _ _ _ _; first | refine T.call0 e30 rfl (sernew_ok) ?_ | refine T.call0 e29 rfl (h1) ?_ | refine T.call0 e29 rfl (h2) ?_ | refine T.call0 e31 rfl (h3) ?_ | refine T.call0 e31 rfl (h4) ?_ | refine T.call0 e31 rfl (h5) ?_ | refine T.call0 e31 rfl (h6) ?_ | refine T.call0 e19 rfl (low_lit _ 8 8 rfl (by decide)) ?_ | refine T.call0 e32 rfl (serials_ok) ?_)
    | (show WOpsT _ (⟨_, .ld _ _, none⟩ :: _) _ _ _ _; first | refine T.ld rfl rfl rfl rfl rfl ?_ | refine T.ldd rfl rfl ?_ | refine T.ldn rfl rfl rfl rfl (Nat.le_of_ble_eq_true rfl) ?_ | refine T.lddn rfl (Nat.le_of_ble_eq_true rfl) ?_)
    | (show WOpsT _ (⟨_, .idx _ _ _ _, none⟩ :: _) _ _ _ _; first | refine T.idx rfl rfl rfl ⟨rfl, rfl⟩ (by omega) ?_ | refine T.idxs rfl rfl rfl (by omega) rfl ?_ | refine T.idxa rfl rfl rfl rfl (by omega) ?_ | refine T.idxd rfl rfl (by omega) ?_)
    | (show WOpsT _ (⟨_, .bin _ _ _, none⟩ :: _) _ _ _ _; first | refine T.add rfl rfl (by omega) (by omega) ?_ | refine T.sub rfl rfl (by omega) (by omega) ?_ | refine T.rem rfl rfl (by omega) ?_ | refine T.quo rfl rfl (by omega) ?_ | refine T.shl rfl rfl (by omega) ?_ | refine T.shr rfl rfl (by omega) ?_ | refine T.bin rfl rfl rfl ?_)
    | (show WOpsT _ (⟨_, _, some (_, true)⟩ :: _) _ _ _ _; first | refine T.goT rfl (by omega) ?_ | refine T.paT rfl (by omega) ?_ | refine T.go rfl rfl ?_ | refine T.pass rfl rfl ?_ | refine T.pU rfl ?_ | refine T.gT rfl (fun hg => ?_) (fun hg => ?_))
    | (show WOpsT _ (⟨_, _, some (_, false)⟩ :: _) _ _ _ _; first | refine T.goF rfl (by omega) ?_ | refine T.paF rfl (by omega) ?_ | refine T.go rfl rfl ?_ | refine T.pass rfl rfl ?_ | refine T.pU rfl ?_ | refine T.gF rfl (fun hg => ?_) (fun hg => ?_))
    | (show WOpsT _ (⟨_, .pick _ _ _, none⟩ :: _) _ _ _ _; first | refine T.pkT rfl (by omega) ?_ | refine T.pkF rfl (by omega) ?_ | refine T.pickT rfl rfl ?_ | refine T.pickF rfl rfl ?_ | refine T.pickB rfl rfl rfl ?_ | refine T.pkD rfl (fun hg => ?_) (fun hg => ?_))
    | (show AKW _ _ _ _ _ _ _; first | refine N.now ?_)
    | (show AK _ _ (.cond _ _ _) _ _ _ _; first | refine N.cT rfl (by omega) ?_ | refine N.cF rfl (by omega) ?_ | refine N.condT rfl rfl ?_ | refine N.condF rfl rfl ?_ | refine N.condD rfl (fun hc => ?_) (fun hc => ?_) | refine N.condB rfl (fun hc => ?_) (fun hc => ?_))
    | (show AK _ _ _ _ _ _ _; first | refine N.seq ?_ | refine N.block ?_ | refine N.skip ?_ | refine N.exit ?_ | refine N.ret ?_)
    | (show RK _ _ _ _ _ _ _; first | refine N.seqN ?_ | refine N.blkN ?_ | refine N.blkE rfl ?_ | refine N.blkX (by decide) ?_ | refine N.seqX ?_ | refine N.lpX ?_ | refine N.seqR ?_ | refine N.blkR ?_ | refine N.lpR ?_ | refine N.lpN ?_ | refine N.nil ?_)
    | (show WOpsT _ _ _ _ _ _; first | refine T.min2 rfl rfl rfl ?_ | refine T.max2 rfl rfl rfl ?_ | refine T.ext rfl rfl ?_ | refine T.lenc ?_ | refine T.notD rfl ?_ | refine T.not rfl ?_ | refine T.eqb0 rfl rfl ?_ | refine T.eqb1 rfl rfl ?_ | refine T.cvt rfl ?_ | refine T.fad rfl rfl rfl ?_ | refine T.fadd rfl ?_ | refine T.nilc rfl rfl rfl ?_ | refine T.nilcd rfl ?_ | refine T.st rfl rfl rfl ⟨rfl, rfl⟩ rfl (Nat.le_of_ble_eq_true rfl) ?_ | refine T.fld rfl rfl ?_ | refine T.new rfl ⟨rfl, by decide⟩ ?_ | refine T.zero (by decide) ?_ | refine T.build rfl ?_ | refine T.len rfl rfl rfl ?_ | refine T.lenS rfl ?_ | refine T.lenN rfl ?_ | refine T.mkf ?_ | refine T.mki ?_ | refine T.mksl rfl rfl (by decide) ?_ | refine T.copy rfl rfl rfl ⟨rfl, rfl⟩ ?_ | refine T.ixa rfl rfl (by omega) rfl ?_ | refine T.bsl rfl (by decide) ?_ | refine T.slc rfl rfl rfl rfl ⟨rfl, rfl⟩ (by omega) ?_ | refine T.slcS rfl rfl rfl rfl (by omega) ?_)
    | refine hQ _ _ _ rfl ?_)
  all_goals exact WS.bool rfl (by simp)
theorem asks_ok (a k : Int) : FnE Try.prog 12 [I a, I k] [] (.c (.bool true)) [] := by
  refine N.fn Try.func12 k12 (Nat.le_of_ble_eq_true rfl) q12 fun Q hQ => ?_
  rw [c12]
  obtain ⟨x, hx⟩ : ∃ x, k % 80 = x := ⟨_, rfl⟩
  have hx1 : 0 ≤ x ∧ x < 80 := by omega
  have hB := below_ok k 80 (by decide) (by decide)
  rw [hx] at hB
  have h1 := serw2_ok 0 0 0 0 0 0 0 0 1 [] (by omega)
  rw [show (1 : Int) % 2 ^ 2 = 1 by decide] at h1
  have h2 := serw2_ok 0 0 0 0 0 0 0 0 2 [] (by omega)
  rw [show (2 : Int) % 2 ^ 2 = 2 by decide] at h2
  have h3 := serin_ok 0 0 0 0 0 1 0 0 a [] (by omega)
  rw [if_neg (by decide)] at h3
  have h4 := serread0_ok 0 0 (a % 2 ^ 8) 1 0 1 0 0 [] (by omega)
  have h5 := serw0_ok 0 0 0 0 0 2 0 0 a [] (by omega)
  rw [if_pos rfl] at h5
  have h6 := serskip_ok (a % 2 ^ 8) 40 0 0 0 2 0 0 x [] (by omega)
  have h7 : ∃ l z n, 0 ≤ l ∧ l < 64 ∧ 0 ≤ z ∧ z < 256 ∧ 0 ≤ n ∧ n < 2 ∧ (l = 0 ↔ 40 ≤ x) ∧ serSkip (a % 2 ^ 8) 40 0 0 0 2 0 0 x = [a % 2 ^ 8, l, 0, 0, 0, 2, n, z] := by
    unfold serSkip
    split
    · exact ⟨40, 0, 0, by omega, by omega, by omega, by omega, by omega, by omega, by omega, rfl⟩
    · split
      · exact ⟨40 - x, 0, 0, by omega, by omega, by omega, by omega, by omega, by omega, by omega, rfl⟩
      · exact ⟨0, a % 2 ^ 8, 1, by omega, by omega, by omega, by omega, by omega, by omega, by omega, by simp⟩
  obtain ⟨l, z, n, hl1, hl2, hz1, hz2, hn1, hn2, hl, he⟩ := h7
  rw [he] at h6
  have i1 := serirq_ok 0 0 0 0 0 1 0 0 [] (by omega)
  have i2 := serirq_ok 0 0 (a % 2 ^ 8) 1 0 1 0 0 [] (by omega)
  have i3 := serirq_ok 0 0 (a % 2 ^ 8) 0 0 1 0 0 [] (by omega)
  have i4 := serirq_ok (a % 2 ^ 8) l 0 0 0 2 n z [] (by omega)
  rw [show decide ((1 : Int) % 2 = 1 ∧ (0 : Int) = 1 ∨ (2 : Int) ≤ 1 ∧ (0 : Int) = 0) = false by decide] at i1
  rw [show decide ((1 : Int) % 2 = 1 ∧ (1 : Int) = 1 ∨ (2 : Int) ≤ 1 ∧ (0 : Int) = 0) = true by decide] at i2
  rw [show decide ((1 : Int) % 2 = 1 ∧ (0 : Int) = 1 ∨ (2 : Int) ≤ 1 ∧ (0 : Int) = 0) = false by decide] at i3
  repeat' (first
    | refine N.regS fun K hK => ?_
    | refine N.dregS fun K hK => ?_
    | refine N.regN fun K hK => ?_
    | refine N.dregN fun K hK => ?_
    | simp only [T.mv, AO.ev, put, lk, enter, reduceIte, Nat.reduceEqDiff, Nat.reduceAdd, Nat.reduceMul, Nat.reduceSub, ren_c, ren_tup, ren_agg, ren_sl, List.map, Int.reduceNeg, Int.toNat_zero, Nat.zero_add, Nat.add_zero, List.length_cons, List.length_nil, List.nil_append, List.cons_append, List.set_cons_zero, List.set_cons_succ, Int.reduceToNat, List.take_zero, upto, ren_psl, ren_ptr, List.getElem?_cons_zero, List.getElem?_cons_succ, renB, cells_ren, decide_eq_true_eq, Bool.false_eq_true, true_iff, iff_true, false_iff, iff_false]
    | (refine T.nil ?_; (first | refine hK _ _ _ (by rfl) ?_ | refine hK _ _ _ ?_); simp only [keep, List.map, lk, reduceIte, Nat.reduceEqDiff, enter]; clear hK; clear K)
    | (show WOpsT _ (⟨_, .call _ _, none⟩ :: _) _ _ _ _; first | refine T.call0 e15 rfl (hB) ?_ | refine T.call0 e30 rfl (sernew_ok) ?_ | refine T.call0 e49 rfl (h1) ?_ | refine T.call0 e49 rfl (h2) ?_ | refine T.call0 e29 rfl (h3) ?_ | refine T.call0 e31 rfl (h4) ?_ | refine T.call0 e49 rfl (h5) ?_ | refine T.call0 e48 rfl (h6) ?_ | refine T.call0 e51 rfl (i1) ?_ | refine T.call0 e51 rfl (i2) ?_ | refine T.call0 e51 rfl (i3) ?_ | refine T.call0 e51 rfl (i4) ?_ | refine T.call0 e32 rfl (serials_ok) ?_)
    | (show WOpsT _ (⟨_, .ld _ _, none⟩ :: _) _ _ _ _; first | refine T.ld rfl rfl rfl rfl rfl ?_ | refine T.ldd rfl rfl ?_ | refine T.ldn rfl rfl rfl rfl (Nat.le_of_ble_eq_true rfl) ?_ | refine T.lddn rfl (Nat.le_of_ble_eq_true rfl) ?_)
    | (show WOpsT _ (⟨_, .idx _ _ _ _, none⟩ :: _) _ _ _ _; first | refine T.idx rfl rfl rfl ⟨rfl, rfl⟩ (by omega) ?_ | refine T.idxs rfl rfl rfl (by omega) rfl ?_ | refine T.idxa rfl rfl rfl rfl (by omega) ?_ | refine T.idxd rfl rfl (by omega) ?_)
    | (show WOpsT _ (⟨_, .bin _ _ _, none⟩ :: _) _ _ _ _; first | refine T.add rfl rfl (by omega) (by omega) ?_ | refine T.sub rfl rfl (by omega) (by omega) ?_ | refine T.rem rfl rfl (by omega) ?_ | refine T.quo rfl rfl (by omega) ?_ | refine T.shl rfl rfl (by omega) ?_ | refine T.shr rfl rfl (by omega) ?_ | refine T.bin rfl rfl rfl ?_)
    | (show WOpsT _ (⟨_, _, some (_, true)⟩ :: _) _ _ _ _; first | refine T.goT rfl (by omega) ?_ | refine T.paT rfl (by omega) ?_ | refine T.go rfl rfl ?_ | refine T.pass rfl rfl ?_ | refine T.pU rfl ?_ | refine T.gT rfl (fun hg => ?_) (fun hg => ?_))
    | (show WOpsT _ (⟨_, _, some (_, false)⟩ :: _) _ _ _ _; first | refine T.goF rfl (by omega) ?_ | refine T.paF rfl (by omega) ?_ | refine T.go rfl rfl ?_ | refine T.pass rfl rfl ?_ | refine T.pU rfl ?_ | refine T.gF rfl (fun hg => ?_) (fun hg => ?_))
    | (show WOpsT _ (⟨_, .pick _ _ _, none⟩ :: _) _ _ _ _; first | refine T.pkT rfl (by omega) ?_ | refine T.pkF rfl (by omega) ?_ | refine T.pickT rfl rfl ?_ | refine T.pickF rfl rfl ?_ | refine T.pickB rfl rfl rfl ?_ | refine T.pkD rfl (fun hg => ?_) (fun hg => ?_))
    | (show AKW _ _ _ _ _ _ _; first | refine N.now ?_)
    | (show AK _ _ (.cond _ _ _) _ _ _ _; first | refine N.cT rfl (by omega) ?_ | refine N.cF rfl (by omega) ?_ | refine N.condT rfl rfl ?_ | refine N.condF rfl rfl ?_ | refine N.condD rfl (fun hc => ?_) (fun hc => ?_) | refine N.condB rfl (fun hc => ?_) (fun hc => ?_))
    | (show AK _ _ _ _ _ _ _; first | refine N.seq ?_ | refine N.block ?_ | refine N.skip ?_ | refine N.exit ?_ | refine N.ret ?_)
    | (show RK _ _ _ _ _ _ _; first | refine N.seqN ?_ | refine N.blkN ?_ | refine N.blkE rfl ?_ | refine N.blkX (by decide) ?_ | refine N.seqX ?_ | refine N.lpX ?_ | refine N.seqR ?_ | refine N.blkR ?_ | refine N.lpR ?_ | refine N.lpN ?_ | refine N.nil ?_)
    | (show WOpsT _ _ _ _ _ _; first | refine T.min2 rfl rfl rfl ?_ | refine T.max2 rfl rfl rfl ?_ | refine T.ext rfl rfl ?_ | refine T.lenc ?_ | refine T.notD rfl ?_ | refine T.not rfl ?_ | refine T.eqb0 rfl rfl ?_ | refine T.eqb1 rfl rfl ?_ | refine T.cvt rfl ?_ | refine T.fad rfl rfl rfl ?_ | refine T.fadd rfl ?_ | refine T.nilc rfl rfl rfl ?_ | refine T.nilcd rfl ?_ | refine T.st rfl rfl rfl ⟨rfl, rfl⟩ rfl (Nat.le_of_ble_eq_true rfl) ?_ | refine T.fld rfl rfl ?_ | refine T.new rfl ⟨rfl, by decide⟩ ?_ | refine T.zero (by decide) ?_ | refine T.build rfl ?_ | refine T.len rfl rfl rfl ?_ | refine T.lenS rfl ?_ | refine T.lenN rfl ?_ | refine T.mkf ?_ | refine T.mki ?_ | refine T.mksl rfl rfl (by decide) ?_ | refine T.copy rfl rfl rfl ⟨rfl, rfl⟩ ?_ | refine T.ixa rfl rfl (by omega) rfl ?_ | refine T.bsl rfl (by decide) ?_ | refine T.slc rfl rfl rfl rfl ⟨rfl, rfl⟩ (by omega) ?_ | refine T.slcS rfl rfl rfl rfl (by omega) ?_)
    | refine hQ _ _ _ rfl ?_)
  all_goals (refine WS.bool rfl ?_; simp only [decide_eq_true_eq, iff_true] <;> omega)
theorem sends_ok (a b k : Int) : FnE Try.prog 11 [I a, I b, I k] [] (.c (.bool true)) [] := by
  refine N.fn Try.func11 k11 (Nat.le_of_ble_eq_true rfl) q11 fun Q hQ => ?_
  rw [c11]
  obtain ⟨x, hx⟩ : ∃ x, k % 40 = x := ⟨_, rfl⟩
  have hx1 : 0 ≤ x ∧ x < 40 := by omega
  have hB := below_ok k 40 (by decide) (by decide)
  rw [hx] at hB
  have h1 := serw0_ok 0 0 0 0 0 0 0 0 a [] (by omega)
  rw [if_pos rfl] at h1
  have h2 := serskip_ok (a % 2 ^ 8) 40 0 0 0 0 0 0 x [] (by omega)
  rw [show serSkip (a % 2 ^ 8) 40 0 0 0 0 0 0 x = [a % 2 ^ 8, 40 - x, 0, 0, 0, 0, 0, 0] by
    unfold serSkip
    (repeat' split) <;> first | (exfalso; omega) | (congr 2; omega) | rfl] at h2
  have h3 := serw0_ok (a % 2 ^ 8) (40 - x) 0 0 0 0 0 0 b [] (by omega)
  rw [if_neg (by omega)] at h3
  have h4 := serskip_ok (a % 2 ^ 8) (40 - x) 0 0 0 0 0 0 (39 - x) [] (by omega)
  rw [show serSkip (a % 2 ^ 8) (40 - x) 0 0 0 0 0 0 (39 - x) = [a % 2 ^ 8, 1, 0, 0, 0, 0, 0, 0] by
    unfold serSkip
    (repeat' split) <;> first | (exfalso; omega) | (congr 2; omega) | rfl] at h4
  have h5 := serskip_ok (a % 2 ^ 8) (40 - x) 0 0 0 0 0 0 (40 - x) [] (by omega)
  rw [show serSkip (a % 2 ^ 8) (40 - x) 0 0 0 0 0 0 (40 - x) = [a % 2 ^ 8, 0, 0, 0, 0, 0, 1, a % 2 ^ 8] by
    unfold serSkip
    (repeat' split) <;> first | (exfalso; omega) | rfl] at h5
  have h6 := serw0_ok (a % 2 ^ 8) 0 0 0 0 0 1 (a % 2 ^ 8) b [] (by omega)
  rw [if_pos rfl] at h6
  have h7 := serskip_ok (b % 2 ^ 8) 40 0 0 0 0 1 (a % 2 ^ 8) 40 [] (by omega)
  rw [show serSkip (b % 2 ^ 8) 40 0 0 0 0 1 (a % 2 ^ 8) 40 = [b % 2 ^ 8, 0, 0, 0, 0, 0, 2, b % 2 ^ 8] from rfl] at h7
  have o1 := serout_ok (a % 2 ^ 8) (40 - x) 0 0 0 0 0 0 [] (by omega)
  have o2 := serout_ok (a % 2 ^ 8) 1 0 0 0 0 0 0 [] (by omega)
  have o3 := serout_ok (a % 2 ^ 8) 0 0 0 0 0 1 (a % 2 ^ 8) [] (by omega)
  have o4 := serout_ok (b % 2 ^ 8) 0 0 0 0 0 2 (b % 2 ^ 8) [] (by omega)
  repeat' (first
    | refine N.regS fun K hK => ?_
    | refine N.dregS fun K hK => ?_
    | refine N.regN fun K hK => ?_
    | refine N.dregN fun K hK => ?_
    | simp only [T.mv, AO.ev, put, lk, enter, reduceIte, Nat.reduceEqDiff, Nat.reduceAdd, Nat.reduceMul, Nat.reduceSub, ren_c, ren_tup, ren_agg, ren_sl, List.map, Int.reduceNeg, Int.toNat_zero, Nat.zero_add, Nat.add_zero, List.length_cons, List.length_nil, List.nil_append, List.cons_append, List.set_cons_zero, List.set_cons_succ, Int.reduceToNat, List.take_zero, upto, ren_psl, ren_ptr, List.getElem?_cons_zero, List.getElem?_cons_succ, renB, cells_ren, decide_eq_true_eq, Bool.false_eq_true, true_iff, iff_true, false_iff, iff_false]
    | (refine T.nil ?_; (first | refine hK _ _ _ (by rfl) ?_ | refine hK _ _ _ ?_); simp only [keep, List.map, lk, reduceIte, Nat.reduceEqDiff, enter]; clear hK; clear K)
    | (show WOpsT _ (⟨_, .call _ _, none⟩ :: _) _ _ _ _; first | refine T.call0 e15 rfl (hB) ?_ | refine T.call0 e30 rfl (sernew_ok) ?_ | refine T.call0 e49 rfl (h1) ?_ | refine T.call0 e49 rfl (h3) ?_ | refine T.call0 e49 rfl (h6) ?_ | refine T.call0 e48 rfl (h2) ?_ | refine T.call0 e48 rfl (h4) ?_ | refine T.call0 e48 rfl (h5) ?_ | refine T.call0 e48 rfl (h7) ?_ | refine T.call0 e50 rfl (o1) ?_ | refine T.call0 e50 rfl (o2) ?_ | refine T.call0 e50 rfl (o3) ?_ | refine T.call0 e50 rfl (o4) ?_ | refine T.call0 e19 rfl (low_lit _ 8 8 rfl (by decide)) ?_ | refine T.call0 e32 rfl (serials_ok) ?_)
    | (show WOpsT _ (⟨_, .ld _ _, none⟩ :: _) _ _ _ _; first | refine T.ld rfl rfl rfl rfl rfl ?_ | refine T.ldd rfl rfl ?_ | refine T.ldn rfl rfl rfl rfl (Nat.le_of_ble_eq_true rfl) ?_ | refine T.lddn rfl (Nat.le_of_ble_eq_true rfl) ?_)
    | (show WOpsT _ (⟨_, .idx _ _ _ _, none⟩ :: _) _ _ _ _; first | refine T.idx rfl rfl rfl ⟨rfl, rfl⟩ (by omega) ?_ | refine T.idxs rfl rfl rfl (by omega) rfl ?_ | refine T.idxa rfl rfl rfl rfl (by omega) ?_ | refine T.idxd rfl rfl (by omega) ?_)
    | (show WOpsT _ (⟨_, .bin _ _ _, none⟩ :: _) _ _ _ _; first | refine T.add rfl rfl (by omega) (by omega) ?_ | refine T.sub rfl rfl (by omega) (by omega) ?_ | refine T.rem rfl rfl (by omega) ?_ | refine T.quo rfl rfl (by omega) ?_ | refine T.shl rfl rfl (by omega) ?_ | refine T.shr rfl rfl (by omega) ?_ | refine T.bin rfl rfl rfl ?_)
    | (show WOpsT _ (⟨_, _, some (_, true)⟩ :: _) _ _ _ _; first | refine T.goT rfl (by omega) ?_ | refine T.paT rfl (by omega) ?_ | refine T.go rfl rfl ?_ | refine T.pass rfl rfl ?_ | refine T.pU rfl ?_ | refine T.gT rfl (fun hg => ?_) (fun hg => ?_))
    | (show WOpsT _ (⟨_, _, some (_, false)⟩ :: _) _ _ _ _; first | refine T.goF rfl (by omega) ?_ | refine T.paF rfl (by omega) ?_ | refine T.go rfl rfl ?_ | refine T.pass rfl rfl ?_ | refine T.pU rfl ?_ | refine T.gF rfl (fun hg => ?_) (fun hg => ?_))
    | (show WOpsT _ (⟨_, .pick _ _ _, none⟩ :: _) _ _ _ _; first | refine T.pkT rfl (by omega) ?_ | refine T.pkF rfl (by omega) ?_ | refine T.pickT rfl rfl ?_ | refine T.pickF rfl rfl ?_ | refine T.pickB rfl rfl rfl ?_ | refine T.pkD rfl (fun hg => ?_) (fun hg => ?_))
    | (show AKW _ _ _ _ _ _ _; first | refine N.now ?_)
    | (show AK _ _ (.cond _ _ _) _ _ _ _; first | refine N.cT rfl (by omega) ?_ | refine N.cF rfl (by omega) ?_ | refine N.condT rfl rfl ?_ | refine N.condF rfl rfl ?_ | refine N.condD rfl (fun hc => ?_) (fun hc => ?_) | refine N.condB rfl (fun hc => ?_) (fun hc => ?_))
    | (show AK _ _ _ _ _ _ _; first | refine N.seq ?_ | refine N.block ?_ | refine N.skip ?_ | refine N.exit ?_ | refine N.ret ?_)
    | (show RK _ _ _ _ _ _ _; first | refine N.seqN ?_ | refine N.blkN ?_ | refine N.blkE rfl ?_ | refine N.blkX (by decide) ?_ | refine N.seqX ?_ | refine N.lpX ?_ | refine N.seqR ?_ | refine N.blkR ?_ | refine N.lpR ?_ | refine N.lpN ?_ | refine N.nil ?_)
    | (show WOpsT _ _ _ _ _ _; first | refine T.min2 rfl rfl rfl ?_ | refine T.max2 rfl rfl rfl ?_ | refine T.ext rfl rfl ?_ | refine T.lenc ?_ | refine T.notD rfl ?_ | refine T.not rfl ?_ | refine T.eqb0 rfl rfl ?_ | refine T.eqb1 rfl rfl ?_ | refine T.cvt rfl ?_ | refine T.fad rfl rfl rfl ?_ | refine T.fadd rfl ?_ | refine T.nilc rfl rfl rfl ?_ | refine T.nilcd rfl ?_ | refine T.st rfl rfl rfl ⟨rfl, rfl⟩ rfl (Nat.le_of_ble_eq_true rfl) ?_ | refine T.fld rfl rfl ?_ | refine T.new rfl ⟨rfl, by decide⟩ ?_ | refine T.zero (by decide) ?_ | refine T.build rfl ?_ | refine T.len rfl rfl rfl ?_ | refine T.lenS rfl ?_ | refine T.lenN rfl ?_ | refine T.mkf ?_ | refine T.mki ?_ | refine T.mksl rfl rfl (by decide) ?_ | refine T.copy rfl rfl rfl ⟨rfl, rfl⟩ ?_ | refine T.ixa rfl rfl (by omega) rfl ?_ | refine T.bsl rfl (by decide) ?_ | refine T.slc rfl rfl rfl rfl ⟨rfl, rfl⟩ (by omega) ?_ | refine T.slcS rfl rfl rfl rfl (by omega) ?_)
    | refine hQ _ _ _ rfl ?_)
  all_goals (refine WS.bool rfl ?_; simp only [decide_eq_true_eq, iff_true] <;> omega)
end Go.Proofs.Ytcgjmkbajjngaaa.Calc
