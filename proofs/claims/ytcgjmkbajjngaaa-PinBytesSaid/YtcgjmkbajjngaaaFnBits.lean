/- Contracts of the functions of package bit, and of those that ask it. Condition: arguments are 64-bit numbers. -/
import Derived.Test.YtcgjmkbajjngaaaCode
import Derived.Test.YtcgjmkbajjngaaaCalcQ
import Derived.Test.YtcgjmkbajjngaaaBitsA
namespace Go.Proofs.Ytcgjmkbajjngaaa.Calc
open Go Code
set_option linter.unusedSimpArgs false
set_option linter.unusedVariables false
set_option maxRecDepth 20000
attribute [local irreducible] WOpsT AW AK RK
/-- A width. -/
def wd (w : Int) : Nat := (max 0 (min w 62)).toNat
theorem wd_le (w : Int) : wd w ≤ 62 := by unfold wd; omega
theorem wd_cast (w : Int) : max 0 (min w 62) = (wd w : Int) := by unfold wd; omega
theorem wd_wd (w : Int) : wd (wd w : Int) = wd w := by unfold wd; omega
theorem pow_le (w : Nat) (hw : w ≤ 62) : (2 : Int) ^ w ≤ 4611686018427387904 := by
  have : (2 : Int) ^ w ≤ 2 ^ 62 := by
    have := Nat.pow_le_pow_right (n := 2) (by decide) hw
    exact_mod_cast this
  exact Int.le_trans this (by decide)
theorem pow_pos' (w : Nat) : (1 : Int) ≤ 2 ^ w := by
  have := Nat.pow_pos (n := w) (a := 2) (by decide)
  exact_mod_cast this
theorem mod_lo (v : Int) (w : Nat) : 0 ≤ v % 2 ^ w ∧ v % 2 ^ w < 2 ^ w := ⟨Int.emod_nonneg _ (by have := pow_pos' w; omega), Int.emod_lt_of_pos _ (by have := pow_pos' w; omega)⟩
theorem min64 (w : Nat) (hw : w ≤ 62) : min ((w : Int)).toNat IntKind.i64.bits = w := by
  have : IntKind.i64.bits = 64 := rfl
  omega

theorem width_ok (w : Int) : FnE Try.prog 61 [I w] [] (I (wd w)) [] := by
  refine fnI Try.func61 k61 (Nat.le_of_ble_eq_true rfl) q61 fun Q hQ => ?_
  rw [c61]
  repeat (first
    | refine AW.regS fun K hK => ?_
    | refine AW.dregS fun K hK => ?_
    | refine AW.regN fun K hK => ?_
    | refine AW.dregN fun K hK => ?_
    | simp only [T.mv, AO.ev, put, lk, enter, reduceIte, Nat.reduceEqDiff, Nat.reduceAdd, Nat.reduceMul, Nat.reduceSub, ren_c, ren_tup, ren_agg, ren_sl, List.map, Int.reduceNeg, Int.toNat_zero, Nat.zero_add, Nat.add_zero, List.length_cons, List.length_nil, List.nil_append, List.cons_append, List.set_cons_zero, List.set_cons_succ, Int.reduceToNat, List.take_zero, upto, ren_psl, ren_ptr, List.getElem?_cons_zero, List.getElem?_cons_succ, renB, cells_ren, decide_eq_true_eq, Bool.false_eq_true, true_iff, iff_true, false_iff, iff_false]
    | refine T.nil ?_
    | (first | refine hK _ _ _ (by rfl) ?_ | refine hK _ _ _ ?_); simp only [keep, List.map, lk, reduceIte, Nat.reduceEqDiff, enter]; clear hK; clear K
    | refine T.add rfl rfl (by omega) (by omega) ?_
    | refine T.sub rfl rfl (by omega) (by omega) ?_
    | refine T.bin rfl rfl rfl ?_
    | refine T.rem rfl rfl (by omega) ?_
    | refine T.quo rfl rfl (by omega) ?_
    | refine T.shl rfl rfl (by omega) ?_
    | refine T.shr rfl rfl (by omega) ?_
    | refine T.min2 rfl rfl rfl ?_
    | refine T.max2 rfl rfl rfl ?_
    | refine T.ext rfl rfl ?_
    | refine T.lenc ?_
    | refine T.notD rfl ?_
    | refine T.not rfl ?_
    | refine T.eqb0 rfl rfl ?_
    | refine T.eqb1 rfl rfl ?_
    | refine T.cvt rfl ?_
    | refine T.ld rfl rfl rfl rfl rfl ?_
    | refine T.ldd rfl rfl ?_
    | refine T.ldn rfl rfl rfl rfl (Nat.le_of_ble_eq_true rfl) ?_
    | refine T.lddn rfl (Nat.le_of_ble_eq_true rfl) ?_
    | refine T.fad rfl rfl rfl ?_
    | refine T.fadd rfl ?_
    | refine T.nilc rfl rfl rfl ?_
    | refine T.nilcd rfl ?_
    | refine T.st rfl rfl rfl ⟨rfl, rfl⟩ rfl (Nat.le_of_ble_eq_true rfl) ?_
    | refine T.fld rfl rfl ?_
    | refine T.new rfl ⟨rfl, by decide⟩ ?_
    | refine T.zero (by decide) ?_
    | refine T.build rfl ?_
    | refine T.len rfl rfl rfl ?_
    | refine T.lenS rfl ?_
    | refine T.lenN rfl ?_
    | refine T.mkf ?_
    | refine T.mki ?_
    | refine T.mksl rfl rfl (by decide) ?_
    | refine T.copy rfl rfl rfl ⟨rfl, rfl⟩ ?_
    | refine T.idx rfl rfl rfl ⟨rfl, rfl⟩ (by omega) ?_
    | refine T.idxa rfl rfl rfl rfl (by omega) ?_
    | refine T.idxd rfl rfl (by omega) ?_
    | refine T.bsl rfl (by decide) ?_
    | refine T.slc rfl rfl rfl rfl ⟨rfl, rfl⟩ (by omega) ?_
    | refine T.go rfl rfl ?_
    | refine T.pass rfl rfl ?_
    | refine T.pickB rfl rfl rfl ?_
    | refine AW.retI ?_)
  exact hQ _ _ _ rfl (WeakV.cE rfl (by rw [wd_cast]))

theorem low_ok (v w : Int) : FnE Try.prog 19 [I v, I w] [] (I (v % 2 ^ wd w)) [] := by
  refine fnI Try.func19 k19 (Nat.le_of_ble_eq_true rfl) q19 fun Q hQ => ?_
  rw [c19]
  have h1 := pow_le (wd w) (wd_le w)
  have h2 := pow_pos' (wd w)
  have h3 := wd_le w
  repeat (first
    | refine T.call0 e61 rfl (width_ok _) ?_
    | refine AW.regS fun K hK => ?_
    | refine AW.dregS fun K hK => ?_
    | refine AW.regN fun K hK => ?_
    | refine AW.dregN fun K hK => ?_
    | simp only [T.mv, AO.ev, put, lk, enter, reduceIte, Nat.reduceEqDiff, Nat.reduceAdd, Nat.reduceMul, Nat.reduceSub, ren_c, ren_tup, ren_agg, ren_sl, List.map, Int.reduceNeg, Int.toNat_zero, Nat.zero_add, Nat.add_zero, List.length_cons, List.length_nil, List.nil_append, List.cons_append, List.set_cons_zero, List.set_cons_succ, Int.reduceToNat, List.take_zero, upto, ren_psl, ren_ptr, List.getElem?_cons_zero, List.getElem?_cons_succ, renB, cells_ren, decide_eq_true_eq, Bool.false_eq_true, true_iff, iff_true, false_iff, iff_false]
    | refine T.nil ?_
    | (first | refine hK _ _ _ (by rfl) ?_ | refine hK _ _ _ ?_); simp only [keep, List.map, lk, reduceIte, Nat.reduceEqDiff, enter]; clear hK; clear K
    | refine T.add rfl rfl (by omega) (by omega) ?_
    | refine T.sub rfl rfl (by omega) (by omega) ?_
    | refine T.bin rfl rfl rfl ?_
    | refine T.rem rfl rfl (by omega) ?_
    | refine T.quo rfl rfl (by omega) ?_
    | refine T.shl rfl rfl (by omega) ?_
    | refine T.shr rfl rfl (by omega) ?_
    | refine T.min2 rfl rfl rfl ?_
    | refine T.max2 rfl rfl rfl ?_
    | refine T.ext rfl rfl ?_
    | refine T.lenc ?_
    | refine T.notD rfl ?_
    | refine T.not rfl ?_
    | refine T.eqb0 rfl rfl ?_
    | refine T.eqb1 rfl rfl ?_
    | refine T.cvt rfl ?_
    | refine T.ld rfl rfl rfl rfl rfl ?_
    | refine T.ldd rfl rfl ?_
    | refine T.ldn rfl rfl rfl rfl (Nat.le_of_ble_eq_true rfl) ?_
    | refine T.lddn rfl (Nat.le_of_ble_eq_true rfl) ?_
    | refine T.fad rfl rfl rfl ?_
    | refine T.fadd rfl ?_
    | refine T.nilc rfl rfl rfl ?_
    | refine T.nilcd rfl ?_
    | refine T.st rfl rfl rfl ⟨rfl, rfl⟩ rfl (Nat.le_of_ble_eq_true rfl) ?_
    | refine T.fld rfl rfl ?_
    | refine T.new rfl ⟨rfl, by decide⟩ ?_
    | refine T.zero (by decide) ?_
    | refine T.build rfl ?_
    | refine T.len rfl rfl rfl ?_
    | refine T.lenS rfl ?_
    | refine T.lenN rfl ?_
    | refine T.mkf ?_
    | refine T.mki ?_
    | refine T.mksl rfl rfl (by decide) ?_
    | refine T.copy rfl rfl rfl ⟨rfl, rfl⟩ ?_
    | refine T.idx rfl rfl rfl ⟨rfl, rfl⟩ (by omega) ?_
    | refine T.idxa rfl rfl rfl rfl (by omega) ?_
    | refine T.idxd rfl rfl (by omega) ?_
    | refine T.bsl rfl (by decide) ?_
    | refine T.slc rfl rfl rfl rfl ⟨rfl, rfl⟩ (by omega) ?_
    | refine T.go rfl rfl ?_
    | refine T.pass rfl rfl ?_
    | refine T.pickB rfl rfl rfl ?_
    | refine AW.retI ?_)
  refine hQ _ _ _ rfl (WeakV.cE rfl ?_)
  rw [min64 _ h3, Int.one_mul, wrap64 (n := 2 ^ wd w) (by omega) (by omega), wrap64 (by omega) (by omega), BA.low_eq _ _ h3]

theorem bits1 (n : Int) : bits .and .i64 n 1 = n % 2 := by
  have := BA.low_eq n 1 (by decide)
  simpa using this

theorem lowN_ok (v : Int) (n : Nat) (hn : n ≤ 62) : FnE Try.prog 19 [I v, I n] [] (I (v % 2 ^ n)) [] := by
  have := low_ok v n
  rwa [show wd (n : Int) = n by unfold wd; omega] at this
theorem add_ok (a b c w : Int) : FnE Try.prog 20 [I a, I b, I c, I w] [] (.tup [I ((a % 2 ^ wd w + b % 2 ^ wd w + c % 2) % 2 ^ wd w), I ((a % 2 ^ wd w + b % 2 ^ wd w + c % 2) / 2 ^ wd w)]) [] := by
  refine fnI Try.func20 k20 (Nat.le_of_ble_eq_true rfl) q20 fun Q hQ => ?_
  rw [c20]
  have h1 := pow_le (wd w) (wd_le w)
  have h3 := wd_le w
  have ha := mod_lo a (wd w)
  have hb := mod_lo b (wd w)
  repeat (first
    | refine T.call0 e61 rfl (width_ok _) ?_
    | refine T.call0 e19 rfl (lowN_ok _ _ h3) ?_
    | rw [bits1]
    | refine AW.regS fun K hK => ?_
    | refine AW.dregS fun K hK => ?_
    | refine AW.regN fun K hK => ?_
    | refine AW.dregN fun K hK => ?_
    | simp only [T.mv, AO.ev, put, lk, enter, reduceIte, Nat.reduceEqDiff, Nat.reduceAdd, Nat.reduceMul, Nat.reduceSub, ren_c, ren_tup, ren_agg, ren_sl, List.map, Int.reduceNeg, Int.toNat_zero, Nat.zero_add, Nat.add_zero, List.length_cons, List.length_nil, List.nil_append, List.cons_append, List.set_cons_zero, List.set_cons_succ, Int.reduceToNat, List.take_zero, upto, ren_psl, ren_ptr, List.getElem?_cons_zero, List.getElem?_cons_succ, renB, cells_ren, decide_eq_true_eq, Bool.false_eq_true, true_iff, iff_true, false_iff, iff_false]
    | refine T.nil ?_
    | (first | refine hK _ _ _ (by rfl) ?_ | refine hK _ _ _ ?_); simp only [keep, List.map, lk, reduceIte, Nat.reduceEqDiff, enter]; clear hK; clear K
    | refine T.add rfl rfl (by omega) (by omega) ?_
    | refine T.sub rfl rfl (by omega) (by omega) ?_
    | refine T.bin rfl rfl rfl ?_
    | refine T.rem rfl rfl (by omega) ?_
    | refine T.quo rfl rfl (by omega) ?_
    | refine T.shl rfl rfl (by omega) ?_
    | refine T.shr rfl rfl (by omega) ?_
    | refine T.min2 rfl rfl rfl ?_
    | refine T.max2 rfl rfl rfl ?_
    | refine T.ext rfl rfl ?_
    | refine T.lenc ?_
    | refine T.notD rfl ?_
    | refine T.not rfl ?_
    | refine T.eqb0 rfl rfl ?_
    | refine T.eqb1 rfl rfl ?_
    | refine T.cvt rfl ?_
    | refine T.ld rfl rfl rfl rfl rfl ?_
    | refine T.ldd rfl rfl ?_
    | refine T.ldn rfl rfl rfl rfl (Nat.le_of_ble_eq_true rfl) ?_
    | refine T.lddn rfl (Nat.le_of_ble_eq_true rfl) ?_
    | refine T.fad rfl rfl rfl ?_
    | refine T.fadd rfl ?_
    | refine T.nilc rfl rfl rfl ?_
    | refine T.nilcd rfl ?_
    | refine T.st rfl rfl rfl ⟨rfl, rfl⟩ rfl (Nat.le_of_ble_eq_true rfl) ?_
    | refine T.fld rfl rfl ?_
    | refine T.new rfl ⟨rfl, by decide⟩ ?_
    | refine T.zero (by decide) ?_
    | refine T.build rfl ?_
    | refine T.len rfl rfl rfl ?_
    | refine T.lenS rfl ?_
    | refine T.lenN rfl ?_
    | refine T.mkf ?_
    | refine T.mki ?_
    | refine T.mksl rfl rfl (by decide) ?_
    | refine T.copy rfl rfl rfl ⟨rfl, rfl⟩ ?_
    | refine T.idx rfl rfl rfl ⟨rfl, rfl⟩ (by omega) ?_
    | refine T.idxa rfl rfl rfl rfl (by omega) ?_
    | refine T.idxd rfl rfl (by omega) ?_
    | refine T.bsl rfl (by decide) ?_
    | refine T.slc rfl rfl rfl rfl ⟨rfl, rfl⟩ (by omega) ?_
    | refine T.go rfl rfl ?_
    | refine T.pass rfl rfl ?_
    | refine T.pickB rfl rfl rfl ?_
    | refine AW.retI ?_)
  exact hQ _ _ _ rfl (WeakV.tup2 rfl rfl (by rw [min64 _ h3]))
theorem sub_ok (a b c w : Int) : FnE Try.prog 21 [I a, I b, I c, I w] [] (if a % 2 ^ wd w - b % 2 ^ wd w - c % 2 < 0 then .tup [I (a % 2 ^ wd w - b % 2 ^ wd w - c % 2 + 2 ^ wd w), I 1] else .tup [I (a % 2 ^ wd w - b % 2 ^ wd w - c % 2), I 0]) [] := by
  refine fnI Try.func21 k21 (Nat.le_of_ble_eq_true rfl) q21 fun Q hQ => ?_
  rw [c21]
  have h1 := pow_le (wd w) (wd_le w)
  have h2 := pow_pos' (wd w)
  have h3 := wd_le w
  have ha := mod_lo a (wd w)
  have hb := mod_lo b (wd w)
  repeat (first
    | refine T.call0 e61 rfl (width_ok _) ?_
    | refine T.call0 e19 rfl (lowN_ok _ _ h3) ?_
    | rw [bits1]
    | refine AW.regS fun K hK => ?_
    | refine AW.dregS fun K hK => ?_
    | refine AW.regN fun K hK => ?_
    | refine AW.dregN fun K hK => ?_
    | simp only [T.mv, AO.ev, put, lk, enter, reduceIte, Nat.reduceEqDiff, Nat.reduceAdd, Nat.reduceMul, Nat.reduceSub, ren_c, ren_tup, ren_agg, ren_sl, List.map, Int.reduceNeg, Int.toNat_zero, Nat.zero_add, Nat.add_zero, List.length_cons, List.length_nil, List.nil_append, List.cons_append, List.set_cons_zero, List.set_cons_succ, Int.reduceToNat, List.take_zero, upto, ren_psl, ren_ptr, List.getElem?_cons_zero, List.getElem?_cons_succ, renB, cells_ren, decide_eq_true_eq, Bool.false_eq_true, true_iff, iff_true, false_iff, iff_false]
    | refine T.nil ?_
    | (first | refine hK _ _ _ (by rfl) ?_ | refine hK _ _ _ ?_); simp only [keep, List.map, lk, reduceIte, Nat.reduceEqDiff, enter]; clear hK; clear K
    | refine T.add rfl rfl (by omega) (by omega) ?_
    | refine T.sub rfl rfl (by omega) (by omega) ?_
    | refine T.bin rfl rfl rfl ?_
    | refine T.rem rfl rfl (by omega) ?_
    | refine T.quo rfl rfl (by omega) ?_
    | refine T.shl rfl rfl (by omega) ?_
    | refine T.shr rfl rfl (by omega) ?_
    | refine T.min2 rfl rfl rfl ?_
    | refine T.max2 rfl rfl rfl ?_
    | refine T.ext rfl rfl ?_
    | refine T.lenc ?_
    | refine T.notD rfl ?_
    | refine T.not rfl ?_
    | refine T.eqb0 rfl rfl ?_
    | refine T.eqb1 rfl rfl ?_
    | refine T.cvt rfl ?_
    | refine T.ld rfl rfl rfl rfl rfl ?_
    | refine T.ldd rfl rfl ?_
    | refine T.ldn rfl rfl rfl rfl (Nat.le_of_ble_eq_true rfl) ?_
    | refine T.lddn rfl (Nat.le_of_ble_eq_true rfl) ?_
    | refine T.fad rfl rfl rfl ?_
    | refine T.fadd rfl ?_
    | refine T.nilc rfl rfl rfl ?_
    | refine T.nilcd rfl ?_
    | refine T.st rfl rfl rfl ⟨rfl, rfl⟩ rfl (Nat.le_of_ble_eq_true rfl) ?_
    | refine T.fld rfl rfl ?_
    | refine T.new rfl ⟨rfl, by decide⟩ ?_
    | refine T.zero (by decide) ?_
    | refine T.build rfl ?_
    | refine T.len rfl rfl rfl ?_
    | refine T.lenS rfl ?_
    | refine T.lenN rfl ?_
    | refine T.mkf ?_
    | refine T.mki ?_
    | refine T.mksl rfl rfl (by decide) ?_
    | refine T.copy rfl rfl rfl ⟨rfl, rfl⟩ ?_
    | refine T.idx rfl rfl rfl ⟨rfl, rfl⟩ (by omega) ?_
    | refine T.idxa rfl rfl rfl rfl (by omega) ?_
    | refine T.idxd rfl rfl (by omega) ?_
    | refine T.bsl rfl (by decide) ?_
    | refine T.slc rfl rfl rfl rfl ⟨rfl, rfl⟩ (by omega) ?_
    | refine T.go rfl rfl ?_
    | refine T.pass rfl rfl ?_
    | refine T.pickB rfl rfl rfl ?_
    | refine AW.retI ?_)
  refine AW.seqI fun Q1 hN hX hR => ?_
  repeat (first
    | refine AW.regS fun K hK => ?_
    | refine AW.dregS fun K hK => ?_
    | refine AW.regN fun K hK => ?_
    | refine AW.dregN fun K hK => ?_
    | simp only [T.mv, AO.ev, put, lk, enter, reduceIte, Nat.reduceEqDiff, Nat.reduceAdd, Nat.reduceMul, Nat.reduceSub, ren_c, ren_tup, ren_agg, ren_sl, List.map, Int.reduceNeg, Int.toNat_zero, Nat.zero_add, Nat.add_zero, List.length_cons, List.length_nil, List.nil_append, List.cons_append, List.set_cons_zero, List.set_cons_succ, Int.reduceToNat, List.take_zero, upto, ren_psl, ren_ptr, List.getElem?_cons_zero, List.getElem?_cons_succ, renB, cells_ren, decide_eq_true_eq, Bool.false_eq_true, true_iff, iff_true, false_iff, iff_false]
    | refine T.nil ?_
    | (first | refine hK _ _ _ (by rfl) ?_ | refine hK _ _ _ ?_); simp only [keep, List.map, lk, reduceIte, Nat.reduceEqDiff, enter]; clear hK; clear K
    | refine T.add rfl rfl (by omega) (by omega) ?_
    | refine T.sub rfl rfl (by omega) (by omega) ?_
    | refine T.bin rfl rfl rfl ?_
    | refine T.rem rfl rfl (by omega) ?_
    | refine T.quo rfl rfl (by omega) ?_
    | refine T.shl rfl rfl (by omega) ?_
    | refine T.shr rfl rfl (by omega) ?_
    | refine T.min2 rfl rfl rfl ?_
    | refine T.max2 rfl rfl rfl ?_
    | refine T.ext rfl rfl ?_
    | refine T.lenc ?_
    | refine T.notD rfl ?_
    | refine T.not rfl ?_
    | refine T.eqb0 rfl rfl ?_
    | refine T.eqb1 rfl rfl ?_
    | refine T.cvt rfl ?_
    | refine T.ld rfl rfl rfl rfl rfl ?_
    | refine T.ldd rfl rfl ?_
    | refine T.ldn rfl rfl rfl rfl (Nat.le_of_ble_eq_true rfl) ?_
    | refine T.lddn rfl (Nat.le_of_ble_eq_true rfl) ?_
    | refine T.fad rfl rfl rfl ?_
    | refine T.fadd rfl ?_
    | refine T.nilc rfl rfl rfl ?_
    | refine T.nilcd rfl ?_
    | refine T.st rfl rfl rfl ⟨rfl, rfl⟩ rfl (Nat.le_of_ble_eq_true rfl) ?_
    | refine T.fld rfl rfl ?_
    | refine T.new rfl ⟨rfl, by decide⟩ ?_
    | refine T.zero (by decide) ?_
    | refine T.build rfl ?_
    | refine T.len rfl rfl rfl ?_
    | refine T.lenS rfl ?_
    | refine T.lenN rfl ?_
    | refine T.mkf ?_
    | refine T.mki ?_
    | refine T.mksl rfl rfl (by decide) ?_
    | refine T.copy rfl rfl rfl ⟨rfl, rfl⟩ ?_
    | refine T.idx rfl rfl rfl ⟨rfl, rfl⟩ (by omega) ?_
    | refine T.idxa rfl rfl rfl rfl (by omega) ?_
    | refine T.idxd rfl rfl (by omega) ?_
    | refine T.bsl rfl (by decide) ?_
    | refine T.slc rfl rfl rfl rfl ⟨rfl, rfl⟩ (by omega) ?_
    | refine T.go rfl rfl ?_
    | refine T.pass rfl rfl ?_
    | refine T.pickB rfl rfl rfl ?_
    | refine AW.retI ?_)
  refine AW.condB rfl (fun ht => ?_) (fun ht => ?_)
  · have ht := of_decide_eq_true ht
    rw [if_pos ht] at hQ
    repeat (first
      | rw [min64 _ h3, Int.one_mul, wrap64 (n := 2 ^ wd w) (by omega) (by omega)]
      | refine AW.regS fun K hK => ?_
      | refine AW.dregS fun K hK => ?_
      | refine AW.regN fun K hK => ?_
      | refine AW.dregN fun K hK => ?_
      | simp only [T.mv, AO.ev, put, lk, enter, reduceIte, Nat.reduceEqDiff, Nat.reduceAdd, Nat.reduceMul, Nat.reduceSub, ren_c, ren_tup, ren_agg, ren_sl, List.map, Int.reduceNeg, Int.toNat_zero, Nat.zero_add, Nat.add_zero, List.length_cons, List.length_nil, List.nil_append, List.cons_append, List.set_cons_zero, List.set_cons_succ, Int.reduceToNat, List.take_zero, upto, ren_psl, ren_ptr, List.getElem?_cons_zero, List.getElem?_cons_succ, renB, cells_ren, decide_eq_true_eq, Bool.false_eq_true, true_iff, iff_true, false_iff, iff_false]
      | refine T.nil ?_
      | (first | refine hK _ _ _ (by rfl) ?_ | refine hK _ _ _ ?_); simp only [keep, List.map, lk, reduceIte, Nat.reduceEqDiff, enter]; clear hK; clear K
      | refine T.add rfl rfl (by omega) (by omega) ?_
      | refine T.sub rfl rfl (by omega) (by omega) ?_
      | refine T.bin rfl rfl rfl ?_
      | refine T.rem rfl rfl (by omega) ?_
      | refine T.quo rfl rfl (by omega) ?_
      | refine T.shl rfl rfl (by omega) ?_
      | refine T.shr rfl rfl (by omega) ?_
      | refine T.min2 rfl rfl rfl ?_
      | refine T.max2 rfl rfl rfl ?_
      | refine T.ext rfl rfl ?_
      | refine T.lenc ?_
      | refine T.notD rfl ?_
      | refine T.not rfl ?_
      | refine T.eqb0 rfl rfl ?_
      | refine T.eqb1 rfl rfl ?_
      | refine T.cvt rfl ?_
      | refine T.ld rfl rfl rfl rfl rfl ?_
      | refine T.ldd rfl rfl ?_
      | refine T.ldn rfl rfl rfl rfl (Nat.le_of_ble_eq_true rfl) ?_
      | refine T.lddn rfl (Nat.le_of_ble_eq_true rfl) ?_
      | refine T.fad rfl rfl rfl ?_
      | refine T.fadd rfl ?_
      | refine T.nilc rfl rfl rfl ?_
      | refine T.nilcd rfl ?_
      | refine T.st rfl rfl rfl ⟨rfl, rfl⟩ rfl (Nat.le_of_ble_eq_true rfl) ?_
      | refine T.fld rfl rfl ?_
      | refine T.new rfl ⟨rfl, by decide⟩ ?_
      | refine T.zero (by decide) ?_
      | refine T.build rfl ?_
      | refine T.len rfl rfl rfl ?_
      | refine T.lenS rfl ?_
      | refine T.lenN rfl ?_
      | refine T.mkf ?_
      | refine T.mki ?_
      | refine T.mksl rfl rfl (by decide) ?_
      | refine T.copy rfl rfl rfl ⟨rfl, rfl⟩ ?_
      | refine T.idx rfl rfl rfl ⟨rfl, rfl⟩ (by omega) ?_
      | refine T.idxa rfl rfl rfl rfl (by omega) ?_
      | refine T.idxd rfl rfl (by omega) ?_
      | refine T.bsl rfl (by decide) ?_
      | refine T.slc rfl rfl rfl rfl ⟨rfl, rfl⟩ (by omega) ?_
      | refine T.go rfl rfl ?_
      | refine T.pass rfl rfl ?_
      | refine T.pickB rfl rfl rfl ?_
      | refine AW.retI ?_)
    exact hR _ _ (hQ _ _ _ rfl (WeakV.tup2 rfl rfl rfl))
  · have ht := of_decide_eq_false ht
    rw [if_neg ht] at hQ
    refine AW.skipI (hN _ _ ?_)
    repeat (first
      | refine AW.regS fun K hK => ?_
      | refine AW.dregS fun K hK => ?_
      | refine AW.regN fun K hK => ?_
      | refine AW.dregN fun K hK => ?_
      | simp only [T.mv, AO.ev, put, lk, enter, reduceIte, Nat.reduceEqDiff, Nat.reduceAdd, Nat.reduceMul, Nat.reduceSub, ren_c, ren_tup, ren_agg, ren_sl, List.map, Int.reduceNeg, Int.toNat_zero, Nat.zero_add, Nat.add_zero, List.length_cons, List.length_nil, List.nil_append, List.cons_append, List.set_cons_zero, List.set_cons_succ, Int.reduceToNat, List.take_zero, upto, ren_psl, ren_ptr, List.getElem?_cons_zero, List.getElem?_cons_succ, renB, cells_ren, decide_eq_true_eq, Bool.false_eq_true, true_iff, iff_true, false_iff, iff_false]
      | refine T.nil ?_
      | (first | refine hK _ _ _ (by rfl) ?_ | refine hK _ _ _ ?_); simp only [keep, List.map, lk, reduceIte, Nat.reduceEqDiff, enter]; clear hK; clear K
      | refine T.add rfl rfl (by omega) (by omega) ?_
      | refine T.sub rfl rfl (by omega) (by omega) ?_
      | refine T.bin rfl rfl rfl ?_
      | refine T.rem rfl rfl (by omega) ?_
      | refine T.quo rfl rfl (by omega) ?_
      | refine T.shl rfl rfl (by omega) ?_
      | refine T.shr rfl rfl (by omega) ?_
      | refine T.min2 rfl rfl rfl ?_
      | refine T.max2 rfl rfl rfl ?_
      | refine T.ext rfl rfl ?_
      | refine T.lenc ?_
      | refine T.notD rfl ?_
      | refine T.not rfl ?_
      | refine T.eqb0 rfl rfl ?_
      | refine T.eqb1 rfl rfl ?_
      | refine T.cvt rfl ?_
      | refine T.ld rfl rfl rfl rfl rfl ?_
      | refine T.ldd rfl rfl ?_
      | refine T.ldn rfl rfl rfl rfl (Nat.le_of_ble_eq_true rfl) ?_
      | refine T.lddn rfl (Nat.le_of_ble_eq_true rfl) ?_
      | refine T.fad rfl rfl rfl ?_
      | refine T.fadd rfl ?_
      | refine T.nilc rfl rfl rfl ?_
      | refine T.nilcd rfl ?_
      | refine T.st rfl rfl rfl ⟨rfl, rfl⟩ rfl (Nat.le_of_ble_eq_true rfl) ?_
      | refine T.fld rfl rfl ?_
      | refine T.new rfl ⟨rfl, by decide⟩ ?_
      | refine T.zero (by decide) ?_
      | refine T.build rfl ?_
      | refine T.len rfl rfl rfl ?_
      | refine T.lenS rfl ?_
      | refine T.lenN rfl ?_
      | refine T.mkf ?_
      | refine T.mki ?_
      | refine T.mksl rfl rfl (by decide) ?_
      | refine T.copy rfl rfl rfl ⟨rfl, rfl⟩ ?_
      | refine T.idx rfl rfl rfl ⟨rfl, rfl⟩ (by omega) ?_
      | refine T.idxa rfl rfl rfl rfl (by omega) ?_
      | refine T.idxd rfl rfl (by omega) ?_
      | refine T.bsl rfl (by decide) ?_
      | refine T.slc rfl rfl rfl rfl ⟨rfl, rfl⟩ (by omega) ?_
      | refine T.go rfl rfl ?_
      | refine T.pass rfl rfl ?_
      | refine T.pickB rfl rfl rfl ?_
      | refine AW.retI ?_)
    exact hQ _ _ _ rfl (WeakV.tup2 rfl rfl rfl)
def sgn (v : Int) (n : Nat) : Int := if 0 < n ∧ v % 2 ^ n / 2 ^ (n - 1) = 1 then v % 2 ^ n - 2 ^ n else v % 2 ^ n
theorem signed_ok (v w : Int) : FnE Try.prog 22 [I v, I w] [] (I (sgn v (wd w))) [] := by
  refine fnI Try.func22 k22 (Nat.le_of_ble_eq_true rfl) q22 fun Q hQ => ?_
  rw [c22]
  have h1 := pow_le (wd w) (wd_le w)
  have h2 := pow_pos' (wd w)
  have h3 := wd_le w
  have ha := mod_lo v (wd w)
  repeat (first
    | refine T.call0 e61 rfl (width_ok _) ?_
    | refine T.call0 e19 rfl (lowN_ok _ _ h3) ?_
    | refine AW.regS fun K hK => ?_
    | refine AW.dregS fun K hK => ?_
    | refine AW.regN fun K hK => ?_
    | refine AW.dregN fun K hK => ?_
    | simp only [T.mv, AO.ev, put, lk, enter, reduceIte, Nat.reduceEqDiff, Nat.reduceAdd, Nat.reduceMul, Nat.reduceSub, ren_c, ren_tup, ren_agg, ren_sl, List.map, Int.reduceNeg, Int.toNat_zero, Nat.zero_add, Nat.add_zero, List.length_cons, List.length_nil, List.nil_append, List.cons_append, List.set_cons_zero, List.set_cons_succ, Int.reduceToNat, List.take_zero, upto, ren_psl, ren_ptr, List.getElem?_cons_zero, List.getElem?_cons_succ, renB, cells_ren, decide_eq_true_eq, Bool.false_eq_true, true_iff, iff_true, false_iff, iff_false]
    | refine T.nil ?_
    | (first | refine hK _ _ _ (by rfl) ?_ | refine hK _ _ _ ?_); simp only [keep, List.map, lk, reduceIte, Nat.reduceEqDiff, enter]; clear hK; clear K
    | refine T.add rfl rfl (by omega) (by omega) ?_
    | refine T.sub rfl rfl (by omega) (by omega) ?_
    | refine T.bin rfl rfl rfl ?_
    | refine T.rem rfl rfl (by omega) ?_
    | refine T.quo rfl rfl (by omega) ?_
    | refine T.shl rfl rfl (by omega) ?_
    | refine T.shr rfl rfl (by omega) ?_
    | refine T.min2 rfl rfl rfl ?_
    | refine T.max2 rfl rfl rfl ?_
    | refine T.ext rfl rfl ?_
    | refine T.lenc ?_
    | refine T.notD rfl ?_
    | refine T.not rfl ?_
    | refine T.eqb0 rfl rfl ?_
    | refine T.eqb1 rfl rfl ?_
    | refine T.cvt rfl ?_
    | refine T.ld rfl rfl rfl rfl rfl ?_
    | refine T.ldd rfl rfl ?_
    | refine T.ldn rfl rfl rfl rfl (Nat.le_of_ble_eq_true rfl) ?_
    | refine T.lddn rfl (Nat.le_of_ble_eq_true rfl) ?_
    | refine T.fad rfl rfl rfl ?_
    | refine T.fadd rfl ?_
    | refine T.nilc rfl rfl rfl ?_
    | refine T.nilcd rfl ?_
    | refine T.st rfl rfl rfl ⟨rfl, rfl⟩ rfl (Nat.le_of_ble_eq_true rfl) ?_
    | refine T.fld rfl rfl ?_
    | refine T.new rfl ⟨rfl, by decide⟩ ?_
    | refine T.zero (by decide) ?_
    | refine T.build rfl ?_
    | refine T.len rfl rfl rfl ?_
    | refine T.lenS rfl ?_
    | refine T.lenN rfl ?_
    | refine T.mkf ?_
    | refine T.mki ?_
    | refine T.mksl rfl rfl (by decide) ?_
    | refine T.copy rfl rfl rfl ⟨rfl, rfl⟩ ?_
    | refine T.idx rfl rfl rfl ⟨rfl, rfl⟩ (by omega) ?_
    | refine T.idxa rfl rfl rfl rfl (by omega) ?_
    | refine T.idxd rfl rfl (by omega) ?_
    | refine T.bsl rfl (by decide) ?_
    | refine T.slc rfl rfl rfl rfl ⟨rfl, rfl⟩ (by omega) ?_
    | refine T.go rfl rfl ?_
    | refine T.pass rfl rfl ?_
    | refine T.pickB rfl rfl rfl ?_
    | refine AW.retI ?_)
  refine AW.seqI fun Q1 hN hX hR => ?_
  by_cases hz : 0 < wd w
  · skip
    repeat (first
      | refine T.go rfl (decide_eq_true (by omega)) ?_
      | refine T.pickT rfl (decide_eq_true (by omega)) ?_
      | refine AW.regS fun K hK => ?_
      | refine AW.dregS fun K hK => ?_
      | refine AW.regN fun K hK => ?_
      | refine AW.dregN fun K hK => ?_
      | simp only [T.mv, AO.ev, put, lk, enter, reduceIte, Nat.reduceEqDiff, Nat.reduceAdd, Nat.reduceMul, Nat.reduceSub, ren_c, ren_tup, ren_agg, ren_sl, List.map, Int.reduceNeg, Int.toNat_zero, Nat.zero_add, Nat.add_zero, List.length_cons, List.length_nil, List.nil_append, List.cons_append, List.set_cons_zero, List.set_cons_succ, Int.reduceToNat, List.take_zero, upto, ren_psl, ren_ptr, List.getElem?_cons_zero, List.getElem?_cons_succ, renB, cells_ren, decide_eq_true_eq, Bool.false_eq_true, true_iff, iff_true, false_iff, iff_false]
      | refine T.nil ?_
      | (first | refine hK _ _ _ (by rfl) ?_ | refine hK _ _ _ ?_); simp only [keep, List.map, lk, reduceIte, Nat.reduceEqDiff, enter]; clear hK; clear K
      | refine T.add rfl rfl (by omega) (by omega) ?_
      | refine T.sub rfl rfl (by omega) (by omega) ?_
      | refine T.bin rfl rfl rfl ?_
      | refine T.rem rfl rfl (by omega) ?_
      | refine T.quo rfl rfl (by omega) ?_
      | refine T.shl rfl rfl (by omega) ?_
      | refine T.shr rfl rfl (by omega) ?_
      | refine T.min2 rfl rfl rfl ?_
      | refine T.max2 rfl rfl rfl ?_
      | refine T.ext rfl rfl ?_
      | refine T.lenc ?_
      | refine T.notD rfl ?_
      | refine T.not rfl ?_
      | refine T.eqb0 rfl rfl ?_
      | refine T.eqb1 rfl rfl ?_
      | refine T.cvt rfl ?_
      | refine T.ld rfl rfl rfl rfl rfl ?_
      | refine T.ldd rfl rfl ?_
      | refine T.ldn rfl rfl rfl rfl (Nat.le_of_ble_eq_true rfl) ?_
      | refine T.lddn rfl (Nat.le_of_ble_eq_true rfl) ?_
      | refine T.fad rfl rfl rfl ?_
      | refine T.fadd rfl ?_
      | refine T.nilc rfl rfl rfl ?_
      | refine T.nilcd rfl ?_
      | refine T.st rfl rfl rfl ⟨rfl, rfl⟩ rfl (Nat.le_of_ble_eq_true rfl) ?_
      | refine T.fld rfl rfl ?_
      | refine T.new rfl ⟨rfl, by decide⟩ ?_
      | refine T.zero (by decide) ?_
      | refine T.build rfl ?_
      | refine T.len rfl rfl rfl ?_
      | refine T.lenS rfl ?_
      | refine T.lenN rfl ?_
      | refine T.mkf ?_
      | refine T.mki ?_
      | refine T.mksl rfl rfl (by decide) ?_
      | refine T.copy rfl rfl rfl ⟨rfl, rfl⟩ ?_
      | refine T.idx rfl rfl rfl ⟨rfl, rfl⟩ (by omega) ?_
      | refine T.idxa rfl rfl rfl rfl (by omega) ?_
      | refine T.idxd rfl rfl (by omega) ?_
      | refine T.bsl rfl (by decide) ?_
      | refine T.slc rfl rfl rfl rfl ⟨rfl, rfl⟩ (by omega) ?_
      | refine T.go rfl rfl ?_
      | refine T.pass rfl rfl ?_
      | refine T.pickB rfl rfl rfl ?_
      | refine AW.retI ?_)
    have e : min ((wd w : Int) - 1).toNat IntKind.i64.bits = wd w - 1 := by
      have : IntKind.i64.bits = 64 := rfl
      omega
    rw [e]
    refine AW.condB rfl (fun ht => ?_) (fun ht => ?_)
    · have ht := of_decide_eq_true ht
      repeat (first
        | rw [min64 _ h3, Int.one_mul, wrap64 (n := 2 ^ wd w) (by omega) (by omega)]
        | refine AW.regS fun K hK => ?_
        | refine AW.dregS fun K hK => ?_
        | refine AW.regN fun K hK => ?_
        | refine AW.dregN fun K hK => ?_
        | simp only [T.mv, AO.ev, put, lk, enter, reduceIte, Nat.reduceEqDiff, Nat.reduceAdd, Nat.reduceMul, Nat.reduceSub, ren_c, ren_tup, ren_agg, ren_sl, List.map, Int.reduceNeg, Int.toNat_zero, Nat.zero_add, Nat.add_zero, List.length_cons, List.length_nil, List.nil_append, List.cons_append, List.set_cons_zero, List.set_cons_succ, Int.reduceToNat, List.take_zero, upto, ren_psl, ren_ptr, List.getElem?_cons_zero, List.getElem?_cons_succ, renB, cells_ren, decide_eq_true_eq, Bool.false_eq_true, true_iff, iff_true, false_iff, iff_false]
        | refine T.nil ?_
        | (first | refine hK _ _ _ (by rfl) ?_ | refine hK _ _ _ ?_); simp only [keep, List.map, lk, reduceIte, Nat.reduceEqDiff, enter]; clear hK; clear K
        | refine T.add rfl rfl (by omega) (by omega) ?_
        | refine T.sub rfl rfl (by omega) (by omega) ?_
        | refine T.bin rfl rfl rfl ?_
        | refine T.rem rfl rfl (by omega) ?_
        | refine T.quo rfl rfl (by omega) ?_
        | refine T.shl rfl rfl (by omega) ?_
        | refine T.shr rfl rfl (by omega) ?_
        | refine T.min2 rfl rfl rfl ?_
        | refine T.max2 rfl rfl rfl ?_
        | refine T.ext rfl rfl ?_
        | refine T.lenc ?_
        | refine T.notD rfl ?_
        | refine T.not rfl ?_
        | refine T.eqb0 rfl rfl ?_
        | refine T.eqb1 rfl rfl ?_
        | refine T.cvt rfl ?_
        | refine T.ld rfl rfl rfl rfl rfl ?_
        | refine T.ldd rfl rfl ?_
        | refine T.ldn rfl rfl rfl rfl (Nat.le_of_ble_eq_true rfl) ?_
        | refine T.lddn rfl (Nat.le_of_ble_eq_true rfl) ?_
        | refine T.fad rfl rfl rfl ?_
        | refine T.fadd rfl ?_
        | refine T.nilc rfl rfl rfl ?_
        | refine T.nilcd rfl ?_
        | refine T.st rfl rfl rfl ⟨rfl, rfl⟩ rfl (Nat.le_of_ble_eq_true rfl) ?_
        | refine T.fld rfl rfl ?_
        | refine T.new rfl ⟨rfl, by decide⟩ ?_
        | refine T.zero (by decide) ?_
        | refine T.build rfl ?_
        | refine T.len rfl rfl rfl ?_
        | refine T.lenS rfl ?_
        | refine T.lenN rfl ?_
        | refine T.mkf ?_
        | refine T.mki ?_
        | refine T.mksl rfl rfl (by decide) ?_
        | refine T.copy rfl rfl rfl ⟨rfl, rfl⟩ ?_
        | refine T.idx rfl rfl rfl ⟨rfl, rfl⟩ (by omega) ?_
        | refine T.idxa rfl rfl rfl rfl (by omega) ?_
        | refine T.idxd rfl rfl (by omega) ?_
        | refine T.bsl rfl (by decide) ?_
        | refine T.slc rfl rfl rfl rfl ⟨rfl, rfl⟩ (by omega) ?_
        | refine T.go rfl rfl ?_
        | refine T.pass rfl rfl ?_
        | refine T.pickB rfl rfl rfl ?_
        | refine AW.retI ?_)
      refine hN _ _ ?_
      repeat (first
        | refine AW.regS fun K hK => ?_
        | refine AW.dregS fun K hK => ?_
        | refine AW.regN fun K hK => ?_
        | refine AW.dregN fun K hK => ?_
        | simp only [T.mv, AO.ev, put, lk, enter, reduceIte, Nat.reduceEqDiff, Nat.reduceAdd, Nat.reduceMul, Nat.reduceSub, ren_c, ren_tup, ren_agg, ren_sl, List.map, Int.reduceNeg, Int.toNat_zero, Nat.zero_add, Nat.add_zero, List.length_cons, List.length_nil, List.nil_append, List.cons_append, List.set_cons_zero, List.set_cons_succ, Int.reduceToNat, List.take_zero, upto, ren_psl, ren_ptr, List.getElem?_cons_zero, List.getElem?_cons_succ, renB, cells_ren, decide_eq_true_eq, Bool.false_eq_true, true_iff, iff_true, false_iff, iff_false]
        | refine T.nil ?_
        | (first | refine hK _ _ _ (by rfl) ?_ | refine hK _ _ _ ?_); simp only [keep, List.map, lk, reduceIte, Nat.reduceEqDiff, enter]; clear hK; clear K
        | refine T.add rfl rfl (by omega) (by omega) ?_
        | refine T.sub rfl rfl (by omega) (by omega) ?_
        | refine T.bin rfl rfl rfl ?_
        | refine T.rem rfl rfl (by omega) ?_
        | refine T.quo rfl rfl (by omega) ?_
        | refine T.shl rfl rfl (by omega) ?_
        | refine T.shr rfl rfl (by omega) ?_
        | refine T.min2 rfl rfl rfl ?_
        | refine T.max2 rfl rfl rfl ?_
        | refine T.ext rfl rfl ?_
        | refine T.lenc ?_
        | refine T.notD rfl ?_
        | refine T.not rfl ?_
        | refine T.eqb0 rfl rfl ?_
        | refine T.eqb1 rfl rfl ?_
        | refine T.cvt rfl ?_
        | refine T.ld rfl rfl rfl rfl rfl ?_
        | refine T.ldd rfl rfl ?_
        | refine T.ldn rfl rfl rfl rfl (Nat.le_of_ble_eq_true rfl) ?_
        | refine T.lddn rfl (Nat.le_of_ble_eq_true rfl) ?_
        | refine T.fad rfl rfl rfl ?_
        | refine T.fadd rfl ?_
        | refine T.nilc rfl rfl rfl ?_
        | refine T.nilcd rfl ?_
        | refine T.st rfl rfl rfl ⟨rfl, rfl⟩ rfl (Nat.le_of_ble_eq_true rfl) ?_
        | refine T.fld rfl rfl ?_
        | refine T.new rfl ⟨rfl, by decide⟩ ?_
        | refine T.zero (by decide) ?_
        | refine T.build rfl ?_
        | refine T.len rfl rfl rfl ?_
        | refine T.lenS rfl ?_
        | refine T.lenN rfl ?_
        | refine T.mkf ?_
        | refine T.mki ?_
        | refine T.mksl rfl rfl (by decide) ?_
        | refine T.copy rfl rfl rfl ⟨rfl, rfl⟩ ?_
        | refine T.idx rfl rfl rfl ⟨rfl, rfl⟩ (by omega) ?_
        | refine T.idxa rfl rfl rfl rfl (by omega) ?_
        | refine T.idxd rfl rfl (by omega) ?_
        | refine T.bsl rfl (by decide) ?_
        | refine T.slc rfl rfl rfl rfl ⟨rfl, rfl⟩ (by omega) ?_
        | refine T.go rfl rfl ?_
        | refine T.pass rfl rfl ?_
        | refine T.pickB rfl rfl rfl ?_
        | refine AW.retI ?_)
      exact hQ _ _ _ rfl (WeakV.cE rfl (by rw [sgn, if_pos ⟨hz, ht⟩]))
    · have ht := of_decide_eq_false ht
      refine AW.skipI (hN _ _ ?_)
      repeat (first
        | refine AW.regS fun K hK => ?_
        | refine AW.dregS fun K hK => ?_
        | refine AW.regN fun K hK => ?_
        | refine AW.dregN fun K hK => ?_
        | simp only [T.mv, AO.ev, put, lk, enter, reduceIte, Nat.reduceEqDiff, Nat.reduceAdd, Nat.reduceMul, Nat.reduceSub, ren_c, ren_tup, ren_agg, ren_sl, List.map, Int.reduceNeg, Int.toNat_zero, Nat.zero_add, Nat.add_zero, List.length_cons, List.length_nil, List.nil_append, List.cons_append, List.set_cons_zero, List.set_cons_succ, Int.reduceToNat, List.take_zero, upto, ren_psl, ren_ptr, List.getElem?_cons_zero, List.getElem?_cons_succ, renB, cells_ren, decide_eq_true_eq, Bool.false_eq_true, true_iff, iff_true, false_iff, iff_false]
        | refine T.nil ?_
        | (first | refine hK _ _ _ (by rfl) ?_ | refine hK _ _ _ ?_); simp only [keep, List.map, lk, reduceIte, Nat.reduceEqDiff, enter]; clear hK; clear K
        | refine T.add rfl rfl (by omega) (by omega) ?_
        | refine T.sub rfl rfl (by omega) (by omega) ?_
        | refine T.bin rfl rfl rfl ?_
        | refine T.rem rfl rfl (by omega) ?_
        | refine T.quo rfl rfl (by omega) ?_
        | refine T.shl rfl rfl (by omega) ?_
        | refine T.shr rfl rfl (by omega) ?_
        | refine T.min2 rfl rfl rfl ?_
        | refine T.max2 rfl rfl rfl ?_
        | refine T.ext rfl rfl ?_
        | refine T.lenc ?_
        | refine T.notD rfl ?_
        | refine T.not rfl ?_
        | refine T.eqb0 rfl rfl ?_
        | refine T.eqb1 rfl rfl ?_
        | refine T.cvt rfl ?_
        | refine T.ld rfl rfl rfl rfl rfl ?_
        | refine T.ldd rfl rfl ?_
        | refine T.ldn rfl rfl rfl rfl (Nat.le_of_ble_eq_true rfl) ?_
        | refine T.lddn rfl (Nat.le_of_ble_eq_true rfl) ?_
        | refine T.fad rfl rfl rfl ?_
        | refine T.fadd rfl ?_
        | refine T.nilc rfl rfl rfl ?_
        | refine T.nilcd rfl ?_
        | refine T.st rfl rfl rfl ⟨rfl, rfl⟩ rfl (Nat.le_of_ble_eq_true rfl) ?_
        | refine T.fld rfl rfl ?_
        | refine T.new rfl ⟨rfl, by decide⟩ ?_
        | refine T.zero (by decide) ?_
        | refine T.build rfl ?_
        | refine T.len rfl rfl rfl ?_
        | refine T.lenS rfl ?_
        | refine T.lenN rfl ?_
        | refine T.mkf ?_
        | refine T.mki ?_
        | refine T.mksl rfl rfl (by decide) ?_
        | refine T.copy rfl rfl rfl ⟨rfl, rfl⟩ ?_
        | refine T.idx rfl rfl rfl ⟨rfl, rfl⟩ (by omega) ?_
        | refine T.idxa rfl rfl rfl rfl (by omega) ?_
        | refine T.idxd rfl rfl (by omega) ?_
        | refine T.bsl rfl (by decide) ?_
        | refine T.slc rfl rfl rfl rfl ⟨rfl, rfl⟩ (by omega) ?_
        | refine T.go rfl rfl ?_
        | refine T.pass rfl rfl ?_
        | refine T.pickB rfl rfl rfl ?_
        | refine AW.retI ?_)
      exact hQ _ _ _ rfl (WeakV.cE rfl (by rw [sgn, if_neg (fun h => ht h.2)]))
  · skip
    repeat (first
      | refine T.pass rfl (decide_eq_false (by omega)) ?_
      | refine T.pickF rfl (decide_eq_false (by omega)) ?_
      | refine AW.regS fun K hK => ?_
      | refine AW.dregS fun K hK => ?_
      | refine AW.regN fun K hK => ?_
      | refine AW.dregN fun K hK => ?_
      | simp only [T.mv, AO.ev, put, lk, enter, reduceIte, Nat.reduceEqDiff, Nat.reduceAdd, Nat.reduceMul, Nat.reduceSub, ren_c, ren_tup, ren_agg, ren_sl, List.map, Int.reduceNeg, Int.toNat_zero, Nat.zero_add, Nat.add_zero, List.length_cons, List.length_nil, List.nil_append, List.cons_append, List.set_cons_zero, List.set_cons_succ, Int.reduceToNat, List.take_zero, upto, ren_psl, ren_ptr, List.getElem?_cons_zero, List.getElem?_cons_succ, renB, cells_ren, decide_eq_true_eq, Bool.false_eq_true, true_iff, iff_true, false_iff, iff_false]
      | refine T.nil ?_
      | (first | refine hK _ _ _ (by rfl) ?_ | refine hK _ _ _ ?_); simp only [keep, List.map, lk, reduceIte, Nat.reduceEqDiff, enter]; clear hK; clear K
      | refine T.add rfl rfl (by omega) (by omega) ?_
      | refine T.sub rfl rfl (by omega) (by omega) ?_
      | refine T.bin rfl rfl rfl ?_
      | refine T.rem rfl rfl (by omega) ?_
      | refine T.quo rfl rfl (by omega) ?_
      | refine T.shl rfl rfl (by omega) ?_
      | refine T.shr rfl rfl (by omega) ?_
      | refine T.min2 rfl rfl rfl ?_
      | refine T.max2 rfl rfl rfl ?_
      | refine T.ext rfl rfl ?_
      | refine T.lenc ?_
      | refine T.notD rfl ?_
      | refine T.not rfl ?_
      | refine T.eqb0 rfl rfl ?_
      | refine T.eqb1 rfl rfl ?_
      | refine T.cvt rfl ?_
      | refine T.ld rfl rfl rfl rfl rfl ?_
      | refine T.ldd rfl rfl ?_
      | refine T.ldn rfl rfl rfl rfl (Nat.le_of_ble_eq_true rfl) ?_
      | refine T.lddn rfl (Nat.le_of_ble_eq_true rfl) ?_
      | refine T.fad rfl rfl rfl ?_
      | refine T.fadd rfl ?_
      | refine T.nilc rfl rfl rfl ?_
      | refine T.nilcd rfl ?_
      | refine T.st rfl rfl rfl ⟨rfl, rfl⟩ rfl (Nat.le_of_ble_eq_true rfl) ?_
      | refine T.fld rfl rfl ?_
      | refine T.new rfl ⟨rfl, by decide⟩ ?_
      | refine T.zero (by decide) ?_
      | refine T.build rfl ?_
      | refine T.len rfl rfl rfl ?_
      | refine T.lenS rfl ?_
      | refine T.lenN rfl ?_
      | refine T.mkf ?_
      | refine T.mki ?_
      | refine T.mksl rfl rfl (by decide) ?_
      | refine T.copy rfl rfl rfl ⟨rfl, rfl⟩ ?_
      | refine T.idx rfl rfl rfl ⟨rfl, rfl⟩ (by omega) ?_
      | refine T.idxa rfl rfl rfl rfl (by omega) ?_
      | refine T.idxd rfl rfl (by omega) ?_
      | refine T.bsl rfl (by decide) ?_
      | refine T.slc rfl rfl rfl rfl ⟨rfl, rfl⟩ (by omega) ?_
      | refine T.go rfl rfl ?_
      | refine T.pass rfl rfl ?_
      | refine T.pickB rfl rfl rfl ?_
      | refine AW.retI ?_)
    refine AW.condF rfl rfl ?_
    refine AW.skipI (hN _ _ ?_)
    repeat (first
      | refine AW.regS fun K hK => ?_
      | refine AW.dregS fun K hK => ?_
      | refine AW.regN fun K hK => ?_
      | refine AW.dregN fun K hK => ?_
      | simp only [T.mv, AO.ev, put, lk, enter, reduceIte, Nat.reduceEqDiff, Nat.reduceAdd, Nat.reduceMul, Nat.reduceSub, ren_c, ren_tup, ren_agg, ren_sl, List.map, Int.reduceNeg, Int.toNat_zero, Nat.zero_add, Nat.add_zero, List.length_cons, List.length_nil, List.nil_append, List.cons_append, List.set_cons_zero, List.set_cons_succ, Int.reduceToNat, List.take_zero, upto, ren_psl, ren_ptr, List.getElem?_cons_zero, List.getElem?_cons_succ, renB, cells_ren, decide_eq_true_eq, Bool.false_eq_true, true_iff, iff_true, false_iff, iff_false]
      | refine T.nil ?_
      | (first | refine hK _ _ _ (by rfl) ?_ | refine hK _ _ _ ?_); simp only [keep, List.map, lk, reduceIte, Nat.reduceEqDiff, enter]; clear hK; clear K
      | refine T.add rfl rfl (by omega) (by omega) ?_
      | refine T.sub rfl rfl (by omega) (by omega) ?_
      | refine T.bin rfl rfl rfl ?_
      | refine T.rem rfl rfl (by omega) ?_
      | refine T.quo rfl rfl (by omega) ?_
      | refine T.shl rfl rfl (by omega) ?_
      | refine T.shr rfl rfl (by omega) ?_
      | refine T.min2 rfl rfl rfl ?_
      | refine T.max2 rfl rfl rfl ?_
      | refine T.ext rfl rfl ?_
      | refine T.lenc ?_
      | refine T.notD rfl ?_
      | refine T.not rfl ?_
      | refine T.eqb0 rfl rfl ?_
      | refine T.eqb1 rfl rfl ?_
      | refine T.cvt rfl ?_
      | refine T.ld rfl rfl rfl rfl rfl ?_
      | refine T.ldd rfl rfl ?_
      | refine T.ldn rfl rfl rfl rfl (Nat.le_of_ble_eq_true rfl) ?_
      | refine T.lddn rfl (Nat.le_of_ble_eq_true rfl) ?_
      | refine T.fad rfl rfl rfl ?_
      | refine T.fadd rfl ?_
      | refine T.nilc rfl rfl rfl ?_
      | refine T.nilcd rfl ?_
      | refine T.st rfl rfl rfl ⟨rfl, rfl⟩ rfl (Nat.le_of_ble_eq_true rfl) ?_
      | refine T.fld rfl rfl ?_
      | refine T.new rfl ⟨rfl, by decide⟩ ?_
      | refine T.zero (by decide) ?_
      | refine T.build rfl ?_
      | refine T.len rfl rfl rfl ?_
      | refine T.lenS rfl ?_
      | refine T.lenN rfl ?_
      | refine T.mkf ?_
      | refine T.mki ?_
      | refine T.mksl rfl rfl (by decide) ?_
      | refine T.copy rfl rfl rfl ⟨rfl, rfl⟩ ?_
      | refine T.idx rfl rfl rfl ⟨rfl, rfl⟩ (by omega) ?_
      | refine T.idxa rfl rfl rfl rfl (by omega) ?_
      | refine T.idxd rfl rfl (by omega) ?_
      | refine T.bsl rfl (by decide) ?_
      | refine T.slc rfl rfl rfl rfl ⟨rfl, rfl⟩ (by omega) ?_
      | refine T.go rfl rfl ?_
      | refine T.pass rfl rfl ?_
      | refine T.pickB rfl rfl rfl ?_
      | refine AW.retI ?_)
    exact hQ _ _ _ rfl (WeakV.cE rfl (by rw [sgn, if_neg (fun h => hz h.1)]))
theorem below_ok (x n : Int) (hn : 0 < n) (hn2 : n < 4611686018427387904) : FnE Try.prog 15 [I x, I n] [] (I (x % n)) [] := by
  refine fnI Try.func15 k15 (Nat.le_of_ble_eq_true rfl) q15 fun Q hQ => ?_
  rw [c15]
  repeat (first
    | refine AW.regS fun K hK => ?_
    | refine AW.dregS fun K hK => ?_
    | refine AW.regN fun K hK => ?_
    | refine AW.dregN fun K hK => ?_
    | simp only [T.mv, AO.ev, put, lk, enter, reduceIte, Nat.reduceEqDiff, Nat.reduceAdd, Nat.reduceMul, Nat.reduceSub, ren_c, ren_tup, ren_agg, ren_sl, List.map, Int.reduceNeg, Int.toNat_zero, Nat.zero_add, Nat.add_zero, List.length_cons, List.length_nil, List.nil_append, List.cons_append, List.set_cons_zero, List.set_cons_succ, Int.reduceToNat, List.take_zero, upto, ren_psl, ren_ptr, List.getElem?_cons_zero, List.getElem?_cons_succ, renB, cells_ren, decide_eq_true_eq, Bool.false_eq_true, true_iff, iff_true, false_iff, iff_false]
    | refine T.nil ?_
    | (first | refine hK _ _ _ (by rfl) ?_ | refine hK _ _ _ ?_); simp only [keep, List.map, lk, reduceIte, Nat.reduceEqDiff, enter]; clear hK; clear K
    | refine T.add rfl rfl (by omega) (by omega) ?_
    | refine T.sub rfl rfl (by omega) (by omega) ?_
    | refine T.bin rfl rfl rfl ?_
    | refine T.rem rfl rfl (by omega) ?_
    | refine T.quo rfl rfl (by omega) ?_
    | refine T.shl rfl rfl (by omega) ?_
    | refine T.shr rfl rfl (by omega) ?_
    | refine T.min2 rfl rfl rfl ?_
    | refine T.max2 rfl rfl rfl ?_
    | refine T.ext rfl rfl ?_
    | refine T.lenc ?_
    | refine T.notD rfl ?_
    | refine T.not rfl ?_
    | refine T.eqb0 rfl rfl ?_
    | refine T.eqb1 rfl rfl ?_
    | refine T.cvt rfl ?_
    | refine T.ld rfl rfl rfl rfl rfl ?_
    | refine T.ldd rfl rfl ?_
    | refine T.ldn rfl rfl rfl rfl (Nat.le_of_ble_eq_true rfl) ?_
    | refine T.lddn rfl (Nat.le_of_ble_eq_true rfl) ?_
    | refine T.fad rfl rfl rfl ?_
    | refine T.fadd rfl ?_
    | refine T.nilc rfl rfl rfl ?_
    | refine T.nilcd rfl ?_
    | refine T.st rfl rfl rfl ⟨rfl, rfl⟩ rfl (Nat.le_of_ble_eq_true rfl) ?_
    | refine T.fld rfl rfl ?_
    | refine T.new rfl ⟨rfl, by decide⟩ ?_
    | refine T.zero (by decide) ?_
    | refine T.build rfl ?_
    | refine T.len rfl rfl rfl ?_
    | refine T.lenS rfl ?_
    | refine T.lenN rfl ?_
    | refine T.mkf ?_
    | refine T.mki ?_
    | refine T.mksl rfl rfl (by decide) ?_
    | refine T.copy rfl rfl rfl ⟨rfl, rfl⟩ ?_
    | refine T.idx rfl rfl rfl ⟨rfl, rfl⟩ (by omega) ?_
    | refine T.idxa rfl rfl rfl rfl (by omega) ?_
    | refine T.idxd rfl rfl (by omega) ?_
    | refine T.bsl rfl (by decide) ?_
    | refine T.slc rfl rfl rfl rfl ⟨rfl, rfl⟩ (by omega) ?_
    | refine T.go rfl rfl ?_
    | refine T.pass rfl rfl ?_
    | refine T.pickB rfl rfl rfl ?_
    | refine AW.retI ?_)
  refine AW.seqI fun Q1 hN hX hR => ?_
  repeat (first
    | refine AW.regS fun K hK => ?_
    | refine AW.dregS fun K hK => ?_
    | refine AW.regN fun K hK => ?_
    | refine AW.dregN fun K hK => ?_
    | simp only [T.mv, AO.ev, put, lk, enter, reduceIte, Nat.reduceEqDiff, Nat.reduceAdd, Nat.reduceMul, Nat.reduceSub, ren_c, ren_tup, ren_agg, ren_sl, List.map, Int.reduceNeg, Int.toNat_zero, Nat.zero_add, Nat.add_zero, List.length_cons, List.length_nil, List.nil_append, List.cons_append, List.set_cons_zero, List.set_cons_succ, Int.reduceToNat, List.take_zero, upto, ren_psl, ren_ptr, List.getElem?_cons_zero, List.getElem?_cons_succ, renB, cells_ren, decide_eq_true_eq, Bool.false_eq_true, true_iff, iff_true, false_iff, iff_false]
    | refine T.nil ?_
    | (first | refine hK _ _ _ (by rfl) ?_ | refine hK _ _ _ ?_); simp only [keep, List.map, lk, reduceIte, Nat.reduceEqDiff, enter]; clear hK; clear K
    | refine T.add rfl rfl (by omega) (by omega) ?_
    | refine T.sub rfl rfl (by omega) (by omega) ?_
    | refine T.bin rfl rfl rfl ?_
    | refine T.rem rfl rfl (by omega) ?_
    | refine T.quo rfl rfl (by omega) ?_
    | refine T.shl rfl rfl (by omega) ?_
    | refine T.shr rfl rfl (by omega) ?_
    | refine T.min2 rfl rfl rfl ?_
    | refine T.max2 rfl rfl rfl ?_
    | refine T.ext rfl rfl ?_
    | refine T.lenc ?_
    | refine T.notD rfl ?_
    | refine T.not rfl ?_
    | refine T.eqb0 rfl rfl ?_
    | refine T.eqb1 rfl rfl ?_
    | refine T.cvt rfl ?_
    | refine T.ld rfl rfl rfl rfl rfl ?_
    | refine T.ldd rfl rfl ?_
    | refine T.ldn rfl rfl rfl rfl (Nat.le_of_ble_eq_true rfl) ?_
    | refine T.lddn rfl (Nat.le_of_ble_eq_true rfl) ?_
    | refine T.fad rfl rfl rfl ?_
    | refine T.fadd rfl ?_
    | refine T.nilc rfl rfl rfl ?_
    | refine T.nilcd rfl ?_
    | refine T.st rfl rfl rfl ⟨rfl, rfl⟩ rfl (Nat.le_of_ble_eq_true rfl) ?_
    | refine T.fld rfl rfl ?_
    | refine T.new rfl ⟨rfl, by decide⟩ ?_
    | refine T.zero (by decide) ?_
    | refine T.build rfl ?_
    | refine T.len rfl rfl rfl ?_
    | refine T.lenS rfl ?_
    | refine T.lenN rfl ?_
    | refine T.mkf ?_
    | refine T.mki ?_
    | refine T.mksl rfl rfl (by decide) ?_
    | refine T.copy rfl rfl rfl ⟨rfl, rfl⟩ ?_
    | refine T.idx rfl rfl rfl ⟨rfl, rfl⟩ (by omega) ?_
    | refine T.idxa rfl rfl rfl rfl (by omega) ?_
    | refine T.idxd rfl rfl (by omega) ?_
    | refine T.bsl rfl (by decide) ?_
    | refine T.slc rfl rfl rfl rfl ⟨rfl, rfl⟩ (by omega) ?_
    | refine T.go rfl rfl ?_
    | refine T.pass rfl rfl ?_
    | refine T.pickB rfl rfl rfl ?_
    | refine AW.retI ?_)
  have hm : x % n = if x.tmod n < 0 then x.tmod n + n else x.tmod n := by
    rw [Int.tmod_eq_emod]
    have h0 := Int.emod_nonneg x (show n ≠ 0 by omega)
    have h1 := Int.emod_lt_of_pos x hn
    have h2 : (n.natAbs : Int) = n := by omega
    split <;> split <;> omega
  have hlo : -n ≤ x.tmod n ∧ x.tmod n < n := by
    have h0 := Int.emod_nonneg x (show n ≠ 0 by omega)
    have h1 := Int.emod_lt_of_pos x hn
    split at hm <;> omega
  refine AW.condB rfl (fun ht => ?_) (fun ht => ?_)
  · have ht := of_decide_eq_true ht
    rw [if_pos ht] at hm
    repeat (first
      | refine AW.regS fun K hK => ?_
      | refine AW.dregS fun K hK => ?_
      | refine AW.regN fun K hK => ?_
      | refine AW.dregN fun K hK => ?_
      | simp only [T.mv, AO.ev, put, lk, enter, reduceIte, Nat.reduceEqDiff, Nat.reduceAdd, Nat.reduceMul, Nat.reduceSub, ren_c, ren_tup, ren_agg, ren_sl, List.map, Int.reduceNeg, Int.toNat_zero, Nat.zero_add, Nat.add_zero, List.length_cons, List.length_nil, List.nil_append, List.cons_append, List.set_cons_zero, List.set_cons_succ, Int.reduceToNat, List.take_zero, upto, ren_psl, ren_ptr, List.getElem?_cons_zero, List.getElem?_cons_succ, renB, cells_ren, decide_eq_true_eq, Bool.false_eq_true, true_iff, iff_true, false_iff, iff_false]
      | refine T.nil ?_
      | (first | refine hK _ _ _ (by rfl) ?_ | refine hK _ _ _ ?_); simp only [keep, List.map, lk, reduceIte, Nat.reduceEqDiff, enter]; clear hK; clear K
      | refine T.add rfl rfl (by omega) (by omega) ?_
      | refine T.sub rfl rfl (by omega) (by omega) ?_
      | refine T.bin rfl rfl rfl ?_
      | refine T.rem rfl rfl (by omega) ?_
      | refine T.quo rfl rfl (by omega) ?_
      | refine T.shl rfl rfl (by omega) ?_
      | refine T.shr rfl rfl (by omega) ?_
      | refine T.min2 rfl rfl rfl ?_
      | refine T.max2 rfl rfl rfl ?_
      | refine T.ext rfl rfl ?_
      | refine T.lenc ?_
      | refine T.notD rfl ?_
      | refine T.not rfl ?_
      | refine T.eqb0 rfl rfl ?_
      | refine T.eqb1 rfl rfl ?_
      | refine T.cvt rfl ?_
      | refine T.ld rfl rfl rfl rfl rfl ?_
      | refine T.ldd rfl rfl ?_
      | refine T.ldn rfl rfl rfl rfl (Nat.le_of_ble_eq_true rfl) ?_
      | refine T.lddn rfl (Nat.le_of_ble_eq_true rfl) ?_
      | refine T.fad rfl rfl rfl ?_
      | refine T.fadd rfl ?_
      | refine T.nilc rfl rfl rfl ?_
      | refine T.nilcd rfl ?_
      | refine T.st rfl rfl rfl ⟨rfl, rfl⟩ rfl (Nat.le_of_ble_eq_true rfl) ?_
      | refine T.fld rfl rfl ?_
      | refine T.new rfl ⟨rfl, by decide⟩ ?_
      | refine T.zero (by decide) ?_
      | refine T.build rfl ?_
      | refine T.len rfl rfl rfl ?_
      | refine T.lenS rfl ?_
      | refine T.lenN rfl ?_
      | refine T.mkf ?_
      | refine T.mki ?_
      | refine T.mksl rfl rfl (by decide) ?_
      | refine T.copy rfl rfl rfl ⟨rfl, rfl⟩ ?_
      | refine T.idx rfl rfl rfl ⟨rfl, rfl⟩ (by omega) ?_
      | refine T.idxa rfl rfl rfl rfl (by omega) ?_
      | refine T.idxd rfl rfl (by omega) ?_
      | refine T.bsl rfl (by decide) ?_
      | refine T.slc rfl rfl rfl rfl ⟨rfl, rfl⟩ (by omega) ?_
      | refine T.go rfl rfl ?_
      | refine T.pass rfl rfl ?_
      | refine T.pickB rfl rfl rfl ?_
      | refine AW.retI ?_)
    refine hN _ _ ?_
    repeat (first
      | refine AW.regS fun K hK => ?_
      | refine AW.dregS fun K hK => ?_
      | refine AW.regN fun K hK => ?_
      | refine AW.dregN fun K hK => ?_
      | simp only [T.mv, AO.ev, put, lk, enter, reduceIte, Nat.reduceEqDiff, Nat.reduceAdd, Nat.reduceMul, Nat.reduceSub, ren_c, ren_tup, ren_agg, ren_sl, List.map, Int.reduceNeg, Int.toNat_zero, Nat.zero_add, Nat.add_zero, List.length_cons, List.length_nil, List.nil_append, List.cons_append, List.set_cons_zero, List.set_cons_succ, Int.reduceToNat, List.take_zero, upto, ren_psl, ren_ptr, List.getElem?_cons_zero, List.getElem?_cons_succ, renB, cells_ren, decide_eq_true_eq, Bool.false_eq_true, true_iff, iff_true, false_iff, iff_false]
      | refine T.nil ?_
      | (first | refine hK _ _ _ (by rfl) ?_ | refine hK _ _ _ ?_); simp only [keep, List.map, lk, reduceIte, Nat.reduceEqDiff, enter]; clear hK; clear K
      | refine T.add rfl rfl (by omega) (by omega) ?_
      | refine T.sub rfl rfl (by omega) (by omega) ?_
      | refine T.bin rfl rfl rfl ?_
      | refine T.rem rfl rfl (by omega) ?_
      | refine T.quo rfl rfl (by omega) ?_
      | refine T.shl rfl rfl (by omega) ?_
      | refine T.shr rfl rfl (by omega) ?_
      | refine T.min2 rfl rfl rfl ?_
      | refine T.max2 rfl rfl rfl ?_
      | refine T.ext rfl rfl ?_
      | refine T.lenc ?_
      | refine T.notD rfl ?_
      | refine T.not rfl ?_
      | refine T.eqb0 rfl rfl ?_
      | refine T.eqb1 rfl rfl ?_
      | refine T.cvt rfl ?_
      | refine T.ld rfl rfl rfl rfl rfl ?_
      | refine T.ldd rfl rfl ?_
      | refine T.ldn rfl rfl rfl rfl (Nat.le_of_ble_eq_true rfl) ?_
      | refine T.lddn rfl (Nat.le_of_ble_eq_true rfl) ?_
      | refine T.fad rfl rfl rfl ?_
      | refine T.fadd rfl ?_
      | refine T.nilc rfl rfl rfl ?_
      | refine T.nilcd rfl ?_
      | refine T.st rfl rfl rfl ⟨rfl, rfl⟩ rfl (Nat.le_of_ble_eq_true rfl) ?_
      | refine T.fld rfl rfl ?_
      | refine T.new rfl ⟨rfl, by decide⟩ ?_
      | refine T.zero (by decide) ?_
      | refine T.build rfl ?_
      | refine T.len rfl rfl rfl ?_
      | refine T.lenS rfl ?_
      | refine T.lenN rfl ?_
      | refine T.mkf ?_
      | refine T.mki ?_
      | refine T.mksl rfl rfl (by decide) ?_
      | refine T.copy rfl rfl rfl ⟨rfl, rfl⟩ ?_
      | refine T.idx rfl rfl rfl ⟨rfl, rfl⟩ (by omega) ?_
      | refine T.idxa rfl rfl rfl rfl (by omega) ?_
      | refine T.idxd rfl rfl (by omega) ?_
      | refine T.bsl rfl (by decide) ?_
      | refine T.slc rfl rfl rfl rfl ⟨rfl, rfl⟩ (by omega) ?_
      | refine T.go rfl rfl ?_
      | refine T.pass rfl rfl ?_
      | refine T.pickB rfl rfl rfl ?_
      | refine AW.retI ?_)
    exact hQ _ _ _ rfl (WeakV.cE rfl (by rw [hm]))
  · have ht := of_decide_eq_false ht
    rw [if_neg ht] at hm
    refine AW.skipI (hN _ _ ?_)
    repeat (first
      | refine AW.regS fun K hK => ?_
      | refine AW.dregS fun K hK => ?_
      | refine AW.regN fun K hK => ?_
      | refine AW.dregN fun K hK => ?_
      | simp only [T.mv, AO.ev, put, lk, enter, reduceIte, Nat.reduceEqDiff, Nat.reduceAdd, Nat.reduceMul, Nat.reduceSub, ren_c, ren_tup, ren_agg, ren_sl, List.map, Int.reduceNeg, Int.toNat_zero, Nat.zero_add, Nat.add_zero, List.length_cons, List.length_nil, List.nil_append, List.cons_append, List.set_cons_zero, List.set_cons_succ, Int.reduceToNat, List.take_zero, upto, ren_psl, ren_ptr, List.getElem?_cons_zero, List.getElem?_cons_succ, renB, cells_ren, decide_eq_true_eq, Bool.false_eq_true, true_iff, iff_true, false_iff, iff_false]
      | refine T.nil ?_
      | (first | refine hK _ _ _ (by rfl) ?_ | refine hK _ _ _ ?_); simp only [keep, List.map, lk, reduceIte, Nat.reduceEqDiff, enter]; clear hK; clear K
      | refine T.add rfl rfl (by omega) (by omega) ?_
      | refine T.sub rfl rfl (by omega) (by omega) ?_
      | refine T.bin rfl rfl rfl ?_
      | refine T.rem rfl rfl (by omega) ?_
      | refine T.quo rfl rfl (by omega) ?_
      | refine T.shl rfl rfl (by omega) ?_
      | refine T.shr rfl rfl (by omega) ?_
      | refine T.min2 rfl rfl rfl ?_
      | refine T.max2 rfl rfl rfl ?_
      | refine T.ext rfl rfl ?_
      | refine T.lenc ?_
      | refine T.notD rfl ?_
      | refine T.not rfl ?_
      | refine T.eqb0 rfl rfl ?_
      | refine T.eqb1 rfl rfl ?_
      | refine T.cvt rfl ?_
      | refine T.ld rfl rfl rfl rfl rfl ?_
      | refine T.ldd rfl rfl ?_
      | refine T.ldn rfl rfl rfl rfl (Nat.le_of_ble_eq_true rfl) ?_
      | refine T.lddn rfl (Nat.le_of_ble_eq_true rfl) ?_
      | refine T.fad rfl rfl rfl ?_
      | refine T.fadd rfl ?_
      | refine T.nilc rfl rfl rfl ?_
      | refine T.nilcd rfl ?_
      | refine T.st rfl rfl rfl ⟨rfl, rfl⟩ rfl (Nat.le_of_ble_eq_true rfl) ?_
      | refine T.fld rfl rfl ?_
      | refine T.new rfl ⟨rfl, by decide⟩ ?_
      | refine T.zero (by decide) ?_
      | refine T.build rfl ?_
      | refine T.len rfl rfl rfl ?_
      | refine T.lenS rfl ?_
      | refine T.lenN rfl ?_
      | refine T.mkf ?_
      | refine T.mki ?_
      | refine T.mksl rfl rfl (by decide) ?_
      | refine T.copy rfl rfl rfl ⟨rfl, rfl⟩ ?_
      | refine T.idx rfl rfl rfl ⟨rfl, rfl⟩ (by omega) ?_
      | refine T.idxa rfl rfl rfl rfl (by omega) ?_
      | refine T.idxd rfl rfl (by omega) ?_
      | refine T.bsl rfl (by decide) ?_
      | refine T.slc rfl rfl rfl rfl ⟨rfl, rfl⟩ (by omega) ?_
      | refine T.go rfl rfl ?_
      | refine T.pass rfl rfl ?_
      | refine T.pickB rfl rfl rfl ?_
      | refine AW.retI ?_)
    exact hQ _ _ _ rfl (WeakV.cE rfl (by rw [hm]))
theorem bits_ok : FnE Try.prog 17 [] [] (.c (.bool true)) [] := by
  refine fnI Try.func17 k17 (Nat.le_of_ble_eq_true rfl) q17 fun Q hQ => ?_
  rw [c17]
  have hA := add_ok 200 100 0 8
  have e1 : ((200 : Int) % 2 ^ wd 8 + 100 % 2 ^ wd 8 + 0 % 2) % 2 ^ wd 8 = 44 := by decide
  have e2 : ((200 : Int) % 2 ^ wd 8 + 100 % 2 ^ wd 8 + 0 % 2) / 2 ^ wd 8 = 1 := by decide
  rw [e1, e2] at hA
  repeat (first
    | refine T.call0 e20 rfl hA ?_
    | refine AW.regS fun K hK => ?_
    | refine AW.dregS fun K hK => ?_
    | refine AW.regN fun K hK => ?_
    | refine AW.dregN fun K hK => ?_
    | simp only [T.mv, AO.ev, put, lk, enter, reduceIte, Nat.reduceEqDiff, Nat.reduceAdd, Nat.reduceMul, Nat.reduceSub, ren_c, ren_tup, ren_agg, ren_sl, List.map, Int.reduceNeg, Int.toNat_zero, Nat.zero_add, Nat.add_zero, List.length_cons, List.length_nil, List.nil_append, List.cons_append, List.set_cons_zero, List.set_cons_succ, Int.reduceToNat, List.take_zero, upto, ren_psl, ren_ptr, List.getElem?_cons_zero, List.getElem?_cons_succ, renB, cells_ren, decide_eq_true_eq, Bool.false_eq_true, true_iff, iff_true, false_iff, iff_false]
    | refine T.nil ?_
    | (first | refine hK _ _ _ (by rfl) ?_ | refine hK _ _ _ ?_); simp only [keep, List.map, lk, reduceIte, Nat.reduceEqDiff, enter]; clear hK; clear K
    | refine T.add rfl rfl (by omega) (by omega) ?_
    | refine T.sub rfl rfl (by omega) (by omega) ?_
    | refine T.bin rfl rfl rfl ?_
    | refine T.rem rfl rfl (by omega) ?_
    | refine T.quo rfl rfl (by omega) ?_
    | refine T.shl rfl rfl (by omega) ?_
    | refine T.shr rfl rfl (by omega) ?_
    | refine T.min2 rfl rfl rfl ?_
    | refine T.max2 rfl rfl rfl ?_
    | refine T.ext rfl rfl ?_
    | refine T.lenc ?_
    | refine T.notD rfl ?_
    | refine T.not rfl ?_
    | refine T.eqb0 rfl rfl ?_
    | refine T.eqb1 rfl rfl ?_
    | refine T.cvt rfl ?_
    | refine T.ld rfl rfl rfl rfl rfl ?_
    | refine T.ldd rfl rfl ?_
    | refine T.ldn rfl rfl rfl rfl (Nat.le_of_ble_eq_true rfl) ?_
    | refine T.lddn rfl (Nat.le_of_ble_eq_true rfl) ?_
    | refine T.fad rfl rfl rfl ?_
    | refine T.fadd rfl ?_
    | refine T.nilc rfl rfl rfl ?_
    | refine T.nilcd rfl ?_
    | refine T.st rfl rfl rfl ⟨rfl, rfl⟩ rfl (Nat.le_of_ble_eq_true rfl) ?_
    | refine T.fld rfl rfl ?_
    | refine T.new rfl ⟨rfl, by decide⟩ ?_
    | refine T.zero (by decide) ?_
    | refine T.build rfl ?_
    | refine T.len rfl rfl rfl ?_
    | refine T.lenS rfl ?_
    | refine T.lenN rfl ?_
    | refine T.mkf ?_
    | refine T.mki ?_
    | refine T.mksl rfl rfl (by decide) ?_
    | refine T.copy rfl rfl rfl ⟨rfl, rfl⟩ ?_
    | refine T.idx rfl rfl rfl ⟨rfl, rfl⟩ (by omega) ?_
    | refine T.idxa rfl rfl rfl rfl (by omega) ?_
    | refine T.idxd rfl rfl (by omega) ?_
    | refine T.bsl rfl (by decide) ?_
    | refine T.slc rfl rfl rfl rfl ⟨rfl, rfl⟩ (by omega) ?_
    | refine T.go rfl rfl ?_
    | refine T.pass rfl rfl ?_
    | refine T.pickB rfl rfl rfl ?_
    | refine AW.retI ?_)
  exact hQ _ _ _ rfl (WeakV.cE rfl rfl)
end Go.Proofs.Ytcgjmkbajjngaaa.Calc
