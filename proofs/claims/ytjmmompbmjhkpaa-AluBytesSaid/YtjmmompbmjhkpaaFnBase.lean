/- The contracts of bit's width and Low and of bakemake's Below, and plain lemmas on bits. Condition: limits are below 2^62. -/
import Derived.Test.YtjmmompbmjhkpaaCdBit
import Derived.Test.YtjmmompbmjhkpaaCdBakemake
import Derived.Test.YtjmmompbmjhkpaaCalcS
import Derived.Test.YtjmmompbmjhkpaaBitsA
namespace Go.Proofs.Ytjmmompbmjhkpaa.Calc
open Go Code
set_option linter.unusedSimpArgs false
set_option linter.unusedVariables false
set_option maxRecDepth 20000
attribute [local irreducible] WOpsT AW AK RK AKW UK UC
/-- A width. -/
def wd (w : Int) : Nat := (max 0 (min w 62)).toNat
theorem wd_le (w : Int) : wd w ≤ 62 := by unfold wd; omega
theorem wd_cast (w : Int) : max 0 (min w 62) = (wd w : Int) := by unfold wd; omega
theorem wd_wd (w : Int) : wd (wd w : Int) = wd w := by unfold wd; omega
theorem pow_le (w : Nat) (hw : w ≤ 62) : (2 : Int) ^ w ≤ 4611686018427387904 := by
  have : (2 : Int) ^ w ≤ 2 ^ 62 := by
    have := Nat.pow_le_pow_right (n := 2) (by decide) hw
    exact_mod_cast this
  exact Int.le_trans this (by decide)
theorem pow_pos' (w : Nat) : (1 : Int) ≤ 2 ^ w := by
  have := Nat.pow_pos (n := w) (a := 2) (by decide)
  exact_mod_cast this
theorem mod_lo (v : Int) (w : Nat) : 0 ≤ v % 2 ^ w ∧ v % 2 ^ w < 2 ^ w := ⟨Int.emod_nonneg _ (by have := pow_pos' w; omega), Int.emod_lt_of_pos _ (by have := pow_pos' w; omega)⟩
theorem min64 (w : Nat) (hw : w ≤ 62) : min ((w : Int)).toNat IntKind.i64.bits = w := by
  have : IntKind.i64.bits = 64 := rfl
  omega

theorem width_ok (w : Int) : FnE Try.prog 92 [I w] [] (I (wd w)) [] := by
  refine fnI Try.func92 k92 (Nat.le_of_ble_eq_true rfl) q92 fun Q hQ => ?_
  rw [c92]
  repeat (first
    | refine AW.regS fun K hK => ?_
    | refine AW.dregS fun K hK => ?_
    | refine AW.regN fun K hK => ?_
    | refine AW.dregN fun K hK => ?_
    | simp only [T.mv, AO.ev, put, lk, enter, reduceIte, Nat.reduceEqDiff, Nat.reduceAdd, Nat.reduceMul, Nat.reduceSub, ren_c, ren_tup, ren_agg, ren_sl, List.map, Int.reduceNeg, Int.toNat_zero, Nat.zero_add, Nat.add_zero, List.length_cons, List.length_nil, List.nil_append, List.cons_append, List.set_cons_zero, List.set_cons_succ, Int.reduceToNat, List.take_zero, upto, ren_psl, ren_ptr, List.getElem?_cons_zero, List.getElem?_cons_succ, renB, cells_ren, bcells_ren, setAll, List.append_nil, List.take_succ_cons, List.drop_succ_cons, List.drop_zero, List.take_nil, List.drop_nil, List.map_cons, List.map_nil, decide_eq_true_eq, Bool.false_eq_true, true_iff, iff_true, false_iff, iff_false]
    | refine T.nil ?_
    | (first | refine hK _ _ _ (by rfl) ?_ | refine hK _ _ _ ?_); simp only [keep, List.map, lk, reduceIte, Nat.reduceEqDiff, enter]; clear hK; clear K
    | refine T.add rfl rfl (by omega) (by omega) ?_
    | refine T.sub rfl rfl (by omega) (by omega) ?_
    | refine T.bin rfl rfl rfl ?_
    | refine T.rem rfl rfl (by omega) ?_
    | refine T.quo rfl rfl (by omega) ?_
    | refine T.shl rfl rfl (by omega) ?_
    | refine T.shr rfl rfl (by omega) ?_
    | refine T.min2 rfl rfl rfl ?_
    | refine T.max2 rfl rfl rfl ?_
    | refine T.ext rfl rfl ?_
    | refine T.lenc ?_
    | refine T.eqnP rfl rfl ⟨rfl, by decide⟩ ?_
    | refine T.eqnN rfl ?_
    | refine T.neg rfl ?_
    | refine T.xorn rfl ?_
    | refine T.notD rfl ?_
    | refine T.not rfl ?_
    | refine T.eqb0 rfl rfl ?_
    | refine T.eqb1 rfl rfl ?_
    | refine T.cvt rfl ?_
    | refine T.ld rfl rfl rfl rfl rfl ?_
    | refine T.ldd rfl rfl ?_
    | refine T.ldn rfl rfl rfl rfl (Nat.le_of_ble_eq_true rfl) ?_
    | refine T.lddn rfl (Nat.le_of_ble_eq_true rfl) ?_
    | refine T.fad rfl rfl rfl ?_
    | refine T.fadd rfl ?_
    | refine T.nilc rfl rfl rfl ?_
    | refine T.nilcd rfl ?_
    | refine T.st rfl rfl rfl ⟨rfl, rfl⟩ rfl (Nat.le_of_ble_eq_true rfl) ?_
    | refine T.fld rfl rfl ?_
    | refine T.new rfl ⟨rfl, by decide⟩ ?_
    | refine T.zero (by decide) ?_
    | refine T.build rfl ?_
    | refine T.len rfl rfl rfl ?_
    | refine T.lenS rfl ?_
    | refine T.lenN rfl ?_
    | refine T.mkf ?_
    | refine T.mki ?_
    | refine T.mksl rfl rfl (by decide) ?_
    | refine T.copy rfl rfl rfl ⟨rfl, rfl⟩ ?_
    | refine T.idx rfl rfl rfl ⟨rfl, rfl⟩ (by omega) ?_
    | refine T.idxa rfl rfl rfl rfl (by omega) ?_
    | refine T.idxd rfl rfl (by omega) ?_
    | refine T.bsl rfl (by decide) ?_
    | refine T.slc rfl rfl rfl rfl ⟨rfl, rfl⟩ (by omega) ?_
    | refine T.go rfl rfl ?_
    | refine T.pass rfl rfl ?_
    | refine T.pickB rfl rfl rfl ?_
    | refine AW.retI ?_)
  exact hQ _ _ _ rfl (WeakV.cE rfl (by rw [wd_cast]))

theorem low_ok (v w : Int) : FnE Try.prog 35 [I v, I w] [] (I (v % 2 ^ wd w)) [] := by
  refine fnI Try.func35 k35 (Nat.le_of_ble_eq_true rfl) q35 fun Q hQ => ?_
  rw [c35]
  have h1 := pow_le (wd w) (wd_le w)
  have h2 := pow_pos' (wd w)
  have h3 := wd_le w
  repeat (first
    | refine T.call0 e92 rfl (width_ok _) ?_
    | refine AW.regS fun K hK => ?_
    | refine AW.dregS fun K hK => ?_
    | refine AW.regN fun K hK => ?_
    | refine AW.dregN fun K hK => ?_
    | simp only [T.mv, AO.ev, put, lk, enter, reduceIte, Nat.reduceEqDiff, Nat.reduceAdd, Nat.reduceMul, Nat.reduceSub, ren_c, ren_tup, ren_agg, ren_sl, List.map, Int.reduceNeg, Int.toNat_zero, Nat.zero_add, Nat.add_zero, List.length_cons, List.length_nil, List.nil_append, List.cons_append, List.set_cons_zero, List.set_cons_succ, Int.reduceToNat, List.take_zero, upto, ren_psl, ren_ptr, List.getElem?_cons_zero, List.getElem?_cons_succ, renB, cells_ren, bcells_ren, setAll, List.append_nil, List.take_succ_cons, List.drop_succ_cons, List.drop_zero, List.take_nil, List.drop_nil, List.map_cons, List.map_nil, decide_eq_true_eq, Bool.false_eq_true, true_iff, iff_true, false_iff, iff_false]
    | refine T.nil ?_
    | (first | refine hK _ _ _ (by rfl) ?_ | refine hK _ _ _ ?_); simp only [keep, List.map, lk, reduceIte, Nat.reduceEqDiff, enter]; clear hK; clear K
    | refine T.add rfl rfl (by omega) (by omega) ?_
    | refine T.sub rfl rfl (by omega) (by omega) ?_
    | refine T.bin rfl rfl rfl ?_
    | refine T.rem rfl rfl (by omega) ?_
    | refine T.quo rfl rfl (by omega) ?_
    | refine T.shl rfl rfl (by omega) ?_
    | refine T.shr rfl rfl (by omega) ?_
    | refine T.min2 rfl rfl rfl ?_
    | refine T.max2 rfl rfl rfl ?_
    | refine T.ext rfl rfl ?_
    | refine T.lenc ?_
    | refine T.eqnP rfl rfl ⟨rfl, by decide⟩ ?_
    | refine T.eqnN rfl ?_
    | refine T.neg rfl ?_
    | refine T.xorn rfl ?_
    | refine T.notD rfl ?_
    | refine T.not rfl ?_
    | refine T.eqb0 rfl rfl ?_
    | refine T.eqb1 rfl rfl ?_
    | refine T.cvt rfl ?_
    | refine T.ld rfl rfl rfl rfl rfl ?_
    | refine T.ldd rfl rfl ?_
    | refine T.ldn rfl rfl rfl rfl (Nat.le_of_ble_eq_true rfl) ?_
    | refine T.lddn rfl (Nat.le_of_ble_eq_true rfl) ?_
    | refine T.fad rfl rfl rfl ?_
    | refine T.fadd rfl ?_
    | refine T.nilc rfl rfl rfl ?_
    | refine T.nilcd rfl ?_
    | refine T.st rfl rfl rfl ⟨rfl, rfl⟩ rfl (Nat.le_of_ble_eq_true rfl) ?_
    | refine T.fld rfl rfl ?_
    | refine T.new rfl ⟨rfl, by decide⟩ ?_
    | refine T.zero (by decide) ?_
    | refine T.build rfl ?_
    | refine T.len rfl rfl rfl ?_
    | refine T.lenS rfl ?_
    | refine T.lenN rfl ?_
    | refine T.mkf ?_
    | refine T.mki ?_
    | refine T.mksl rfl rfl (by decide) ?_
    | refine T.copy rfl rfl rfl ⟨rfl, rfl⟩ ?_
    | refine T.idx rfl rfl rfl ⟨rfl, rfl⟩ (by omega) ?_
    | refine T.idxa rfl rfl rfl rfl (by omega) ?_
    | refine T.idxd rfl rfl (by omega) ?_
    | refine T.bsl rfl (by decide) ?_
    | refine T.slc rfl rfl rfl rfl ⟨rfl, rfl⟩ (by omega) ?_
    | refine T.go rfl rfl ?_
    | refine T.pass rfl rfl ?_
    | refine T.pickB rfl rfl rfl ?_
    | refine AW.retI ?_)
  refine hQ _ _ _ rfl (WeakV.cE rfl ?_)
  rw [min64 _ h3, Int.one_mul, wrap64 (n := 2 ^ wd w) (by omega) (by omega), wrap64 (by omega) (by omega), BA.low_eq _ _ h3]

theorem bits1 (n : Int) : bits .and .i64 n 1 = n % 2 := by
  have := BA.low_eq n 1 (by decide)
  simpa using this

theorem lowN_ok (v : Int) (n : Nat) (hn : n ≤ 62) : FnE Try.prog 35 [I v, I n] [] (I (v % 2 ^ n)) [] := by
  have := low_ok v n
  rwa [show wd (n : Int) = n by unfold wd; omega] at this
theorem below_ok (x n : Int) (hn : 0 < n) (hn2 : n < 4611686018427387904) : FnE Try.prog 29 [I x, I n] [] (I (x % n)) [] := by
  refine fnI Try.func29 k29 (Nat.le_of_ble_eq_true rfl) q29 fun Q hQ => ?_
  rw [c29]
  repeat (first
    | refine AW.regS fun K hK => ?_
    | refine AW.dregS fun K hK => ?_
    | refine AW.regN fun K hK => ?_
    | refine AW.dregN fun K hK => ?_
    | simp only [T.mv, AO.ev, put, lk, enter, reduceIte, Nat.reduceEqDiff, Nat.reduceAdd, Nat.reduceMul, Nat.reduceSub, ren_c, ren_tup, ren_agg, ren_sl, List.map, Int.reduceNeg, Int.toNat_zero, Nat.zero_add, Nat.add_zero, List.length_cons, List.length_nil, List.nil_append, List.cons_append, List.set_cons_zero, List.set_cons_succ, Int.reduceToNat, List.take_zero, upto, ren_psl, ren_ptr, List.getElem?_cons_zero, List.getElem?_cons_succ, renB, cells_ren, bcells_ren, setAll, List.append_nil, List.take_succ_cons, List.drop_succ_cons, List.drop_zero, List.take_nil, List.drop_nil, List.map_cons, List.map_nil, decide_eq_true_eq, Bool.false_eq_true, true_iff, iff_true, false_iff, iff_false]
    | refine T.nil ?_
    | (first | refine hK _ _ _ (by rfl) ?_ | refine hK _ _ _ ?_); simp only [keep, List.map, lk, reduceIte, Nat.reduceEqDiff, enter]; clear hK; clear K
    | refine T.add rfl rfl (by omega) (by omega) ?_
    | refine T.sub rfl rfl (by omega) (by omega) ?_
    | refine T.bin rfl rfl rfl ?_
    | refine T.rem rfl rfl (by omega) ?_
    | refine T.quo rfl rfl (by omega) ?_
    | refine T.shl rfl rfl (by omega) ?_
    | refine T.shr rfl rfl (by omega) ?_
    | refine T.min2 rfl rfl rfl ?_
    | refine T.max2 rfl rfl rfl ?_
    | refine T.ext rfl rfl ?_
    | refine T.lenc ?_
    | refine T.eqnP rfl rfl ⟨rfl, by decide⟩ ?_
    | refine T.eqnN rfl ?_
    | refine T.neg rfl ?_
    | refine T.xorn rfl ?_
    | refine T.notD rfl ?_
    | refine T.not rfl ?_
    | refine T.eqb0 rfl rfl ?_
    | refine T.eqb1 rfl rfl ?_
    | refine T.cvt rfl ?_
    | refine T.ld rfl rfl rfl rfl rfl ?_
    | refine T.ldd rfl rfl ?_
    | refine T.ldn rfl rfl rfl rfl (Nat.le_of_ble_eq_true rfl) ?_
    | refine T.lddn rfl (Nat.le_of_ble_eq_true rfl) ?_
    | refine T.fad rfl rfl rfl ?_
    | refine T.fadd rfl ?_
    | refine T.nilc rfl rfl rfl ?_
    | refine T.nilcd rfl ?_
    | refine T.st rfl rfl rfl ⟨rfl, rfl⟩ rfl (Nat.le_of_ble_eq_true rfl) ?_
    | refine T.fld rfl rfl ?_
    | refine T.new rfl ⟨rfl, by decide⟩ ?_
    | refine T.zero (by decide) ?_
    | refine T.build rfl ?_
    | refine T.len rfl rfl rfl ?_
    | refine T.lenS rfl ?_
    | refine T.lenN rfl ?_
    | refine T.mkf ?_
    | refine T.mki ?_
    | refine T.mksl rfl rfl (by decide) ?_
    | refine T.copy rfl rfl rfl ⟨rfl, rfl⟩ ?_
    | refine T.idx rfl rfl rfl ⟨rfl, rfl⟩ (by omega) ?_
    | refine T.idxa rfl rfl rfl rfl (by omega) ?_
    | refine T.idxd rfl rfl (by omega) ?_
    | refine T.bsl rfl (by decide) ?_
    | refine T.slc rfl rfl rfl rfl ⟨rfl, rfl⟩ (by omega) ?_
    | refine T.go rfl rfl ?_
    | refine T.pass rfl rfl ?_
    | refine T.pickB rfl rfl rfl ?_
    | refine AW.retI ?_)
  refine AW.seqI fun Q1 hN hX hR => ?_
  repeat (first
    | refine AW.regS fun K hK => ?_
    | refine AW.dregS fun K hK => ?_
    | refine AW.regN fun K hK => ?_
    | refine AW.dregN fun K hK => ?_
    | simp only [T.mv, AO.ev, put, lk, enter, reduceIte, Nat.reduceEqDiff, Nat.reduceAdd, Nat.reduceMul, Nat.reduceSub, ren_c, ren_tup, ren_agg, ren_sl, List.map, Int.reduceNeg, Int.toNat_zero, Nat.zero_add, Nat.add_zero, List.length_cons, List.length_nil, List.nil_append, List.cons_append, List.set_cons_zero, List.set_cons_succ, Int.reduceToNat, List.take_zero, upto, ren_psl, ren_ptr, List.getElem?_cons_zero, List.getElem?_cons_succ, renB, cells_ren, bcells_ren, setAll, List.append_nil, List.take_succ_cons, List.drop_succ_cons, List.drop_zero, List.take_nil, List.drop_nil, List.map_cons, List.map_nil, decide_eq_true_eq, Bool.false_eq_true, true_iff, iff_true, false_iff, iff_false]
    | refine T.nil ?_
    | (first | refine hK _ _ _ (by rfl) ?_ | refine hK _ _ _ ?_); simp only [keep, List.map, lk, reduceIte, Nat.reduceEqDiff, enter]; clear hK; clear K
    | refine T.add rfl rfl (by omega) (by omega) ?_
    | refine T.sub rfl rfl (by omega) (by omega) ?_
    | refine T.bin rfl rfl rfl ?_
    | refine T.rem rfl rfl (by omega) ?_
    | refine T.quo rfl rfl (by omega) ?_
    | refine T.shl rfl rfl (by omega) ?_
    | refine T.shr rfl rfl (by omega) ?_
    | refine T.min2 rfl rfl rfl ?_
    | refine T.max2 rfl rfl rfl ?_
    | refine T.ext rfl rfl ?_
    | refine T.lenc ?_
    | refine T.eqnP rfl rfl ⟨rfl, by decide⟩ ?_
    | refine T.eqnN rfl ?_
    | refine T.neg rfl ?_
    | refine T.xorn rfl ?_
    | refine T.notD rfl ?_
    | refine T.not rfl ?_
    | refine T.eqb0 rfl rfl ?_
    | refine T.eqb1 rfl rfl ?_
    | refine T.cvt rfl ?_
    | refine T.ld rfl rfl rfl rfl rfl ?_
    | refine T.ldd rfl rfl ?_
    | refine T.ldn rfl rfl rfl rfl (Nat.le_of_ble_eq_true rfl) ?_
    | refine T.lddn rfl (Nat.le_of_ble_eq_true rfl) ?_
    | refine T.fad rfl rfl rfl ?_
    | refine T.fadd rfl ?_
    | refine T.nilc rfl rfl rfl ?_
    | refine T.nilcd rfl ?_
    | refine T.st rfl rfl rfl ⟨rfl, rfl⟩ rfl (Nat.le_of_ble_eq_true rfl) ?_
    | refine T.fld rfl rfl ?_
    | refine T.new rfl ⟨rfl, by decide⟩ ?_
    | refine T.zero (by decide) ?_
    | refine T.build rfl ?_
    | refine T.len rfl rfl rfl ?_
    | refine T.lenS rfl ?_
    | refine T.lenN rfl ?_
    | refine T.mkf ?_
    | refine T.mki ?_
    | refine T.mksl rfl rfl (by decide) ?_
    | refine T.copy rfl rfl rfl ⟨rfl, rfl⟩ ?_
    | refine T.idx rfl rfl rfl ⟨rfl, rfl⟩ (by omega) ?_
    | refine T.idxa rfl rfl rfl rfl (by omega) ?_
    | refine T.idxd rfl rfl (by omega) ?_
    | refine T.bsl rfl (by decide) ?_
    | refine T.slc rfl rfl rfl rfl ⟨rfl, rfl⟩ (by omega) ?_
    | refine T.go rfl rfl ?_
    | refine T.pass rfl rfl ?_
    | refine T.pickB rfl rfl rfl ?_
    | refine AW.retI ?_)
  have hm : x % n = if x.tmod n < 0 then x.tmod n + n else x.tmod n := by
    rw [Int.tmod_eq_emod]
    have h0 := Int.emod_nonneg x (show n ≠ 0 by omega)
    have h1 := Int.emod_lt_of_pos x hn
    have h2 : (n.natAbs : Int) = n := by omega
    split <;> split <;> omega
  have hlo : -n ≤ x.tmod n ∧ x.tmod n < n := by
    have h0 := Int.emod_nonneg x (show n ≠ 0 by omega)
    have h1 := Int.emod_lt_of_pos x hn
    split at hm <;> omega
  refine AW.condB rfl (fun ht => ?_) (fun ht => ?_)
  · have ht := of_decide_eq_true ht
    rw [if_pos ht] at hm
    repeat (first
      | refine AW.regS fun K hK => ?_
      | refine AW.dregS fun K hK => ?_
      | refine AW.regN fun K hK => ?_
      | refine AW.dregN fun K hK => ?_
      | simp only [T.mv, AO.ev, put, lk, enter, reduceIte, Nat.reduceEqDiff, Nat.reduceAdd, Nat.reduceMul, Nat.reduceSub, ren_c, ren_tup, ren_agg, ren_sl, List.map, Int.reduceNeg, Int.toNat_zero, Nat.zero_add, Nat.add_zero, List.length_cons, List.length_nil, List.nil_append, List.cons_append, List.set_cons_zero, List.set_cons_succ, Int.reduceToNat, List.take_zero, upto, ren_psl, ren_ptr, List.getElem?_cons_zero, List.getElem?_cons_succ, renB, cells_ren, bcells_ren, setAll, List.append_nil, List.take_succ_cons, List.drop_succ_cons, List.drop_zero, List.take_nil, List.drop_nil, List.map_cons, List.map_nil, decide_eq_true_eq, Bool.false_eq_true, true_iff, iff_true, false_iff, iff_false]
      | refine T.nil ?_
      | (first | refine hK _ _ _ (by rfl) ?_ | refine hK _ _ _ ?_); simp only [keep, List.map, lk, reduceIte, Nat.reduceEqDiff, enter]; clear hK; clear K
      | refine T.add rfl rfl (by omega) (by omega) ?_
      | refine T.sub rfl rfl (by omega) (by omega) ?_
      | refine T.bin rfl rfl rfl ?_
      | refine T.rem rfl rfl (by omega) ?_
      | refine T.quo rfl rfl (by omega) ?_
      | refine T.shl rfl rfl (by omega) ?_
      | refine T.shr rfl rfl (by omega) ?_
      | refine T.min2 rfl rfl rfl ?_
      | refine T.max2 rfl rfl rfl ?_
      | refine T.ext rfl rfl ?_
      | refine T.lenc ?_
      | refine T.eqnP rfl rfl ⟨rfl, by decide⟩ ?_
      | refine T.eqnN rfl ?_
      | refine T.neg rfl ?_
      | refine T.xorn rfl ?_
      | refine T.notD rfl ?_
      | refine T.not rfl ?_
      | refine T.eqb0 rfl rfl ?_
      | refine T.eqb1 rfl rfl ?_
      | refine T.cvt rfl ?_
      | refine T.ld rfl rfl rfl rfl rfl ?_
      | refine T.ldd rfl rfl ?_
      | refine T.ldn rfl rfl rfl rfl (Nat.le_of_ble_eq_true rfl) ?_
      | refine T.lddn rfl (Nat.le_of_ble_eq_true rfl) ?_
      | refine T.fad rfl rfl rfl ?_
      | refine T.fadd rfl ?_
      | refine T.nilc rfl rfl rfl ?_
      | refine T.nilcd rfl ?_
      | refine T.st rfl rfl rfl ⟨rfl, rfl⟩ rfl (Nat.le_of_ble_eq_true rfl) ?_
      | refine T.fld rfl rfl ?_
      | refine T.new rfl ⟨rfl, by decide⟩ ?_
      | refine T.zero (by decide) ?_
      | refine T.build rfl ?_
      | refine T.len rfl rfl rfl ?_
      | refine T.lenS rfl ?_
      | refine T.lenN rfl ?_
      | refine T.mkf ?_
      | refine T.mki ?_
      | refine T.mksl rfl rfl (by decide) ?_
      | refine T.copy rfl rfl rfl ⟨rfl, rfl⟩ ?_
      | refine T.idx rfl rfl rfl ⟨rfl, rfl⟩ (by omega) ?_
      | refine T.idxa rfl rfl rfl rfl (by omega) ?_
      | refine T.idxd rfl rfl (by omega) ?_
      | refine T.bsl rfl (by decide) ?_
      | refine T.slc rfl rfl rfl rfl ⟨rfl, rfl⟩ (by omega) ?_
      | refine T.go rfl rfl ?_
      | refine T.pass rfl rfl ?_
      | refine T.pickB rfl rfl rfl ?_
      | refine AW.retI ?_)
    refine hN _ _ ?_
    repeat (first
      | refine AW.regS fun K hK => ?_
      | refine AW.dregS fun K hK => ?_
      | refine AW.regN fun K hK => ?_
      | refine AW.dregN fun K hK => ?_
      | simp only [T.mv, AO.ev, put, lk, enter, reduceIte, Nat.reduceEqDiff, Nat.reduceAdd, Nat.reduceMul, Nat.reduceSub, ren_c, ren_tup, ren_agg, ren_sl, List.map, Int.reduceNeg, Int.toNat_zero, Nat.zero_add, Nat.add_zero, List.length_cons, List.length_nil, List.nil_append, List.cons_append, List.set_cons_zero, List.set_cons_succ, Int.reduceToNat, List.take_zero, upto, ren_psl, ren_ptr, List.getElem?_cons_zero, List.getElem?_cons_succ, renB, cells_ren, bcells_ren, setAll, List.append_nil, List.take_succ_cons, List.drop_succ_cons, List.drop_zero, List.take_nil, List.drop_nil, List.map_cons, List.map_nil, decide_eq_true_eq, Bool.false_eq_true, true_iff, iff_true, false_iff, iff_false]
      | refine T.nil ?_
      | (first | refine hK _ _ _ (by rfl) ?_ | refine hK _ _ _ ?_); simp only [keep, List.map, lk, reduceIte, Nat.reduceEqDiff, enter]; clear hK; clear K
      | refine T.add rfl rfl (by omega) (by omega) ?_
      | refine T.sub rfl rfl (by omega) (by omega) ?_
      | refine T.bin rfl rfl rfl ?_
      | refine T.rem rfl rfl (by omega) ?_
      | refine T.quo rfl rfl (by omega) ?_
      | refine T.shl rfl rfl (by omega) ?_
      | refine T.shr rfl rfl (by omega) ?_
      | refine T.min2 rfl rfl rfl ?_
      | refine T.max2 rfl rfl rfl ?_
      | refine T.ext rfl rfl ?_
      | refine T.lenc ?_
      | refine T.eqnP rfl rfl ⟨rfl, by decide⟩ ?_
      | refine T.eqnN rfl ?_
      | refine T.neg rfl ?_
      | refine T.xorn rfl ?_
      | refine T.notD rfl ?_
      | refine T.not rfl ?_
      | refine T.eqb0 rfl rfl ?_
      | refine T.eqb1 rfl rfl ?_
      | refine T.cvt rfl ?_
      | refine T.ld rfl rfl rfl rfl rfl ?_
      | refine T.ldd rfl rfl ?_
      | refine T.ldn rfl rfl rfl rfl (Nat.le_of_ble_eq_true rfl) ?_
      | refine T.lddn rfl (Nat.le_of_ble_eq_true rfl) ?_
      | refine T.fad rfl rfl rfl ?_
      | refine T.fadd rfl ?_
      | refine T.nilc rfl rfl rfl ?_
      | refine T.nilcd rfl ?_
      | refine T.st rfl rfl rfl ⟨rfl, rfl⟩ rfl (Nat.le_of_ble_eq_true rfl) ?_
      | refine T.fld rfl rfl ?_
      | refine T.new rfl ⟨rfl, by decide⟩ ?_
      | refine T.zero (by decide) ?_
      | refine T.build rfl ?_
      | refine T.len rfl rfl rfl ?_
      | refine T.lenS rfl ?_
      | refine T.lenN rfl ?_
      | refine T.mkf ?_
      | refine T.mki ?_
      | refine T.mksl rfl rfl (by decide) ?_
      | refine T.copy rfl rfl rfl ⟨rfl, rfl⟩ ?_
      | refine T.idx rfl rfl rfl ⟨rfl, rfl⟩ (by omega) ?_
      | refine T.idxa rfl rfl rfl rfl (by omega) ?_
      | refine T.idxd rfl rfl (by omega) ?_
      | refine T.bsl rfl (by decide) ?_
      | refine T.slc rfl rfl rfl rfl ⟨rfl, rfl⟩ (by omega) ?_
      | refine T.go rfl rfl ?_
      | refine T.pass rfl rfl ?_
      | refine T.pickB rfl rfl rfl ?_
      | refine AW.retI ?_)
    exact hQ _ _ _ rfl (WeakV.cE rfl (by rw [hm]))
  · have ht := of_decide_eq_false ht
    rw [if_neg ht] at hm
    refine AW.skipI (hN _ _ ?_)
    repeat (first
      | refine AW.regS fun K hK => ?_
      | refine AW.dregS fun K hK => ?_
      | refine AW.regN fun K hK => ?_
      | refine AW.dregN fun K hK => ?_
      | simp only [T.mv, AO.ev, put, lk, enter, reduceIte, Nat.reduceEqDiff, Nat.reduceAdd, Nat.reduceMul, Nat.reduceSub, ren_c, ren_tup, ren_agg, ren_sl, List.map, Int.reduceNeg, Int.toNat_zero, Nat.zero_add, Nat.add_zero, List.length_cons, List.length_nil, List.nil_append, List.cons_append, List.set_cons_zero, List.set_cons_succ, Int.reduceToNat, List.take_zero, upto, ren_psl, ren_ptr, List.getElem?_cons_zero, List.getElem?_cons_succ, renB, cells_ren, bcells_ren, setAll, List.append_nil, List.take_succ_cons, List.drop_succ_cons, List.drop_zero, List.take_nil, List.drop_nil, List.map_cons, List.map_nil, decide_eq_true_eq, Bool.false_eq_true, true_iff, iff_true, false_iff, iff_false]
      | refine T.nil ?_
      | (first | refine hK _ _ _ (by rfl) ?_ | refine hK _ _ _ ?_); simp only [keep, List.map, lk, reduceIte, Nat.reduceEqDiff, enter]; clear hK; clear K
      | refine T.add rfl rfl (by omega) (by omega) ?_
      | refine T.sub rfl rfl (by omega) (by omega) ?_
      | refine T.bin rfl rfl rfl ?_
      | refine T.rem rfl rfl (by omega) ?_
      | refine T.quo rfl rfl (by omega) ?_
      | refine T.shl rfl rfl (by omega) ?_
      | refine T.shr rfl rfl (by omega) ?_
      | refine T.min2 rfl rfl rfl ?_
      | refine T.max2 rfl rfl rfl ?_
      | refine T.ext rfl rfl ?_
      | refine T.lenc ?_
      | refine T.eqnP rfl rfl ⟨rfl, by decide⟩ ?_
      | refine T.eqnN rfl ?_
      | refine T.neg rfl ?_
      | refine T.xorn rfl ?_
      | refine T.notD rfl ?_
      | refine T.not rfl ?_
      | refine T.eqb0 rfl rfl ?_
      | refine T.eqb1 rfl rfl ?_
      | refine T.cvt rfl ?_
      | refine T.ld rfl rfl rfl rfl rfl ?_
      | refine T.ldd rfl rfl ?_
      | refine T.ldn rfl rfl rfl rfl (Nat.le_of_ble_eq_true rfl) ?_
      | refine T.lddn rfl (Nat.le_of_ble_eq_true rfl) ?_
      | refine T.fad rfl rfl rfl ?_
      | refine T.fadd rfl ?_
      | refine T.nilc rfl rfl rfl ?_
      | refine T.nilcd rfl ?_
      | refine T.st rfl rfl rfl ⟨rfl, rfl⟩ rfl (Nat.le_of_ble_eq_true rfl) ?_
      | refine T.fld rfl rfl ?_
      | refine T.new rfl ⟨rfl, by decide⟩ ?_
      | refine T.zero (by decide) ?_
      | refine T.build rfl ?_
      | refine T.len rfl rfl rfl ?_
      | refine T.lenS rfl ?_
      | refine T.lenN rfl ?_
      | refine T.mkf ?_
      | refine T.mki ?_
      | refine T.mksl rfl rfl (by decide) ?_
      | refine T.copy rfl rfl rfl ⟨rfl, rfl⟩ ?_
      | refine T.idx rfl rfl rfl ⟨rfl, rfl⟩ (by omega) ?_
      | refine T.idxa rfl rfl rfl rfl (by omega) ?_
      | refine T.idxd rfl rfl (by omega) ?_
      | refine T.bsl rfl (by decide) ?_
      | refine T.slc rfl rfl rfl rfl ⟨rfl, rfl⟩ (by omega) ?_
      | refine T.go rfl rfl ?_
      | refine T.pass rfl rfl ?_
      | refine T.pickB rfl rfl rfl ?_
      | refine AW.retI ?_)
    exact hQ _ _ _ rfl (WeakV.cE rfl (by rw [hm]))
theorem modN (v : Int) (n : Nat) : ∃ a : Nat, v % 2 ^ n = (a : Int) ∧ a < 2 ^ n := by
  have h := mod_lo v n
  refine ⟨(v % 2 ^ n).toNat, by omega, ?_⟩
  have : (((v % 2 ^ n).toNat : Nat) : Int) < ((2 ^ n : Nat) : Int) := by rw [Int.natCast_pow]; have := h.2; have := h.1; push_cast; omega
  exact_mod_cast this
theorem low_lit (v : Int) (n : Nat) (w : Int) (hw : w = n) (hn : n ≤ 62) : FnE Try.prog 35 [I v, I w] [] (I (v % 2 ^ n)) [] := hw ▸ lowN_ok v n hn
theorem low_in (v : Int) (n : Nat) (w : Int) (hw : w = n) (hn : n ≤ 62) (h : 0 ≤ v ∧ v < 2 ^ n) : FnE Try.prog 35 [I v, I w] [] (I v) [] := by
  have := low_lit v n w hw hn
  rwa [Int.emod_eq_of_lt h.1 h.2] at this
theorem bit_lo (v : Int) (i w : Nat) (hi : i < w) : v % 2 ^ w / 2 ^ i % 2 = v / 2 ^ i % 2 := by
  obtain ⟨k, rfl⟩ : ∃ k, w = i + (k + 1) := ⟨w - i - 1, by omega⟩
  have h := Int.emod_add_mul_ediv v (2 ^ (i + (k + 1)))
  have hp := pow_pos' i
  conv => rhs; rw [← h]
  rw [Int.pow_add, Int.mul_assoc, Int.add_mul_ediv_left _ _ (by omega), Int.pow_succ, Int.mul_comm (2 ^ k) 2, Int.mul_assoc]
  rw [Int.add_mul_emod_self_left]
end Go.Proofs.Ytjmmompbmjhkpaa.Calc
