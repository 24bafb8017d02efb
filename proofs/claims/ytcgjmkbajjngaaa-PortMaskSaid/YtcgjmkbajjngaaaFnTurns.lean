/- The contracts of Turn, Count, Rol, Ror and of BitTurns: it returns true. Condition: none on its three numbers. -/
import Derived.Test.YtcgjmkbajjngaaaFnBitBack
namespace Go.Proofs.Ytcgjmkbajjngaaa.Calc
open Go Code
set_option linter.unusedSimpArgs false
set_option linter.unusedVariables false
set_option maxRecDepth 20000
attribute [local irreducible] WOpsT AW
theorem or_low (a b : Nat) (hb : b < 2) : 2 * a ||| b = 2 * a + b := by
  have := Nat.shiftLeft_add_eq_or_of_lt (i := 1) (b := b) (by simpa using hb) a
  simp only [Nat.shiftLeft_eq, Nat.pow_one, Nat.mul_comm a 2] at this
  omega
theorem or_hi (a b n : Nat) (ha : a < 2 ^ n) : a ||| b * 2 ^ n = a + b * 2 ^ n := by
  have := Nat.shiftLeft_add_eq_or_of_lt ha b
  rw [Nat.shiftLeft_eq] at this
  rw [Nat.or_comm, ← this, Nat.add_comm]
theorem u1 : min (1 : Int).toNat IntKind.i64.bits = 1 := rfl
theorem pow62 (n : Nat) (hn : n ≤ 62) : 2 ^ n ≤ 4611686018427387904 := by
  have := Nat.pow_le_pow_right (n := 2) (by decide) hn
  simpa using this
theorem orOne (a : Nat) (x : Int) (ha : a < 4611686018427387904) : bits .or .i64 (IntKind.wrap .i64 ((a : Int) * 2 ^ 1)) (x % 2) = ((2 * a + (x % 2).toNat : Nat) : Int) := by
  have hx : x % 2 = (((x % 2).toNat : Nat) : Int) := by omega
  have hb : (x % 2).toNat < 2 := by omega
  rw [wrap64 (by omega) (by omega)]
  rw [show (a : Int) * 2 ^ 1 = ((2 * a : Nat) : Int) by omega]
  rw [hx, BA.or_nat (2 * a) _ (by omega) (by omega)]
  rw [show (((x % 2).toNat : Int)).toNat = (x % 2).toNat by omega, or_low _ _ hb]
theorem turn_ok (v w : Int) : FnE Try.prog 25 [I v, I w] [] (I (BA.rev (wd w) v)) [] := by
  refine fnI Try.func25 k25 (Nat.le_of_ble_eq_true rfl) q25 fun Q hQ => ?_
  rw [c25]
  have h3 := wd_le w
  repeat (first
    | refine AW.regS fun K hK => ?_
    | refine AW.dregS fun K hK => ?_
    | refine AW.regN fun K hK => ?_
    | refine AW.dregN fun K hK => ?_
    | simp only [T.mv, AO.ev, put, lk, enter, reduceIte, Nat.reduceEqDiff, Nat.reduceAdd, Nat.reduceMul, Nat.reduceSub, ren_c, ren_tup, ren_agg, ren_sl, List.map, Int.reduceNeg, Int.toNat_zero, Nat.zero_add, Nat.add_zero, List.length_cons, List.length_nil]
    | refine T.nil ?_
    | (first | refine hK _ _ _ (by rfl) ?_ | refine hK _ _ _ ?_); simp only [keep, List.map, lk, reduceIte, Nat.reduceEqDiff, enter]; clear hK; clear K
    | refine T.add rfl rfl (by omega) (by omega) ?_
    | refine T.sub rfl rfl (by omega) (by omega) ?_
    | refine T.bin rfl rfl rfl ?_
    | refine T.rem rfl rfl (by omega) ?_
    | refine T.quo rfl rfl (by omega) ?_
    | refine T.shl rfl rfl (by omega) ?_
    | refine T.shr rfl rfl (by omega) ?_
    | refine T.min2 rfl rfl rfl ?_
    | refine T.max2 rfl rfl rfl ?_
    | refine T.ext rfl rfl ?_
    | refine T.lenc ?_
    | refine T.not rfl ?_
    | refine T.cvt rfl ?_
    | refine T.ld rfl rfl rfl rfl rfl ?_
    | refine T.ldd rfl rfl ?_
    | refine T.ldn rfl rfl rfl rfl (by decide) ?_
    | refine T.lddn rfl (by decide) ?_
    | refine T.fad rfl rfl rfl ?_
    | refine T.fadd rfl ?_
    | refine T.nilc rfl rfl rfl ?_
    | refine T.nilcd rfl ?_
    | refine T.st rfl rfl rfl ⟨rfl, rfl⟩ rfl (by decide) ?_
    | refine T.fld rfl rfl ?_
    | refine T.new rfl ⟨rfl, by decide⟩ ?_
    | refine T.zero (by decide) ?_
    | refine T.build rfl ?_
    | refine T.len rfl rfl rfl ?_
    | refine T.lenS rfl ?_
    | refine T.lenN rfl ?_
    | refine T.mkf ?_
    | refine T.mki ?_
    | refine T.go rfl rfl ?_
    | refine T.pass rfl rfl ?_
    | refine T.pickB rfl rfl rfl ?_
    | refine AW.retI ?_)
  refine AW.seqI fun Q1 hN hX hR => ?_
  repeat (first
    | refine T.call0 enters61 rfl (width_ok _) ?_
    | refine AW.regS fun K hK => ?_
    | refine AW.dregS fun K hK => ?_
    | refine AW.regN fun K hK => ?_
    | refine AW.dregN fun K hK => ?_
    | simp only [T.mv, AO.ev, put, lk, enter, reduceIte, Nat.reduceEqDiff, Nat.reduceAdd, Nat.reduceMul, Nat.reduceSub, ren_c, ren_tup, ren_agg, ren_sl, List.map, Int.reduceNeg, Int.toNat_zero, Nat.zero_add, Nat.add_zero, List.length_cons, List.length_nil]
    | refine T.nil ?_
    | (first | refine hK _ _ _ (by rfl) ?_ | refine hK _ _ _ ?_); simp only [keep, List.map, lk, reduceIte, Nat.reduceEqDiff, enter]; clear hK; clear K
    | refine T.add rfl rfl (by omega) (by omega) ?_
    | refine T.sub rfl rfl (by omega) (by omega) ?_
    | refine T.bin rfl rfl rfl ?_
    | refine T.rem rfl rfl (by omega) ?_
    | refine T.quo rfl rfl (by omega) ?_
    | refine T.shl rfl rfl (by omega) ?_
    | refine T.shr rfl rfl (by omega) ?_
    | refine T.min2 rfl rfl rfl ?_
    | refine T.max2 rfl rfl rfl ?_
    | refine T.ext rfl rfl ?_
    | refine T.lenc ?_
    | refine T.not rfl ?_
    | refine T.cvt rfl ?_
    | refine T.ld rfl rfl rfl rfl rfl ?_
    | refine T.ldd rfl rfl ?_
    | refine T.ldn rfl rfl rfl rfl (by decide) ?_
    | refine T.lddn rfl (by decide) ?_
    | refine T.fad rfl rfl rfl ?_
    | refine T.fadd rfl ?_
    | refine T.nilc rfl rfl rfl ?_
    | refine T.nilcd rfl ?_
    | refine T.st rfl rfl rfl ⟨rfl, rfl⟩ rfl (by decide) ?_
    | refine T.fld rfl rfl ?_
    | refine T.new rfl ⟨rfl, by decide⟩ ?_
    | refine T.zero (by decide) ?_
    | refine T.build rfl ?_
    | refine T.len rfl rfl rfl ?_
    | refine T.lenS rfl ?_
    | refine T.lenN rfl ?_
    | refine T.mkf ?_
    | refine T.mki ?_
    | refine T.go rfl rfl ?_
    | refine T.pass rfl rfl ?_
    | refine T.pickB rfl rfl rfl ?_
    | refine AW.retI ?_)
  refine AW.blockI fun Q2 gN gE gX gR => ?_
  refine AW.loopS (σ := Nat) (fun i => [(0, I v), (1, I w), (4, I 0), (5, I (BA.rev i v)), (6, .any), (8, I (wd w)), (9, I i), (10, .any)]) (fun _ => []) (fun i => i ≤ wd w) (fun i => wd w - i) 0 (Nat.zero_le _) ?_ fun i hi Q3 lN lX lR => ?_
  · exact Weak.list ⟨rfl, .inr rfl, rfl, .inr rfl, rfl, .inr rfl, rfl, .inr rfl, rfl, .inl rfl, rfl, .inr rfl, rfl, .inr rfl, rfl, .inl rfl, trivial⟩ rfl
  · skip
    repeat (first
      | refine AW.regS fun K hK => ?_
      | refine AW.dregS fun K hK => ?_
      | refine AW.regN fun K hK => ?_
      | refine AW.dregN fun K hK => ?_
      | simp only [T.mv, AO.ev, put, lk, enter, reduceIte, Nat.reduceEqDiff, Nat.reduceAdd, Nat.reduceMul, Nat.reduceSub, ren_c, ren_tup, ren_agg, ren_sl, List.map, Int.reduceNeg, Int.toNat_zero, Nat.zero_add, Nat.add_zero, List.length_cons, List.length_nil]
      | refine T.nil ?_
      | (first | refine hK _ _ _ (by rfl) ?_ | refine hK _ _ _ ?_); simp only [keep, List.map, lk, reduceIte, Nat.reduceEqDiff, enter]; clear hK; clear K
      | refine T.add rfl rfl (by omega) (by omega) ?_
      | refine T.sub rfl rfl (by omega) (by omega) ?_
      | refine T.bin rfl rfl rfl ?_
      | refine T.rem rfl rfl (by omega) ?_
      | refine T.quo rfl rfl (by omega) ?_
      | refine T.shl rfl rfl (by omega) ?_
      | refine T.shr rfl rfl (by omega) ?_
      | refine T.min2 rfl rfl rfl ?_
      | refine T.max2 rfl rfl rfl ?_
      | refine T.ext rfl rfl ?_
      | refine T.lenc ?_
      | refine T.not rfl ?_
      | refine T.cvt rfl ?_
      | refine T.ld rfl rfl rfl rfl rfl ?_
      | refine T.ldd rfl rfl ?_
      | refine T.ldn rfl rfl rfl rfl (by decide) ?_
      | refine T.lddn rfl (by decide) ?_
      | refine T.fad rfl rfl rfl ?_
      | refine T.fadd rfl ?_
      | refine T.nilc rfl rfl rfl ?_
      | refine T.nilcd rfl ?_
      | refine T.st rfl rfl rfl ⟨rfl, rfl⟩ rfl (by decide) ?_
      | refine T.fld rfl rfl ?_
      | refine T.new rfl ⟨rfl, by decide⟩ ?_
      | refine T.zero (by decide) ?_
      | refine T.build rfl ?_
      | refine T.len rfl rfl rfl ?_
      | refine T.lenS rfl ?_
      | refine T.lenN rfl ?_
      | refine T.mkf ?_
      | refine T.mki ?_
      | refine T.go rfl rfl ?_
      | refine T.pass rfl rfl ?_
      | refine T.pickB rfl rfl rfl ?_
      | refine AW.retI ?_)
    refine AW.seqI fun Q4 hN4 hX4 hR4 => ?_
    refine AW.condB rfl (fun ht => ?_) (fun ht => ?_)
    · have ht := of_decide_eq_true ht
      refine AW.skipI (hN4 _ _ ?_)
      refine AW.seqI fun Q5 hN5 hX5 hR5 => ?_
      refine AW.blockI fun Q6 gN6 gE6 gX6 gR6 => ?_
      repeat (first
        | rw [bits1]
        | refine AW.regS fun K hK => ?_
        | refine AW.dregS fun K hK => ?_
        | refine AW.regN fun K hK => ?_
        | refine AW.dregN fun K hK => ?_
        | simp only [T.mv, AO.ev, put, lk, enter, reduceIte, Nat.reduceEqDiff, Nat.reduceAdd, Nat.reduceMul, Nat.reduceSub, ren_c, ren_tup, ren_agg, ren_sl, List.map, Int.reduceNeg, Int.toNat_zero, Nat.zero_add, Nat.add_zero, List.length_cons, List.length_nil]
        | refine T.nil ?_
        | (first | refine hK _ _ _ (by rfl) ?_ | refine hK _ _ _ ?_); simp only [keep, List.map, lk, reduceIte, Nat.reduceEqDiff, enter]; clear hK; clear K
        | refine T.add rfl rfl (by omega) (by omega) ?_
        | refine T.sub rfl rfl (by omega) (by omega) ?_
        | refine T.bin rfl rfl rfl ?_
        | refine T.rem rfl rfl (by omega) ?_
        | refine T.quo rfl rfl (by omega) ?_
        | refine T.shl rfl rfl (by omega) ?_
        | refine T.shr rfl rfl (by omega) ?_
        | refine T.min2 rfl rfl rfl ?_
        | refine T.max2 rfl rfl rfl ?_
        | refine T.ext rfl rfl ?_
        | refine T.lenc ?_
        | refine T.not rfl ?_
        | refine T.cvt rfl ?_
        | refine T.ld rfl rfl rfl rfl rfl ?_
        | refine T.ldd rfl rfl ?_
        | refine T.ldn rfl rfl rfl rfl (by decide) ?_
        | refine T.lddn rfl (by decide) ?_
        | refine T.fad rfl rfl rfl ?_
        | refine T.fadd rfl ?_
        | refine T.nilc rfl rfl rfl ?_
        | refine T.nilcd rfl ?_
        | refine T.st rfl rfl rfl ⟨rfl, rfl⟩ rfl (by decide) ?_
        | refine T.fld rfl rfl ?_
        | refine T.new rfl ⟨rfl, by decide⟩ ?_
        | refine T.zero (by decide) ?_
        | refine T.build rfl ?_
        | refine T.len rfl rfl rfl ?_
        | refine T.lenS rfl ?_
        | refine T.lenN rfl ?_
        | refine T.mkf ?_
        | refine T.mki ?_
        | refine T.go rfl rfl ?_
        | refine T.pass rfl rfl ?_
        | refine T.pickB rfl rfl rfl ?_
        | refine AW.retI ?_)
      refine gN6 _ _ (hN5 _ _ ?_)
      repeat (first
        | refine AW.regS fun K hK => ?_
        | refine AW.dregS fun K hK => ?_
        | refine AW.regN fun K hK => ?_
        | refine AW.dregN fun K hK => ?_
        | simp only [T.mv, AO.ev, put, lk, enter, reduceIte, Nat.reduceEqDiff, Nat.reduceAdd, Nat.reduceMul, Nat.reduceSub, ren_c, ren_tup, ren_agg, ren_sl, List.map, Int.reduceNeg, Int.toNat_zero, Nat.zero_add, Nat.add_zero, List.length_cons, List.length_nil]
        | refine T.nil ?_
        | (first | refine hK _ _ _ (by rfl) ?_ | refine hK _ _ _ ?_); simp only [keep, List.map, lk, reduceIte, Nat.reduceEqDiff, enter]; clear hK; clear K
        | refine T.add rfl rfl (by omega) (by omega) ?_
        | refine T.sub rfl rfl (by omega) (by omega) ?_
        | refine T.bin rfl rfl rfl ?_
        | refine T.rem rfl rfl (by omega) ?_
        | refine T.quo rfl rfl (by omega) ?_
        | refine T.shl rfl rfl (by omega) ?_
        | refine T.shr rfl rfl (by omega) ?_
        | refine T.min2 rfl rfl rfl ?_
        | refine T.max2 rfl rfl rfl ?_
        | refine T.ext rfl rfl ?_
        | refine T.lenc ?_
        | refine T.not rfl ?_
        | refine T.cvt rfl ?_
        | refine T.ld rfl rfl rfl rfl rfl ?_
        | refine T.ldd rfl rfl ?_
        | refine T.ldn rfl rfl rfl rfl (by decide) ?_
        | refine T.lddn rfl (by decide) ?_
        | refine T.fad rfl rfl rfl ?_
        | refine T.fadd rfl ?_
        | refine T.nilc rfl rfl rfl ?_
        | refine T.nilcd rfl ?_
        | refine T.st rfl rfl rfl ⟨rfl, rfl⟩ rfl (by decide) ?_
        | refine T.fld rfl rfl ?_
        | refine T.new rfl ⟨rfl, by decide⟩ ?_
        | refine T.zero (by decide) ?_
        | refine T.build rfl ?_
        | refine T.len rfl rfl rfl ?_
        | refine T.lenS rfl ?_
        | refine T.lenN rfl ?_
        | refine T.mkf ?_
        | refine T.mki ?_
        | refine T.go rfl rfl ?_
        | refine T.pass rfl rfl ?_
        | refine T.pickB rfl rfl rfl ?_
        | refine AW.retI ?_)
      have hr := BA.rev_lt i v
      have hp := pow62 i (by omega)
      have e : bits .or .i64 (IntKind.wrap .i64 ((BA.rev i v : Int) * 2 ^ min (1 : Int).toNat IntKind.i64.bits)) (v / 2 ^ min ((i : Int)).toNat IntKind.i64.bits % 2) = ((BA.rev (i + 1) v : Nat) : Int) := by
        rw [u1, min64 i (by omega), orOne _ _ (by omega)]
        rfl
      rw [e]
      refine lN _ _ (i + 1) (by omega) (by omega) ?_
      exact Weak.list ⟨rfl, .inr rfl, rfl, .inr rfl, rfl, .inr rfl, rfl, .inr rfl, rfl, .inl rfl, rfl, .inr rfl, rfl, .inr rfl, rfl, .inl rfl, trivial⟩ rfl
    · have ht := of_decide_eq_false ht
      refine AW.exitI (hX4 _ _ _ (lX _ _ _ (gE _ _ (hN _ _ ?_))))
      have hi' : i = wd w := by omega
      subst hi'
      repeat (first
        | refine AW.regS fun K hK => ?_
        | refine AW.dregS fun K hK => ?_
        | refine AW.regN fun K hK => ?_
        | refine AW.dregN fun K hK => ?_
        | simp only [T.mv, AO.ev, put, lk, enter, reduceIte, Nat.reduceEqDiff, Nat.reduceAdd, Nat.reduceMul, Nat.reduceSub, ren_c, ren_tup, ren_agg, ren_sl, List.map, Int.reduceNeg, Int.toNat_zero, Nat.zero_add, Nat.add_zero, List.length_cons, List.length_nil]
        | refine T.nil ?_
        | (first | refine hK _ _ _ (by rfl) ?_ | refine hK _ _ _ ?_); simp only [keep, List.map, lk, reduceIte, Nat.reduceEqDiff, enter]; clear hK; clear K
        | refine T.add rfl rfl (by omega) (by omega) ?_
        | refine T.sub rfl rfl (by omega) (by omega) ?_
        | refine T.bin rfl rfl rfl ?_
        | refine T.rem rfl rfl (by omega) ?_
        | refine T.quo rfl rfl (by omega) ?_
        | refine T.shl rfl rfl (by omega) ?_
        | refine T.shr rfl rfl (by omega) ?_
        | refine T.min2 rfl rfl rfl ?_
        | refine T.max2 rfl rfl rfl ?_
        | refine T.ext rfl rfl ?_
        | refine T.lenc ?_
        | refine T.not rfl ?_
        | refine T.cvt rfl ?_
        | refine T.ld rfl rfl rfl rfl rfl ?_
        | refine T.ldd rfl rfl ?_
        | refine T.ldn rfl rfl rfl rfl (by decide) ?_
        | refine T.lddn rfl (by decide) ?_
        | refine T.fad rfl rfl rfl ?_
        | refine T.fadd rfl ?_
        | refine T.nilc rfl rfl rfl ?_
        | refine T.nilcd rfl ?_
        | refine T.st rfl rfl rfl ⟨rfl, rfl⟩ rfl (by decide) ?_
        | refine T.fld rfl rfl ?_
        | refine T.new rfl ⟨rfl, by decide⟩ ?_
        | refine T.zero (by decide) ?_
        | refine T.build rfl ?_
        | refine T.len rfl rfl rfl ?_
        | refine T.lenS rfl ?_
        | refine T.lenN rfl ?_
        | refine T.mkf ?_
        | refine T.mki ?_
        | refine T.go rfl rfl ?_
        | refine T.pass rfl rfl ?_
        | refine T.pickB rfl rfl rfl ?_
        | refine AW.retI ?_)
      exact hQ _ _ _ rfl (WeakV.cE rfl rfl)
theorem enters25 : enters Try.prog 25 = true := by kernel_rfl
theorem count_ok (v : Int) : FnE Try.prog 26 [I v] [] (I (BA.pc 62 v)) [] := by
  refine fnI Try.func26 k26 (Nat.le_of_ble_eq_true rfl) q26 fun Q hQ => ?_
  rw [c26]
  repeat (first
    | refine AW.regS fun K hK => ?_
    | refine AW.dregS fun K hK => ?_
    | refine AW.regN fun K hK => ?_
    | refine AW.dregN fun K hK => ?_
    | simp only [T.mv, AO.ev, put, lk, enter, reduceIte, Nat.reduceEqDiff, Nat.reduceAdd, Nat.reduceMul, Nat.reduceSub, ren_c, ren_tup, ren_agg, ren_sl, List.map, Int.reduceNeg, Int.toNat_zero, Nat.zero_add, Nat.add_zero, List.length_cons, List.length_nil]
    | refine T.nil ?_
    | (first | refine hK _ _ _ (by rfl) ?_ | refine hK _ _ _ ?_); simp only [keep, List.map, lk, reduceIte, Nat.reduceEqDiff, enter]; clear hK; clear K
    | refine T.add rfl rfl (by omega) (by omega) ?_
    | refine T.sub rfl rfl (by omega) (by omega) ?_
    | refine T.bin rfl rfl rfl ?_
    | refine T.rem rfl rfl (by omega) ?_
    | refine T.quo rfl rfl (by omega) ?_
    | refine T.shl rfl rfl (by omega) ?_
    | refine T.shr rfl rfl (by omega) ?_
    | refine T.min2 rfl rfl rfl ?_
    | refine T.max2 rfl rfl rfl ?_
    | refine T.ext rfl rfl ?_
    | refine T.lenc ?_
    | refine T.not rfl ?_
    | refine T.cvt rfl ?_
    | refine T.ld rfl rfl rfl rfl rfl ?_
    | refine T.ldd rfl rfl ?_
    | refine T.ldn rfl rfl rfl rfl (by decide) ?_
    | refine T.lddn rfl (by decide) ?_
    | refine T.fad rfl rfl rfl ?_
    | refine T.fadd rfl ?_
    | refine T.nilc rfl rfl rfl ?_
    | refine T.nilcd rfl ?_
    | refine T.st rfl rfl rfl ⟨rfl, rfl⟩ rfl (by decide) ?_
    | refine T.fld rfl rfl ?_
    | refine T.new rfl ⟨rfl, by decide⟩ ?_
    | refine T.zero (by decide) ?_
    | refine T.build rfl ?_
    | refine T.len rfl rfl rfl ?_
    | refine T.lenS rfl ?_
    | refine T.lenN rfl ?_
    | refine T.mkf ?_
    | refine T.mki ?_
    | refine T.go rfl rfl ?_
    | refine T.pass rfl rfl ?_
    | refine T.pickB rfl rfl rfl ?_
    | refine AW.retI ?_)
  refine AW.seqI fun Q1 hN hX hR => ?_
  repeat (first
    | refine T.call0 enters19 rfl (lowN_ok _ 62 (by decide)) ?_
    | refine AW.regS fun K hK => ?_
    | refine AW.dregS fun K hK => ?_
    | refine AW.regN fun K hK => ?_
    | refine AW.dregN fun K hK => ?_
    | simp only [T.mv, AO.ev, put, lk, enter, reduceIte, Nat.reduceEqDiff, Nat.reduceAdd, Nat.reduceMul, Nat.reduceSub, ren_c, ren_tup, ren_agg, ren_sl, List.map, Int.reduceNeg, Int.toNat_zero, Nat.zero_add, Nat.add_zero, List.length_cons, List.length_nil]
    | refine T.nil ?_
    | (first | refine hK _ _ _ (by rfl) ?_ | refine hK _ _ _ ?_); simp only [keep, List.map, lk, reduceIte, Nat.reduceEqDiff, enter]; clear hK; clear K
    | refine T.add rfl rfl (by omega) (by omega) ?_
    | refine T.sub rfl rfl (by omega) (by omega) ?_
    | refine T.bin rfl rfl rfl ?_
    | refine T.rem rfl rfl (by omega) ?_
    | refine T.quo rfl rfl (by omega) ?_
    | refine T.shl rfl rfl (by omega) ?_
    | refine T.shr rfl rfl (by omega) ?_
    | refine T.min2 rfl rfl rfl ?_
    | refine T.max2 rfl rfl rfl ?_
    | refine T.ext rfl rfl ?_
    | refine T.lenc ?_
    | refine T.not rfl ?_
    | refine T.cvt rfl ?_
    | refine T.ld rfl rfl rfl rfl rfl ?_
    | refine T.ldd rfl rfl ?_
    | refine T.ldn rfl rfl rfl rfl (by decide) ?_
    | refine T.lddn rfl (by decide) ?_
    | refine T.fad rfl rfl rfl ?_
    | refine T.fadd rfl ?_
    | refine T.nilc rfl rfl rfl ?_
    | refine T.nilcd rfl ?_
    | refine T.st rfl rfl rfl ⟨rfl, rfl⟩ rfl (by decide) ?_
    | refine T.fld rfl rfl ?_
    | refine T.new rfl ⟨rfl, by decide⟩ ?_
    | refine T.zero (by decide) ?_
    | refine T.build rfl ?_
    | refine T.len rfl rfl rfl ?_
    | refine T.lenS rfl ?_
    | refine T.lenN rfl ?_
    | refine T.mkf ?_
    | refine T.mki ?_
    | refine T.go rfl rfl ?_
    | refine T.pass rfl rfl ?_
    | refine T.pickB rfl rfl rfl ?_
    | refine AW.retI ?_)
  rw [← BA.lo_eq]
  refine AW.blockI fun Q2 gN gE gX gR => ?_
  refine AW.loopS (σ := Nat) (fun m => [(0, I m), (2, I 0), (3, I (BA.pc 62 v - BA.pc 62 m : Nat)), (7, .any)]) (fun _ => []) (fun m => m < 2 ^ 62 ∧ BA.pc 62 m ≤ BA.pc 62 v) (fun m => m) (BA.lo 62 v) ⟨BA.lo_lt _ _, by rw [BA.pc_lo]; exact Nat.le_refl _⟩ ?_ fun m hm Q3 lN lX lR => ?_
  · rw [BA.pc_lo, Nat.sub_self]
    exact Weak.list ⟨rfl, .inr rfl, rfl, .inr rfl, rfl, .inr rfl, rfl, .inl rfl, trivial⟩ rfl
  · refine AW.seqI fun Q4 hN4 hX4 hR4 => ?_
    repeat (first
      | refine AW.regS fun K hK => ?_
      | refine AW.dregS fun K hK => ?_
      | refine AW.regN fun K hK => ?_
      | refine AW.dregN fun K hK => ?_
      | simp only [T.mv, AO.ev, put, lk, enter, reduceIte, Nat.reduceEqDiff, Nat.reduceAdd, Nat.reduceMul, Nat.reduceSub, ren_c, ren_tup, ren_agg, ren_sl, List.map, Int.reduceNeg, Int.toNat_zero, Nat.zero_add, Nat.add_zero, List.length_cons, List.length_nil]
      | refine T.nil ?_
      | (first | refine hK _ _ _ (by rfl) ?_ | refine hK _ _ _ ?_); simp only [keep, List.map, lk, reduceIte, Nat.reduceEqDiff, enter]; clear hK; clear K
      | refine T.add rfl rfl (by omega) (by omega) ?_
      | refine T.sub rfl rfl (by omega) (by omega) ?_
      | refine T.bin rfl rfl rfl ?_
      | refine T.rem rfl rfl (by omega) ?_
      | refine T.quo rfl rfl (by omega) ?_
      | refine T.shl rfl rfl (by omega) ?_
      | refine T.shr rfl rfl (by omega) ?_
      | refine T.min2 rfl rfl rfl ?_
      | refine T.max2 rfl rfl rfl ?_
      | refine T.ext rfl rfl ?_
      | refine T.lenc ?_
      | refine T.not rfl ?_
      | refine T.cvt rfl ?_
      | refine T.ld rfl rfl rfl rfl rfl ?_
      | refine T.ldd rfl rfl ?_
      | refine T.ldn rfl rfl rfl rfl (by decide) ?_
      | refine T.lddn rfl (by decide) ?_
      | refine T.fad rfl rfl rfl ?_
      | refine T.fadd rfl ?_
      | refine T.nilc rfl rfl rfl ?_
      | refine T.nilcd rfl ?_
      | refine T.st rfl rfl rfl ⟨rfl, rfl⟩ rfl (by decide) ?_
      | refine T.fld rfl rfl ?_
      | refine T.new rfl ⟨rfl, by decide⟩ ?_
      | refine T.zero (by decide) ?_
      | refine T.build rfl ?_
      | refine T.len rfl rfl rfl ?_
      | refine T.lenS rfl ?_
      | refine T.lenN rfl ?_
      | refine T.mkf ?_
      | refine T.mki ?_
      | refine T.go rfl rfl ?_
      | refine T.pass rfl rfl ?_
      | refine T.pickB rfl rfl rfl ?_
      | refine AW.retI ?_)
    refine AW.condB rfl (fun ht => ?_) (fun ht => ?_)
    · have ht := of_decide_eq_true ht
      have hm1 := hm.1
      have hc := BA.pc_clear 62 m (by omega) hm.1
      have hpv := BA.pc_mono 62 v
      refine AW.skipI (hN4 _ _ ?_)
      refine AW.seqI fun Q5 hN5 hX5 hR5 => ?_
      refine AW.blockI fun Q6 gN6 gE6 gX6 gR6 => ?_
      repeat (first
        | refine AW.regS fun K hK => ?_
        | refine AW.dregS fun K hK => ?_
        | refine AW.regN fun K hK => ?_
        | refine AW.dregN fun K hK => ?_
        | simp only [T.mv, AO.ev, put, lk, enter, reduceIte, Nat.reduceEqDiff, Nat.reduceAdd, Nat.reduceMul, Nat.reduceSub, ren_c, ren_tup, ren_agg, ren_sl, List.map, Int.reduceNeg, Int.toNat_zero, Nat.zero_add, Nat.add_zero, List.length_cons, List.length_nil]
        | refine T.nil ?_
        | (first | refine hK _ _ _ (by rfl) ?_ | refine hK _ _ _ ?_); simp only [keep, List.map, lk, reduceIte, Nat.reduceEqDiff, enter]; clear hK; clear K
        | refine T.add rfl rfl (by omega) (by omega) ?_
        | refine T.sub rfl rfl (by omega) (by omega) ?_
        | refine T.bin rfl rfl rfl ?_
        | refine T.rem rfl rfl (by omega) ?_
        | refine T.quo rfl rfl (by omega) ?_
        | refine T.shl rfl rfl (by omega) ?_
        | refine T.shr rfl rfl (by omega) ?_
        | refine T.min2 rfl rfl rfl ?_
        | refine T.max2 rfl rfl rfl ?_
        | refine T.ext rfl rfl ?_
        | refine T.lenc ?_
        | refine T.not rfl ?_
        | refine T.cvt rfl ?_
        | refine T.ld rfl rfl rfl rfl rfl ?_
        | refine T.ldd rfl rfl ?_
        | refine T.ldn rfl rfl rfl rfl (by decide) ?_
        | refine T.lddn rfl (by decide) ?_
        | refine T.fad rfl rfl rfl ?_
        | refine T.fadd rfl ?_
        | refine T.nilc rfl rfl rfl ?_
        | refine T.nilcd rfl ?_
        | refine T.st rfl rfl rfl ⟨rfl, rfl⟩ rfl (by decide) ?_
        | refine T.fld rfl rfl ?_
        | refine T.new rfl ⟨rfl, by decide⟩ ?_
        | refine T.zero (by decide) ?_
        | refine T.build rfl ?_
        | refine T.len rfl rfl rfl ?_
        | refine T.lenS rfl ?_
        | refine T.lenN rfl ?_
        | refine T.mkf ?_
        | refine T.mki ?_
        | refine T.go rfl rfl ?_
        | refine T.pass rfl rfl ?_
        | refine T.pickB rfl rfl rfl ?_
        | refine AW.retI ?_)
      refine gN6 _ _ (hN5 _ _ ?_)
      repeat (first
        | refine AW.regS fun K hK => ?_
        | refine AW.dregS fun K hK => ?_
        | refine AW.regN fun K hK => ?_
        | refine AW.dregN fun K hK => ?_
        | simp only [T.mv, AO.ev, put, lk, enter, reduceIte, Nat.reduceEqDiff, Nat.reduceAdd, Nat.reduceMul, Nat.reduceSub, ren_c, ren_tup, ren_agg, ren_sl, List.map, Int.reduceNeg, Int.toNat_zero, Nat.zero_add, Nat.add_zero, List.length_cons, List.length_nil]
        | refine T.nil ?_
        | (first | refine hK _ _ _ (by rfl) ?_ | refine hK _ _ _ ?_); simp only [keep, List.map, lk, reduceIte, Nat.reduceEqDiff, enter]; clear hK; clear K
        | refine T.add rfl rfl (by omega) (by omega) ?_
        | refine T.sub rfl rfl (by omega) (by omega) ?_
        | refine T.bin rfl rfl rfl ?_
        | refine T.rem rfl rfl (by omega) ?_
        | refine T.quo rfl rfl (by omega) ?_
        | refine T.shl rfl rfl (by omega) ?_
        | refine T.shr rfl rfl (by omega) ?_
        | refine T.min2 rfl rfl rfl ?_
        | refine T.max2 rfl rfl rfl ?_
        | refine T.ext rfl rfl ?_
        | refine T.lenc ?_
        | refine T.not rfl ?_
        | refine T.cvt rfl ?_
        | refine T.ld rfl rfl rfl rfl rfl ?_
        | refine T.ldd rfl rfl ?_
        | refine T.ldn rfl rfl rfl rfl (by decide) ?_
        | refine T.lddn rfl (by decide) ?_
        | refine T.fad rfl rfl rfl ?_
        | refine T.fadd rfl ?_
        | refine T.nilc rfl rfl rfl ?_
        | refine T.nilcd rfl ?_
        | refine T.st rfl rfl rfl ⟨rfl, rfl⟩ rfl (by decide) ?_
        | refine T.fld rfl rfl ?_
        | refine T.new rfl ⟨rfl, by decide⟩ ?_
        | refine T.zero (by decide) ?_
        | refine T.build rfl ?_
        | refine T.len rfl rfl rfl ?_
        | refine T.lenS rfl ?_
        | refine T.lenN rfl ?_
        | refine T.mkf ?_
        | refine T.mki ?_
        | refine T.go rfl rfl ?_
        | refine T.pass rfl rfl ?_
        | refine T.pickB rfl rfl rfl ?_
        | refine AW.retI ?_)
      have e : bits .and .i64 (m : Int) ((m : Int) - 1) = ((m &&& (m - 1) : Nat) : Int) := by
        rw [show (m : Int) - 1 = ((m - 1 : Nat) : Int) by omega, BA.and_nat _ _ (by omega) (by omega)]
      have e2 : ((BA.pc 62 v - BA.pc 62 (m : Int) : Nat) : Int) + 1 = ((BA.pc 62 v - BA.pc 62 ((m &&& (m - 1) : Nat) : Int) : Nat) : Int) := by omega
      rw [e, e2]
      have hle : m &&& (m - 1) ≤ m - 1 := Nat.and_le_right
      refine lN _ _ (m &&& (m - 1)) ⟨by omega, by omega⟩ (by omega) ?_
      exact Weak.list ⟨rfl, .inr rfl, rfl, .inr rfl, rfl, .inr rfl, rfl, .inl rfl, trivial⟩ rfl
    · have ht := of_decide_eq_false ht
      refine AW.exitI (hX4 _ _ _ (lX _ _ _ (gE _ _ (hN _ _ ?_))))
      have hm0 : m = 0 := by omega
      subst hm0
      repeat (first
        | refine AW.regS fun K hK => ?_
        | refine AW.dregS fun K hK => ?_
        | refine AW.regN fun K hK => ?_
        | refine AW.dregN fun K hK => ?_
        | simp only [T.mv, AO.ev, put, lk, enter, reduceIte, Nat.reduceEqDiff, Nat.reduceAdd, Nat.reduceMul, Nat.reduceSub, ren_c, ren_tup, ren_agg, ren_sl, List.map, Int.reduceNeg, Int.toNat_zero, Nat.zero_add, Nat.add_zero, List.length_cons, List.length_nil]
        | refine T.nil ?_
        | (first | refine hK _ _ _ (by rfl) ?_ | refine hK _ _ _ ?_); simp only [keep, List.map, lk, reduceIte, Nat.reduceEqDiff, enter]; clear hK; clear K
        | refine T.add rfl rfl (by omega) (by omega) ?_
        | refine T.sub rfl rfl (by omega) (by omega) ?_
        | refine T.bin rfl rfl rfl ?_
        | refine T.rem rfl rfl (by omega) ?_
        | refine T.quo rfl rfl (by omega) ?_
        | refine T.shl rfl rfl (by omega) ?_
        | refine T.shr rfl rfl (by omega) ?_
        | refine T.min2 rfl rfl rfl ?_
        | refine T.max2 rfl rfl rfl ?_
        | refine T.ext rfl rfl ?_
        | refine T.lenc ?_
        | refine T.not rfl ?_
        | refine T.cvt rfl ?_
        | refine T.ld rfl rfl rfl rfl rfl ?_
        | refine T.ldd rfl rfl ?_
        | refine T.ldn rfl rfl rfl rfl (by decide) ?_
        | refine T.lddn rfl (by decide) ?_
        | refine T.fad rfl rfl rfl ?_
        | refine T.fadd rfl ?_
        | refine T.nilc rfl rfl rfl ?_
        | refine T.nilcd rfl ?_
        | refine T.st rfl rfl rfl ⟨rfl, rfl⟩ rfl (by decide) ?_
        | refine T.fld rfl rfl ?_
        | refine T.new rfl ⟨rfl, by decide⟩ ?_
        | refine T.zero (by decide) ?_
        | refine T.build rfl ?_
        | refine T.len rfl rfl rfl ?_
        | refine T.lenS rfl ?_
        | refine T.lenN rfl ?_
        | refine T.mkf ?_
        | refine T.mki ?_
        | refine T.go rfl rfl ?_
        | refine T.pass rfl rfl ?_
        | refine T.pickB rfl rfl rfl ?_
        | refine AW.retI ?_)
      exact hQ _ _ _ rfl (WeakV.cE rfl (by rw [show ((0 : Nat) : Int) = 0 from rfl, BA.pc_zero, Nat.sub_zero]))
theorem enters26 : enters Try.prog 26 = true := by kernel_rfl
theorem modN (v : Int) (n : Nat) : ∃ a : Nat, (v % 2 ^ n) = (a : Int) ∧ a < 2 ^ n := by
  have h := mod_lo v n
  have hc : ((2 ^ n : Nat) : Int) = 2 ^ n := by simp
  exact ⟨(v % 2 ^ n).toNat, by omega, by omega⟩
/-- Rol, then Ror: what was there. -/
theorem rol_ok (v c : Int) (n : Nat) (hn : n ≤ 62) : FnE Try.prog 23 [I v, I c, I n] [] (.tup [I ((2 * (v % 2 ^ n) + c % 2) % 2 ^ n), I ((2 * (v % 2 ^ n) + c % 2) / 2 ^ n)]) [] := by
  refine fnI Try.func23 k23 (Nat.le_of_ble_eq_true rfl) q23 fun Q hQ => ?_
  rw [c23]
  have hw := width_ok n
  rw [wdN n hn] at hw
  have hp := pow62 n hn
  obtain ⟨a, ha, hlt⟩ := modN v n
  have hL := lowN_ok v n hn
  rw [ha] at hL
  rw [ha] at hQ
  have e : bits .or .i64 (IntKind.wrap .i64 ((a : Int) * 2 ^ min (1 : Int).toNat IntKind.i64.bits)) (c % 2) = 2 * (a : Int) + c % 2 := by
    rw [u1, orOne _ _ (by omega)]; omega
  repeat (first
    | refine T.call0 enters61 rfl hw ?_
    | refine T.call0 enters19 rfl hL ?_
    | refine T.call0 enters19 rfl (lowN_ok _ _ hn) ?_
    | rw [bits1]
    | rw [e]
    | refine AW.regS fun K hK => ?_
    | refine AW.dregS fun K hK => ?_
    | refine AW.regN fun K hK => ?_
    | refine AW.dregN fun K hK => ?_
    | simp only [T.mv, AO.ev, put, lk, enter, reduceIte, Nat.reduceEqDiff, Nat.reduceAdd, Nat.reduceMul, Nat.reduceSub, ren_c, ren_tup, ren_agg, ren_sl, List.map, Int.reduceNeg, Int.toNat_zero, Nat.zero_add, Nat.add_zero, List.length_cons, List.length_nil]
    | refine T.nil ?_
    | (first | refine hK _ _ _ (by rfl) ?_ | refine hK _ _ _ ?_); simp only [keep, List.map, lk, reduceIte, Nat.reduceEqDiff, enter]; clear hK; clear K
    | refine T.add rfl rfl (by omega) (by omega) ?_
    | refine T.sub rfl rfl (by omega) (by omega) ?_
    | refine T.bin rfl rfl rfl ?_
    | refine T.rem rfl rfl (by omega) ?_
    | refine T.quo rfl rfl (by omega) ?_
    | refine T.shl rfl rfl (by omega) ?_
    | refine T.shr rfl rfl (by omega) ?_
    | refine T.min2 rfl rfl rfl ?_
    | refine T.max2 rfl rfl rfl ?_
    | refine T.ext rfl rfl ?_
    | refine T.lenc ?_
    | refine T.not rfl ?_
    | refine T.cvt rfl ?_
    | refine T.ld rfl rfl rfl rfl rfl ?_
    | refine T.ldd rfl rfl ?_
    | refine T.ldn rfl rfl rfl rfl (by decide) ?_
    | refine T.lddn rfl (by decide) ?_
    | refine T.fad rfl rfl rfl ?_
    | refine T.fadd rfl ?_
    | refine T.nilc rfl rfl rfl ?_
    | refine T.nilcd rfl ?_
    | refine T.st rfl rfl rfl ⟨rfl, rfl⟩ rfl (by decide) ?_
    | refine T.fld rfl rfl ?_
    | refine T.new rfl ⟨rfl, by decide⟩ ?_
    | refine T.zero (by decide) ?_
    | refine T.build rfl ?_
    | refine T.len rfl rfl rfl ?_
    | refine T.lenS rfl ?_
    | refine T.lenN rfl ?_
    | refine T.mkf ?_
    | refine T.mki ?_
    | refine T.go rfl rfl ?_
    | refine T.pass rfl rfl ?_
    | refine T.pickB rfl rfl rfl ?_
    | refine AW.retI ?_)
  exact hQ _ _ _ rfl (WeakV.tup2 rfl rfl (by rw [min64 n hn]))
theorem enters23 : enters Try.prog 23 = true := by kernel_rfl
theorem ror_ok (v c : Int) (n : Nat) (hn : n ≤ 62) : FnE Try.prog 24 [I v, I c, I n] [] (.tup [I ((v % 2 ^ n + c % 2 * 2 ^ n) / 2), I ((v % 2 ^ n + c % 2 * 2 ^ n) % 2)]) [] := by
  refine fnI Try.func24 k24 (Nat.le_of_ble_eq_true rfl) q24 fun Q hQ => ?_
  rw [c24]
  have hw := width_ok n
  rw [wdN n hn] at hw
  have hp := pow62 n hn
  obtain ⟨a, ha, hlt⟩ := modN v n
  have hL := lowN_ok v n hn
  rw [ha] at hL
  rw [ha] at hQ
  have hc : ((2 ^ n : Nat) : Int) = 2 ^ n := by simp
  have e : bits .or .i64 (a : Int) (IntKind.wrap .i64 (c % 2 * 2 ^ min ((n : Int)).toNat IntKind.i64.bits)) = (a : Int) + c % 2 * 2 ^ n := by
    rw [min64 n hn]
    obtain ⟨b, hb, hb2⟩ : ∃ b : Nat, c % 2 = (b : Int) ∧ b < 2 := ⟨(c % 2).toNat, by omega, by omega⟩
    rw [hb, ← hc]
    have hbb : b = 0 ∨ b = 1 := by omega
    have h2 : b * 2 ^ n ≤ 4611686018427387904 := by rcases hbb with rfl | rfl <;> omega
    rw [show (b : Int) * ((2 ^ n : Nat) : Int) = ((b * 2 ^ n : Nat) : Int) by simp]
    rw [wrap64 (by omega) (by omega), BA.or_nat _ _ (by omega) (by omega), or_hi _ _ _ hlt]
    simp
  repeat (first
    | refine T.call0 enters61 rfl hw ?_
    | refine T.call0 enters19 rfl hL ?_
    | rw [e]
    | rw [bits1]
    | refine AW.regS fun K hK => ?_
    | refine AW.dregS fun K hK => ?_
    | refine AW.regN fun K hK => ?_
    | refine AW.dregN fun K hK => ?_
    | simp only [T.mv, AO.ev, put, lk, enter, reduceIte, Nat.reduceEqDiff, Nat.reduceAdd, Nat.reduceMul, Nat.reduceSub, ren_c, ren_tup, ren_agg, ren_sl, List.map, Int.reduceNeg, Int.toNat_zero, Nat.zero_add, Nat.add_zero, List.length_cons, List.length_nil]
    | refine T.nil ?_
    | (first | refine hK _ _ _ (by rfl) ?_ | refine hK _ _ _ ?_); simp only [keep, List.map, lk, reduceIte, Nat.reduceEqDiff, enter]; clear hK; clear K
    | refine T.add rfl rfl (by omega) (by omega) ?_
    | refine T.sub rfl rfl (by omega) (by omega) ?_
    | refine T.bin rfl rfl rfl ?_
    | refine T.rem rfl rfl (by omega) ?_
    | refine T.quo rfl rfl (by omega) ?_
    | refine T.shl rfl rfl (by omega) ?_
    | refine T.shr rfl rfl (by omega) ?_
    | refine T.min2 rfl rfl rfl ?_
    | refine T.max2 rfl rfl rfl ?_
    | refine T.ext rfl rfl ?_
    | refine T.lenc ?_
    | refine T.not rfl ?_
    | refine T.cvt rfl ?_
    | refine T.ld rfl rfl rfl rfl rfl ?_
    | refine T.ldd rfl rfl ?_
    | refine T.ldn rfl rfl rfl rfl (by decide) ?_
    | refine T.lddn rfl (by decide) ?_
    | refine T.fad rfl rfl rfl ?_
    | refine T.fadd rfl ?_
    | refine T.nilc rfl rfl rfl ?_
    | refine T.nilcd rfl ?_
    | refine T.st rfl rfl rfl ⟨rfl, rfl⟩ rfl (by decide) ?_
    | refine T.fld rfl rfl ?_
    | refine T.new rfl ⟨rfl, by decide⟩ ?_
    | refine T.zero (by decide) ?_
    | refine T.build rfl ?_
    | refine T.len rfl rfl rfl ?_
    | refine T.lenS rfl ?_
    | refine T.lenN rfl ?_
    | refine T.mkf ?_
    | refine T.mki ?_
    | refine T.go rfl rfl ?_
    | refine T.pass rfl rfl ?_
    | refine T.pickB rfl rfl rfl ?_
    | refine AW.retI ?_)
  exact hQ _ _ _ rfl (WeakV.tup2 rfl rfl rfl)
theorem enters24 : enters Try.prog 24 = true := by kernel_rfl
theorem turnBack (a b : Int) (n : Nat) (hn : n ≤ 62) : ∃ p q : Int, FnE Try.prog 23 [I a, I b, I n] [] (.tup [I p, I q]) [] ∧ FnE Try.prog 24 [I p, I q, I n] [] (.tup [I (a % 2 ^ n), I (b % 2)]) [] := by
  have h2 := ror_ok ((2 * (a % 2 ^ n) + b % 2) % 2 ^ n) ((2 * (a % 2 ^ n) + b % 2) / 2 ^ n) n hn
  refine ⟨_, _, rol_ok a b n hn, ?_⟩
  have hx := mod_lo a n
  have hp := pow_pos' n
  generalize hX : 2 * (a % 2 ^ n) + b % 2 = x at h2 ⊢
  generalize hM : (2 : Int) ^ n = M at h2 hx hp hX ⊢
  have hq : x / M % 2 = x / M := by
    have g1 : 0 ≤ x / M := Int.ediv_nonneg (by omega) (by omega)
    have g2 : x / M < 2 := Int.ediv_lt_of_lt_mul (by omega) (by omega)
    omega
  have hx2 : x % M + x / M * M = x := by
    have := Int.emod_add_mul_ediv x M
    rw [Int.mul_comm]; exact this
  rw [Int.emod_emod, hq, hx2] at h2
  rw [show x / 2 = a % M by omega, show x % 2 = b % 2 by omega] at h2
  exact h2
theorem bitTurns_ok (a b w : Int) : FnE Try.prog 5 [I a, I b, I w] [] (.c (.bool true)) [] := by
  refine fnI Try.func5 k5 (Nat.le_of_ble_eq_true rfl) q5 fun Q hQ => ?_
  rw [c5]
  obtain ⟨n, hn, e⟩ : ∃ n : Nat, n ≤ 62 ∧ w % 63 = n := ⟨(w % 63).toNat, by omega, by omega⟩
  have hB := below_ok w 63 (by decide) (by decide)
  rw [e] at hB
  obtain ⟨p, q, hA, hS⟩ := turnBack a b n hn
  have hT1 := turn_ok a n
  have hT2 := turn_ok (BA.rev n a) n
  rw [wdN n hn] at hT1 hT2
  rw [BA.rev_rev, BA.lo_eq] at hT2
  have hC1 := count_ok (BA.rev n a)
  have hC2 := count_ok (a % 2 ^ n)
  have e1 : BA.pc 62 (BA.rev n a : Int) = BA.pc n a := by
    have := BA.pc_hi (BA.rev n a) n (62 - n) (BA.rev_lt n a)
    rw [show n + (62 - n) = 62 by omega] at this
    rw [this, BA.pc_rev]
  have e2 : BA.pc 62 (a % 2 ^ n) = BA.pc n a := by
    rw [← BA.lo_eq]
    have := BA.pc_hi (BA.lo n a) n (62 - n) (BA.lo_lt n a)
    rw [show n + (62 - n) = 62 by omega] at this
    rw [this, BA.pc_lo]
  rw [e1] at hC1
  rw [e2] at hC2
  repeat (first
    | refine T.call0 enters15 rfl hB ?_
    | refine T.call0 enters23 rfl hA ?_
    | refine T.call0 enters24 rfl hS ?_
    | refine T.call0 enters17 rfl bits_ok ?_
    | refine T.call0 enters25 rfl hT1 ?_
    | refine T.call0 enters25 rfl hT2 ?_
    | refine T.call0 enters26 rfl hC1 ?_
    | refine T.call0 enters26 rfl hC2 ?_
    | refine T.call0 enters19 rfl (lowN_ok _ _ hn) ?_
    | refine T.go rfl (decide_eq_true rfl) ?_
    | refine T.pickT rfl (decide_eq_true rfl) ?_
    | refine T.pickT rfl rfl ?_
    | rw [bits1]
    | refine AW.regS fun K hK => ?_
    | refine AW.dregS fun K hK => ?_
    | refine AW.regN fun K hK => ?_
    | refine AW.dregN fun K hK => ?_
    | simp only [T.mv, AO.ev, put, lk, enter, reduceIte, Nat.reduceEqDiff, Nat.reduceAdd, Nat.reduceMul, Nat.reduceSub, ren_c, ren_tup, ren_agg, ren_sl, List.map, Int.reduceNeg, Int.toNat_zero, Nat.zero_add, Nat.add_zero, List.length_cons, List.length_nil]
    | refine T.nil ?_
    | (first | refine hK _ _ _ (by rfl) ?_ | refine hK _ _ _ ?_); simp only [keep, List.map, lk, reduceIte, Nat.reduceEqDiff, enter]; clear hK; clear K
    | refine T.add rfl rfl (by omega) (by omega) ?_
    | refine T.sub rfl rfl (by omega) (by omega) ?_
    | refine T.bin rfl rfl rfl ?_
    | refine T.rem rfl rfl (by omega) ?_
    | refine T.quo rfl rfl (by omega) ?_
    | refine T.shl rfl rfl (by omega) ?_
    | refine T.shr rfl rfl (by omega) ?_
    | refine T.min2 rfl rfl rfl ?_
    | refine T.max2 rfl rfl rfl ?_
    | refine T.ext rfl rfl ?_
    | refine T.lenc ?_
    | refine T.not rfl ?_
    | refine T.cvt rfl ?_
    | refine T.ld rfl rfl rfl rfl rfl ?_
    | refine T.ldd rfl rfl ?_
    | refine T.ldn rfl rfl rfl rfl (by decide) ?_
    | refine T.lddn rfl (by decide) ?_
    | refine T.fad rfl rfl rfl ?_
    | refine T.fadd rfl ?_
    | refine T.nilc rfl rfl rfl ?_
    | refine T.nilcd rfl ?_
    | refine T.st rfl rfl rfl ⟨rfl, rfl⟩ rfl (by decide) ?_
    | refine T.fld rfl rfl ?_
    | refine T.new rfl ⟨rfl, by decide⟩ ?_
    | refine T.zero (by decide) ?_
    | refine T.build rfl ?_
    | refine T.len rfl rfl rfl ?_
    | refine T.lenS rfl ?_
    | refine T.lenN rfl ?_
    | refine T.mkf ?_
    | refine T.mki ?_
    | refine T.go rfl rfl ?_
    | refine T.pass rfl rfl ?_
    | refine T.pickB rfl rfl rfl ?_
    | refine AW.retI ?_)
  refine hQ _ _ _ rfl (WeakV.cE rfl ?_)
  simp
end Go.Proofs.Ytcgjmkbajjngaaa.Calc
