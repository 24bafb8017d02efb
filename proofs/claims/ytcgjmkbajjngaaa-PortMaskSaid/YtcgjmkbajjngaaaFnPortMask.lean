/- The contract of PortMask: it returns true. Condition: none on its three numbers. -/
import Derived.Test.YtcgjmkbajjngaaaFnPort
namespace Go.Proofs.Ytcgjmkbajjngaaa.Calc
open Go Code
set_option linter.unusedSimpArgs false
set_option linter.unusedVariables false
set_option maxRecDepth 20000
attribute [local irreducible] WOpsT AW
theorem place_ok (i n : Int) : FnE Try.prog 60 [I i, I n] [] (.tup [I (wd i), I (max 0 (min n (62 - wd i)))]) [] := by
  refine fnI Try.func60 k60 (Nat.le_of_ble_eq_true rfl) q60 fun Q hQ => ?_
  rw [c60]
  have h3 := wd_le i
  repeat (first
    | refine T.call0 enters61 rfl (width_ok _) ?_
    | refine AW.regS fun K hK => ?_
    | refine AW.dregS fun K hK => ?_
    | refine AW.regN fun K hK => ?_
    | refine AW.dregN fun K hK => ?_
    | simp only [T.mv, AO.ev, put, lk, enter, reduceIte, Nat.reduceEqDiff, Nat.reduceAdd, Nat.reduceMul, Nat.reduceSub, ren_c, ren_tup, ren_agg, ren_sl, List.map, Int.reduceNeg, Int.toNat_zero, Nat.zero_add, Nat.add_zero, List.length_cons, List.length_nil, List.nil_append, List.cons_append, List.set_cons_zero, List.set_cons_succ, Int.reduceToNat, List.take_zero, upto, ren_psl, ren_ptr, List.getElem?_cons_zero, List.getElem?_cons_succ, renB, cells_ren]
    | refine T.nil ?_
    | (first | refine hK _ _ _ (by rfl) ?_ | refine hK _ _ _ ?_); simp only [keep, List.map, lk, reduceIte, Nat.reduceEqDiff, enter]; clear hK; clear K
    | refine T.add rfl rfl (by omega) (by omega) ?_
    | refine T.sub rfl rfl (by omega) (by omega) ?_
    | refine T.bin rfl rfl rfl ?_
    | refine T.rem rfl rfl (by omega) ?_
    | refine T.quo rfl rfl (by omega) ?_
    | refine T.shl rfl rfl (by omega) ?_
    | refine T.shr rfl rfl (by omega) ?_
    | refine T.min2 rfl rfl rfl ?_
    | refine T.max2 rfl rfl rfl ?_
    | refine T.ext rfl rfl ?_
    | refine T.lenc ?_
    | refine T.not rfl ?_
    | refine T.cvt rfl ?_
    | refine T.ld rfl rfl rfl rfl rfl ?_
    | refine T.ldd rfl rfl ?_
    | refine T.ldn rfl rfl rfl rfl (Nat.le_of_ble_eq_true rfl) ?_
    | refine T.lddn rfl (Nat.le_of_ble_eq_true rfl) ?_
    | refine T.fad rfl rfl rfl ?_
    | refine T.fadd rfl ?_
    | refine T.nilc rfl rfl rfl ?_
    | refine T.nilcd rfl ?_
    | refine T.st rfl rfl rfl ⟨rfl, rfl⟩ rfl (Nat.le_of_ble_eq_true rfl) ?_
    | refine T.fld rfl rfl ?_
    | refine T.new rfl ⟨rfl, by decide⟩ ?_
    | refine T.zero (by decide) ?_
    | refine T.build rfl ?_
    | refine T.len rfl rfl rfl ?_
    | refine T.lenS rfl ?_
    | refine T.lenN rfl ?_
    | refine T.mkf ?_
    | refine T.mki ?_
    | refine T.mksl rfl rfl (by decide) ?_
    | refine T.copy rfl rfl rfl ⟨rfl, rfl⟩ ?_
    | refine T.idx rfl rfl rfl ⟨rfl, rfl⟩ (by omega) ?_
    | refine T.idxa rfl rfl rfl rfl (by omega) ?_
    | refine T.idxd rfl rfl (by omega) ?_
    | refine T.bsl rfl (by decide) ?_
    | refine T.slc rfl rfl rfl rfl ⟨rfl, rfl⟩ (by omega) ?_
    | refine T.go rfl rfl ?_
    | refine T.pass rfl rfl ?_
    | refine T.pickB rfl rfl rfl ?_
    | refine AW.retI ?_)
  exact hQ _ _ _ rfl (WeakV.tup2 rfl rfl rfl)
theorem enters60 : enters Try.prog 60 = true := by kernel_rfl
theorem bit_lo (v : Int) (i w : Nat) (hi : i < w) : v % 2 ^ w / 2 ^ i % 2 = v / 2 ^ i % 2 := by
  obtain ⟨k, rfl⟩ : ∃ k, w = i + (k + 1) := ⟨w - i - 1, by omega⟩
  have h := Int.emod_add_mul_ediv v (2 ^ (i + (k + 1)))
  have hp := pow_pos' i
  conv => rhs; rw [← h]
  rw [Int.pow_add, Int.mul_assoc, Int.add_mul_ediv_left _ _ (by omega), Int.pow_succ, Int.mul_comm (2 ^ k) 2, Int.mul_assoc]
  rw [Int.add_mul_emod_self_left]
theorem get1_ok (v : Int) (i : Nat) (hi : i < 62) : FnE Try.prog 18 [I v, I i, I 1] [] (I (BA.bitAt v i)) [] := by
  refine fnI Try.func18 k18 (Nat.le_of_ble_eq_true rfl) q18 fun Q hQ => ?_
  rw [c18]
  have hP := place_ok i 1
  rw [wdN i (by omega), show max 0 (min (1 : Int) (62 - (i : Int))) = ((1 : Nat) : Int) by omega] at hP
  repeat (first
    | refine T.call0 enters60 rfl hP ?_
    | refine T.call0 enters19 rfl (lowN_ok _ 62 (by decide)) ?_
    | refine T.call0 enters19 rfl (lowN_ok _ 1 (by decide)) ?_
    | refine AW.regS fun K hK => ?_
    | refine AW.dregS fun K hK => ?_
    | refine AW.regN fun K hK => ?_
    | refine AW.dregN fun K hK => ?_
    | simp only [T.mv, AO.ev, put, lk, enter, reduceIte, Nat.reduceEqDiff, Nat.reduceAdd, Nat.reduceMul, Nat.reduceSub, ren_c, ren_tup, ren_agg, ren_sl, List.map, Int.reduceNeg, Int.toNat_zero, Nat.zero_add, Nat.add_zero, List.length_cons, List.length_nil, List.nil_append, List.cons_append, List.set_cons_zero, List.set_cons_succ, Int.reduceToNat, List.take_zero, upto, ren_psl, ren_ptr, List.getElem?_cons_zero, List.getElem?_cons_succ, renB, cells_ren]
    | refine T.nil ?_
    | (first | refine hK _ _ _ (by rfl) ?_ | refine hK _ _ _ ?_); simp only [keep, List.map, lk, reduceIte, Nat.reduceEqDiff, enter]; clear hK; clear K
    | refine T.add rfl rfl (by omega) (by omega) ?_
    | refine T.sub rfl rfl (by omega) (by omega) ?_
    | refine T.bin rfl rfl rfl ?_
    | refine T.rem rfl rfl (by omega) ?_
    | refine T.quo rfl rfl (by omega) ?_
    | refine T.shl rfl rfl (by omega) ?_
    | refine T.shr rfl rfl (by omega) ?_
    | refine T.min2 rfl rfl rfl ?_
    | refine T.max2 rfl rfl rfl ?_
    | refine T.ext rfl rfl ?_
    | refine T.lenc ?_
    | refine T.not rfl ?_
    | refine T.cvt rfl ?_
    | refine T.ld rfl rfl rfl rfl rfl ?_
    | refine T.ldd rfl rfl ?_
    | refine T.ldn rfl rfl rfl rfl (Nat.le_of_ble_eq_true rfl) ?_
    | refine T.lddn rfl (Nat.le_of_ble_eq_true rfl) ?_
    | refine T.fad rfl rfl rfl ?_
    | refine T.fadd rfl ?_
    | refine T.nilc rfl rfl rfl ?_
    | refine T.nilcd rfl ?_
    | refine T.st rfl rfl rfl ⟨rfl, rfl⟩ rfl (Nat.le_of_ble_eq_true rfl) ?_
    | refine T.fld rfl rfl ?_
    | refine T.new rfl ⟨rfl, by decide⟩ ?_
    | refine T.zero (by decide) ?_
    | refine T.build rfl ?_
    | refine T.len rfl rfl rfl ?_
    | refine T.lenS rfl ?_
    | refine T.lenN rfl ?_
    | refine T.mkf ?_
    | refine T.mki ?_
    | refine T.mksl rfl rfl (by decide) ?_
    | refine T.copy rfl rfl rfl ⟨rfl, rfl⟩ ?_
    | refine T.idx rfl rfl rfl ⟨rfl, rfl⟩ (by omega) ?_
    | refine T.idxa rfl rfl rfl rfl (by omega) ?_
    | refine T.idxd rfl rfl (by omega) ?_
    | refine T.bsl rfl (by decide) ?_
    | refine T.slc rfl rfl rfl rfl ⟨rfl, rfl⟩ (by omega) ?_
    | refine T.go rfl rfl ?_
    | refine T.pass rfl rfl ?_
    | refine T.pickB rfl rfl rfl ?_
    | refine AW.retI ?_)
  refine hQ _ _ _ rfl (WeakV.cE rfl ?_)
  rw [min64 i (by omega), BA.bitAt_cast, Int.pow_one, bit_lo v i 62 hi]
theorem enters18 : enters Try.prog 18 = true := by kernel_rfl
theorem bitAt_nat (n i : Nat) : BA.bitAt (n : Int) i = if n.testBit i then 1 else 0 := by
  have h := BA.bitAt_cast n i
  have e : ((n : Int) / 2 ^ i % 2) = ((n / 2 ^ i % 2 : Nat) : Int) := by
    rw [Int.natCast_emod, Int.natCast_ediv, Int.natCast_pow]; rfl
  rw [e] at h
  have h2 : BA.bitAt (n : Int) i = n / 2 ^ i % 2 := by omega
  rw [h2, Nat.testBit_eq_decide_div_mod_eq]
  by_cases h3 : n / 2 ^ i % 2 = 1
  · simp [h3]
  · simp [h3]; omega
theorem bitAt_byte (v : Int) (i : Nat) (hi : i < 8) : BA.bitAt (byte v) i = BA.bitAt v i := by
  have h1 := BA.bitAt_cast (byte v) i
  have h2 := BA.bitAt_cast v i
  rw [bit_lo v i 8 hi] at h1
  omega
theorem byte_byte (v : Int) : byte (byte v) = byte v := by simp [byte]
theorem byteN (v : Int) : ∃ a : Nat, byte v = (a : Int) ∧ a < 256 := modN v 8
/-- What is read, bit by bit. -/
theorem read_bit (d w m : Int) (i : Nat) (hi : i < 8) : BA.bitAt (bits .or .i64 (bits .and .i64 (byte w) (byte m)) (bits .andNot .i64 (byte d) (byte m))) i = if BA.bitAt m i = 1 then BA.bitAt w i else BA.bitAt d i := by
  rw [← bitAt_byte m i hi, ← bitAt_byte w i hi, ← bitAt_byte d i hi]
  obtain ⟨D, hD, hD2⟩ := byteN d
  obtain ⟨W, hW, hW2⟩ := byteN w
  obtain ⟨M, hM, hM2⟩ := byteN m
  rw [hD, hW, hM, BA.and_nat _ _ (by omega) (by omega), BA.andn_nat _ _ (by omega) (by omega)]
  have h1 : W &&& M < 2 ^ 8 := Nat.and_lt_two_pow _ (by omega)
  have h2 := BA.andn_le D M 8 (by omega)
  rw [BA.or_nat _ _ (by omega) (by omega)]
  simp only [bitAt_nat, Nat.testBit_or, Nat.testBit_and, BA.andn_bit]
  cases D.testBit i <;> cases W.testBit i <;> cases M.testBit i <;> rfl
theorem out_bit (w m : Int) (i : Nat) (hi : i < 8) : BA.bitAt (bits .and .i64 (byte w) (byte m)) i = if BA.bitAt m i = 1 then BA.bitAt w i else 0 := by
  rw [← bitAt_byte m i hi, ← bitAt_byte w i hi]
  obtain ⟨W, hW, hW2⟩ := byteN w
  obtain ⟨M, hM, hM2⟩ := byteN m
  rw [hW, hM, BA.and_nat _ _ (by omega) (by omega)]
  simp only [bitAt_nat, Nat.testBit_and]
  cases W.testBit i <;> cases M.testBit i <;> rfl
theorem read_lt (d w m : Int) : bits .or .i64 (bits .and .i64 (byte w) (byte m)) (bits .andNot .i64 (byte d) (byte m)) < 256 := by
  obtain ⟨D, hD, hD2⟩ := byteN d
  obtain ⟨W, hW, hW2⟩ := byteN w
  obtain ⟨M, hM, hM2⟩ := byteN m
  rw [hD, hW, hM, BA.and_nat _ _ (by omega) (by omega), BA.andn_nat _ _ (by omega) (by omega)]
  have h1 : W &&& M < 2 ^ 8 := Nat.and_lt_two_pow _ (by omega)
  have h2 := BA.andn_le D M 8 (by omega)
  rw [BA.or_nat _ _ (by omega) (by omega)]
  have := Nat.or_lt_two_pow h1 h2
  omega
theorem out_lt (w m : Int) : bits .and .i64 (byte w) (byte m) < 256 := by
  obtain ⟨W, hW, hW2⟩ := byteN w
  obtain ⟨M, hM, hM2⟩ := byteN m
  rw [hW, hM, BA.and_nat _ _ (by omega) (by omega)]
  have h1 : W &&& M < 2 ^ 8 := Nat.and_lt_two_pow _ (by omega)
  omega
theorem AW.gen {P : Program} {k : Nat} {c : AC} {Q : Exit → Fr → List Blk → Prop} {fr : Fr} {h : List Blk} (hA : ∀ H0, AW P k c Q fr H0) : AW P k c Q fr h := hA h
theorem portMask_ok (d w m : Int) : FnE Try.prog 9 [I d, I w, I m] [] (.c (.bool true)) [] := by
  refine fnI Try.func9 k9 (Nat.le_of_ble_eq_true rfl) q9 fun Q hQ => ?_
  rw [c9]
  have e1 := portwrite0_ok 255 0 0 w
  have e2 := portwrite1_ok (byte 255) (byte w) (byte 0) m
  have e3 := portin_ok (byte (byte 255)) (byte (byte w)) (byte m) d
  have e4 := portread_ok (byte d) (byte (byte (byte w))) (byte (byte m))
  have e5 := portout_ok (byte d) (byte (byte (byte w))) (byte (byte m))
  simp only [byte_byte] at e2 e3 e4 e5
  repeat (first
    | refine T.call0 enters38 rfl portnew_ok ?_
    | refine T.call0 enters37 rfl e1 ?_
    | refine T.call0 enters37 rfl e2 ?_
    | refine T.call0 enters36 rfl e3 ?_
    | refine T.call0 enters39 rfl e4 ?_
    | refine T.call0 enters40 rfl e5 ?_
    | refine AW.regS fun K hK => ?_
    | refine AW.dregS fun K hK => ?_
    | refine AW.regN fun K hK => ?_
    | refine AW.dregN fun K hK => ?_
    | simp only [T.mv, AO.ev, put, lk, enter, reduceIte, Nat.reduceEqDiff, Nat.reduceAdd, Nat.reduceMul, Nat.reduceSub, ren_c, ren_tup, ren_agg, ren_sl, List.map, Int.reduceNeg, Int.toNat_zero, Nat.zero_add, Nat.add_zero, List.length_cons, List.length_nil, List.nil_append, List.cons_append, List.set_cons_zero, List.set_cons_succ, Int.reduceToNat, List.take_zero, upto, ren_psl, ren_ptr, List.getElem?_cons_zero, List.getElem?_cons_succ, renB, cells_ren]
    | refine T.nil ?_
    | (first | refine hK _ _ _ (by rfl) ?_ | refine hK _ _ _ ?_); simp only [keep, List.map, lk, reduceIte, Nat.reduceEqDiff, enter]; clear hK; clear K
    | refine T.add rfl rfl (by omega) (by omega) ?_
    | refine T.sub rfl rfl (by omega) (by omega) ?_
    | refine T.bin rfl rfl rfl ?_
    | refine T.rem rfl rfl (by omega) ?_
    | refine T.quo rfl rfl (by omega) ?_
    | refine T.shl rfl rfl (by omega) ?_
    | refine T.shr rfl rfl (by omega) ?_
    | refine T.min2 rfl rfl rfl ?_
    | refine T.max2 rfl rfl rfl ?_
    | refine T.ext rfl rfl ?_
    | refine T.lenc ?_
    | refine T.not rfl ?_
    | refine T.cvt rfl ?_
    | refine T.ld rfl rfl rfl rfl rfl ?_
    | refine T.ldd rfl rfl ?_
    | refine T.ldn rfl rfl rfl rfl (Nat.le_of_ble_eq_true rfl) ?_
    | refine T.lddn rfl (Nat.le_of_ble_eq_true rfl) ?_
    | refine T.fad rfl rfl rfl ?_
    | refine T.fadd rfl ?_
    | refine T.nilc rfl rfl rfl ?_
    | refine T.nilcd rfl ?_
    | refine T.st rfl rfl rfl ⟨rfl, rfl⟩ rfl (Nat.le_of_ble_eq_true rfl) ?_
    | refine T.fld rfl rfl ?_
    | refine T.new rfl ⟨rfl, by decide⟩ ?_
    | refine T.zero (by decide) ?_
    | refine T.build rfl ?_
    | refine T.len rfl rfl rfl ?_
    | refine T.lenS rfl ?_
    | refine T.lenN rfl ?_
    | refine T.mkf ?_
    | refine T.mki ?_
    | refine T.mksl rfl rfl (by decide) ?_
    | refine T.copy rfl rfl rfl ⟨rfl, rfl⟩ ?_
    | refine T.idx rfl rfl rfl ⟨rfl, rfl⟩ (by omega) ?_
    | refine T.idxa rfl rfl rfl rfl (by omega) ?_
    | refine T.idxd rfl rfl (by omega) ?_
    | refine T.bsl rfl (by decide) ?_
    | refine T.slc rfl rfl rfl rfl ⟨rfl, rfl⟩ (by omega) ?_
    | refine T.go rfl rfl ?_
    | refine T.pass rfl rfl ?_
    | refine T.pickB rfl rfl rfl ?_
    | refine AW.retI ?_)
  refine AW.seqI fun Q1 hN hX hR => ?_
  repeat (first
    | refine AW.regS fun K hK => ?_
    | refine AW.dregS fun K hK => ?_
    | refine AW.regN fun K hK => ?_
    | refine AW.dregN fun K hK => ?_
    | simp only [T.mv, AO.ev, put, lk, enter, reduceIte, Nat.reduceEqDiff, Nat.reduceAdd, Nat.reduceMul, Nat.reduceSub, ren_c, ren_tup, ren_agg, ren_sl, List.map, Int.reduceNeg, Int.toNat_zero, Nat.zero_add, Nat.add_zero, List.length_cons, List.length_nil, List.nil_append, List.cons_append, List.set_cons_zero, List.set_cons_succ, Int.reduceToNat, List.take_zero, upto, ren_psl, ren_ptr, List.getElem?_cons_zero, List.getElem?_cons_succ, renB, cells_ren]
    | refine T.nil ?_
    | (first | refine hK _ _ _ (by rfl) ?_ | refine hK _ _ _ ?_); simp only [keep, List.map, lk, reduceIte, Nat.reduceEqDiff, enter]; clear hK; clear K
    | refine T.add rfl rfl (by omega) (by omega) ?_
    | refine T.sub rfl rfl (by omega) (by omega) ?_
    | refine T.bin rfl rfl rfl ?_
    | refine T.rem rfl rfl (by omega) ?_
    | refine T.quo rfl rfl (by omega) ?_
    | refine T.shl rfl rfl (by omega) ?_
    | refine T.shr rfl rfl (by omega) ?_
    | refine T.min2 rfl rfl rfl ?_
    | refine T.max2 rfl rfl rfl ?_
    | refine T.ext rfl rfl ?_
    | refine T.lenc ?_
    | refine T.not rfl ?_
    | refine T.cvt rfl ?_
    | refine T.ld rfl rfl rfl rfl rfl ?_
    | refine T.ldd rfl rfl ?_
    | refine T.ldn rfl rfl rfl rfl (Nat.le_of_ble_eq_true rfl) ?_
    | refine T.lddn rfl (Nat.le_of_ble_eq_true rfl) ?_
    | refine T.fad rfl rfl rfl ?_
    | refine T.fadd rfl ?_
    | refine T.nilc rfl rfl rfl ?_
    | refine T.nilcd rfl ?_
    | refine T.st rfl rfl rfl ⟨rfl, rfl⟩ rfl (Nat.le_of_ble_eq_true rfl) ?_
    | refine T.fld rfl rfl ?_
    | refine T.new rfl ⟨rfl, by decide⟩ ?_
    | refine T.zero (by decide) ?_
    | refine T.build rfl ?_
    | refine T.len rfl rfl rfl ?_
    | refine T.lenS rfl ?_
    | refine T.lenN rfl ?_
    | refine T.mkf ?_
    | refine T.mki ?_
    | refine T.mksl rfl rfl (by decide) ?_
    | refine T.copy rfl rfl rfl ⟨rfl, rfl⟩ ?_
    | refine T.idx rfl rfl rfl ⟨rfl, rfl⟩ (by omega) ?_
    | refine T.idxa rfl rfl rfl rfl (by omega) ?_
    | refine T.idxd rfl rfl (by omega) ?_
    | refine T.bsl rfl (by decide) ?_
    | refine T.slc rfl rfl rfl rfl ⟨rfl, rfl⟩ (by omega) ?_
    | refine T.go rfl rfl ?_
    | refine T.pass rfl rfl ?_
    | refine T.pickB rfl rfl rfl ?_
    | refine AW.retI ?_)
  refine AW.blockI fun Q2 gN gE gX gR => ?_
  have hrb := read_bit d w m
  have hob := out_bit w m
  have hrl := read_lt d w m
  have hol := out_lt w m
  generalize bits .or .i64 (bits .and .i64 (byte w) (byte m)) (bits .andNot .i64 (byte d) (byte m)) = r at hrb hrl ⊢
  generalize bits .and .i64 (byte w) (byte m) = o at hob hol ⊢
  refine AW.gen fun H0 => ?_
  refine AW.loopS (σ := Nat) (fun i => [(0, I d), (1, I w), (2, I m), (6, .any), (7, .any), (9, I r), (10, I o), (11, .any), (12, .any), (13, .any), (28, I i), (29, .any), (37, .any), (53, .any)]) (fun _ => H0) (fun i => i ≤ 8) (fun i => 8 - i) 0 (Nat.zero_le _) ?_ fun i hi Q3 lN lX lR => ?_
  · exact Weak.list ⟨rfl, .inr rfl, rfl, .inr rfl, rfl, .inr rfl, rfl, .inl rfl, rfl, .inl rfl, rfl, .inr rfl, rfl, .inr rfl, rfl, .inl rfl, rfl, .inl rfl, rfl, .inl rfl, rfl, .inr rfl, rfl, .inl rfl, rfl, .inl rfl, rfl, .inl rfl, trivial⟩ rfl
  · skip
    repeat (first
      | refine AW.regS fun K hK => ?_
      | refine AW.dregS fun K hK => ?_
      | refine AW.regN fun K hK => ?_
      | refine AW.dregN fun K hK => ?_
      | simp only [T.mv, AO.ev, put, lk, enter, reduceIte, Nat.reduceEqDiff, Nat.reduceAdd, Nat.reduceMul, Nat.reduceSub, ren_c, ren_tup, ren_agg, ren_sl, List.map, Int.reduceNeg, Int.toNat_zero, Nat.zero_add, Nat.add_zero, List.length_cons, List.length_nil, List.nil_append, List.cons_append, List.set_cons_zero, List.set_cons_succ, Int.reduceToNat, List.take_zero, upto, ren_psl, ren_ptr, List.getElem?_cons_zero, List.getElem?_cons_succ, renB, cells_ren]
      | refine T.nil ?_
      | (first | refine hK _ _ _ (by rfl) ?_ | refine hK _ _ _ ?_); simp only [keep, List.map, lk, reduceIte, Nat.reduceEqDiff, enter]; clear hK; clear K
      | refine T.add rfl rfl (by omega) (by omega) ?_
      | refine T.sub rfl rfl (by omega) (by omega) ?_
      | refine T.bin rfl rfl rfl ?_
      | refine T.rem rfl rfl (by omega) ?_
      | refine T.quo rfl rfl (by omega) ?_
      | refine T.shl rfl rfl (by omega) ?_
      | refine T.shr rfl rfl (by omega) ?_
      | refine T.min2 rfl rfl rfl ?_
      | refine T.max2 rfl rfl rfl ?_
      | refine T.ext rfl rfl ?_
      | refine T.lenc ?_
      | refine T.not rfl ?_
      | refine T.cvt rfl ?_
      | refine T.ld rfl rfl rfl rfl rfl ?_
      | refine T.ldd rfl rfl ?_
      | refine T.ldn rfl rfl rfl rfl (Nat.le_of_ble_eq_true rfl) ?_
      | refine T.lddn rfl (Nat.le_of_ble_eq_true rfl) ?_
      | refine T.fad rfl rfl rfl ?_
      | refine T.fadd rfl ?_
      | refine T.nilc rfl rfl rfl ?_
      | refine T.nilcd rfl ?_
      | refine T.st rfl rfl rfl ⟨rfl, rfl⟩ rfl (Nat.le_of_ble_eq_true rfl) ?_
      | refine T.fld rfl rfl ?_
      | refine T.new rfl ⟨rfl, by decide⟩ ?_
      | refine T.zero (by decide) ?_
      | refine T.build rfl ?_
      | refine T.len rfl rfl rfl ?_
      | refine T.lenS rfl ?_
      | refine T.lenN rfl ?_
      | refine T.mkf ?_
      | refine T.mki ?_
      | refine T.mksl rfl rfl (by decide) ?_
      | refine T.copy rfl rfl rfl ⟨rfl, rfl⟩ ?_
      | refine T.idx rfl rfl rfl ⟨rfl, rfl⟩ (by omega) ?_
      | refine T.idxa rfl rfl rfl rfl (by omega) ?_
      | refine T.idxd rfl rfl (by omega) ?_
      | refine T.bsl rfl (by decide) ?_
      | refine T.slc rfl rfl rfl rfl ⟨rfl, rfl⟩ (by omega) ?_
      | refine T.go rfl rfl ?_
      | refine T.pass rfl rfl ?_
      | refine T.pickB rfl rfl rfl ?_
      | refine AW.retI ?_)
    refine AW.seqI fun Q4 hN4 hX4 hR4 => ?_
    refine AW.condB rfl (fun hb => ?_) (fun hb => ?_)
    · have hb := of_decide_eq_true hb
      have hi8 : i < 8 := by omega
      have hr := get1_ok r i (by omega)
      have ho := get1_ok o i (by omega)
      rw [hrb i hi8] at hr
      rw [hob i hi8] at ho
      refine AW.skipI (hN4 _ _ ?_)
      refine AW.seqI fun Q5 hN5 hX5 hR5 => ?_
      refine AW.blockI fun Q6 gN6 gE6 gX6 gR6 => ?_
      repeat (first
        | refine T.call0 enters18 rfl (get1_ok _ i (by omega)) ?_
        | refine AW.regS fun K hK => ?_
        | refine AW.dregS fun K hK => ?_
        | refine AW.regN fun K hK => ?_
        | refine AW.dregN fun K hK => ?_
        | simp only [T.mv, AO.ev, put, lk, enter, reduceIte, Nat.reduceEqDiff, Nat.reduceAdd, Nat.reduceMul, Nat.reduceSub, ren_c, ren_tup, ren_agg, ren_sl, List.map, Int.reduceNeg, Int.toNat_zero, Nat.zero_add, Nat.add_zero, List.length_cons, List.length_nil, List.nil_append, List.cons_append, List.set_cons_zero, List.set_cons_succ, Int.reduceToNat, List.take_zero, upto, ren_psl, ren_ptr, List.getElem?_cons_zero, List.getElem?_cons_succ, renB, cells_ren]
        | refine T.nil ?_
        | (first | refine hK _ _ _ (by rfl) ?_ | refine hK _ _ _ ?_); simp only [keep, List.map, lk, reduceIte, Nat.reduceEqDiff, enter]; clear hK; clear K
        | refine T.add rfl rfl (by omega) (by omega) ?_
        | refine T.sub rfl rfl (by omega) (by omega) ?_
        | refine T.bin rfl rfl rfl ?_
        | refine T.rem rfl rfl (by omega) ?_
        | refine T.quo rfl rfl (by omega) ?_
        | refine T.shl rfl rfl (by omega) ?_
        | refine T.shr rfl rfl (by omega) ?_
        | refine T.min2 rfl rfl rfl ?_
        | refine T.max2 rfl rfl rfl ?_
        | refine T.ext rfl rfl ?_
        | refine T.lenc ?_
        | refine T.not rfl ?_
        | refine T.cvt rfl ?_
        | refine T.ld rfl rfl rfl rfl rfl ?_
        | refine T.ldd rfl rfl ?_
        | refine T.ldn rfl rfl rfl rfl (Nat.le_of_ble_eq_true rfl) ?_
        | refine T.lddn rfl (Nat.le_of_ble_eq_true rfl) ?_
        | refine T.fad rfl rfl rfl ?_
        | refine T.fadd rfl ?_
        | refine T.nilc rfl rfl rfl ?_
        | refine T.nilcd rfl ?_
        | refine T.st rfl rfl rfl ⟨rfl, rfl⟩ rfl (Nat.le_of_ble_eq_true rfl) ?_
        | refine T.fld rfl rfl ?_
        | refine T.new rfl ⟨rfl, by decide⟩ ?_
        | refine T.zero (by decide) ?_
        | refine T.build rfl ?_
        | refine T.len rfl rfl rfl ?_
        | refine T.lenS rfl ?_
        | refine T.lenN rfl ?_
        | refine T.mkf ?_
        | refine T.mki ?_
        | refine T.mksl rfl rfl (by decide) ?_
        | refine T.copy rfl rfl rfl ⟨rfl, rfl⟩ ?_
        | refine T.idx rfl rfl rfl ⟨rfl, rfl⟩ (by omega) ?_
        | refine T.idxa rfl rfl rfl rfl (by omega) ?_
        | refine T.idxd rfl rfl (by omega) ?_
        | refine T.bsl rfl (by decide) ?_
        | refine T.slc rfl rfl rfl rfl ⟨rfl, rfl⟩ (by omega) ?_
        | refine T.go rfl rfl ?_
        | refine T.pass rfl rfl ?_
        | refine T.pickB rfl rfl rfl ?_
        | refine AW.retI ?_)
      refine AW.seqI fun Q7 hN7 hX7 hR7 => ?_
      repeat (first
        | refine T.call0 enters18 rfl (get1_ok _ i (by omega)) ?_
        | refine AW.regS fun K hK => ?_
        | refine AW.dregS fun K hK => ?_
        | refine AW.regN fun K hK => ?_
        | refine AW.dregN fun K hK => ?_
        | simp only [T.mv, AO.ev, put, lk, enter, reduceIte, Nat.reduceEqDiff, Nat.reduceAdd, Nat.reduceMul, Nat.reduceSub, ren_c, ren_tup, ren_agg, ren_sl, List.map, Int.reduceNeg, Int.toNat_zero, Nat.zero_add, Nat.add_zero, List.length_cons, List.length_nil, List.nil_append, List.cons_append, List.set_cons_zero, List.set_cons_succ, Int.reduceToNat, List.take_zero, upto, ren_psl, ren_ptr, List.getElem?_cons_zero, List.getElem?_cons_succ, renB, cells_ren]
        | refine T.nil ?_
        | (first | refine hK _ _ _ (by rfl) ?_ | refine hK _ _ _ ?_); simp only [keep, List.map, lk, reduceIte, Nat.reduceEqDiff, enter]; clear hK; clear K
        | refine T.add rfl rfl (by omega) (by omega) ?_
        | refine T.sub rfl rfl (by omega) (by omega) ?_
        | refine T.bin rfl rfl rfl ?_
        | refine T.rem rfl rfl (by omega) ?_
        | refine T.quo rfl rfl (by omega) ?_
        | refine T.shl rfl rfl (by omega) ?_
        | refine T.shr rfl rfl (by omega) ?_
        | refine T.min2 rfl rfl rfl ?_
        | refine T.max2 rfl rfl rfl ?_
        | refine T.ext rfl rfl ?_
        | refine T.lenc ?_
        | refine T.not rfl ?_
        | refine T.cvt rfl ?_
        | refine T.ld rfl rfl rfl rfl rfl ?_
        | refine T.ldd rfl rfl ?_
        | refine T.ldn rfl rfl rfl rfl (Nat.le_of_ble_eq_true rfl) ?_
        | refine T.lddn rfl (Nat.le_of_ble_eq_true rfl) ?_
        | refine T.fad rfl rfl rfl ?_
        | refine T.fadd rfl ?_
        | refine T.nilc rfl rfl rfl ?_
        | refine T.nilcd rfl ?_
        | refine T.st rfl rfl rfl ⟨rfl, rfl⟩ rfl (Nat.le_of_ble_eq_true rfl) ?_
        | refine T.fld rfl rfl ?_
        | refine T.new rfl ⟨rfl, by decide⟩ ?_
        | refine T.zero (by decide) ?_
        | refine T.build rfl ?_
        | refine T.len rfl rfl rfl ?_
        | refine T.lenS rfl ?_
        | refine T.lenN rfl ?_
        | refine T.mkf ?_
        | refine T.mki ?_
        | refine T.mksl rfl rfl (by decide) ?_
        | refine T.copy rfl rfl rfl ⟨rfl, rfl⟩ ?_
        | refine T.idx rfl rfl rfl ⟨rfl, rfl⟩ (by omega) ?_
        | refine T.idxa rfl rfl rfl rfl (by omega) ?_
        | refine T.idxd rfl rfl (by omega) ?_
        | refine T.bsl rfl (by decide) ?_
        | refine T.slc rfl rfl rfl rfl ⟨rfl, rfl⟩ (by omega) ?_
        | refine T.go rfl rfl ?_
        | refine T.pass rfl rfl ?_
        | refine T.pickB rfl rfl rfl ?_
        | refine AW.retI ?_)
      by_cases hm : BA.bitAt m i = 1
      · rw [if_pos hm] at hr ho
        refine AW.condT rfl (decide_eq_true (by omega)) ?_
        repeat (first
          | refine T.call0 enters18 rfl (get1_ok _ i (by omega)) ?_
          | refine AW.regS fun K hK => ?_
          | refine AW.dregS fun K hK => ?_
          | refine AW.regN fun K hK => ?_
          | refine AW.dregN fun K hK => ?_
          | simp only [T.mv, AO.ev, put, lk, enter, reduceIte, Nat.reduceEqDiff, Nat.reduceAdd, Nat.reduceMul, Nat.reduceSub, ren_c, ren_tup, ren_agg, ren_sl, List.map, Int.reduceNeg, Int.toNat_zero, Nat.zero_add, Nat.add_zero, List.length_cons, List.length_nil, List.nil_append, List.cons_append, List.set_cons_zero, List.set_cons_succ, Int.reduceToNat, List.take_zero, upto, ren_psl, ren_ptr, List.getElem?_cons_zero, List.getElem?_cons_succ, renB, cells_ren]
          | refine T.nil ?_
          | (first | refine hK _ _ _ (by rfl) ?_ | refine hK _ _ _ ?_); simp only [keep, List.map, lk, reduceIte, Nat.reduceEqDiff, enter]; clear hK; clear K
          | refine T.add rfl rfl (by omega) (by omega) ?_
          | refine T.sub rfl rfl (by omega) (by omega) ?_
          | refine T.bin rfl rfl rfl ?_
          | refine T.rem rfl rfl (by omega) ?_
          | refine T.quo rfl rfl (by omega) ?_
          | refine T.shl rfl rfl (by omega) ?_
          | refine T.shr rfl rfl (by omega) ?_
          | refine T.min2 rfl rfl rfl ?_
          | refine T.max2 rfl rfl rfl ?_
          | refine T.ext rfl rfl ?_
          | refine T.lenc ?_
          | refine T.not rfl ?_
          | refine T.cvt rfl ?_
          | refine T.ld rfl rfl rfl rfl rfl ?_
          | refine T.ldd rfl rfl ?_
          | refine T.ldn rfl rfl rfl rfl (Nat.le_of_ble_eq_true rfl) ?_
          | refine T.lddn rfl (Nat.le_of_ble_eq_true rfl) ?_
          | refine T.fad rfl rfl rfl ?_
          | refine T.fadd rfl ?_
          | refine T.nilc rfl rfl rfl ?_
          | refine T.nilcd rfl ?_
          | refine T.st rfl rfl rfl ⟨rfl, rfl⟩ rfl (Nat.le_of_ble_eq_true rfl) ?_
          | refine T.fld rfl rfl ?_
          | refine T.new rfl ⟨rfl, by decide⟩ ?_
          | refine T.zero (by decide) ?_
          | refine T.build rfl ?_
          | refine T.len rfl rfl rfl ?_
          | refine T.lenS rfl ?_
          | refine T.lenN rfl ?_
          | refine T.mkf ?_
          | refine T.mki ?_
          | refine T.mksl rfl rfl (by decide) ?_
          | refine T.copy rfl rfl rfl ⟨rfl, rfl⟩ ?_
          | refine T.idx rfl rfl rfl ⟨rfl, rfl⟩ (by omega) ?_
          | refine T.idxa rfl rfl rfl rfl (by omega) ?_
          | refine T.idxd rfl rfl (by omega) ?_
          | refine T.bsl rfl (by decide) ?_
          | refine T.slc rfl rfl rfl rfl ⟨rfl, rfl⟩ (by omega) ?_
          | refine T.go rfl rfl ?_
          | refine T.pass rfl rfl ?_
          | refine T.pickB rfl rfl rfl ?_
          | refine AW.retI ?_)
        refine hN7 _ _ ?_
        repeat (first
          | refine T.call0 enters18 rfl hr ?_
          | refine T.call0 enters18 rfl ho ?_
          | refine T.go rfl (decide_eq_false (fun h => h rfl)) ?_
          | refine T.pickF rfl (decide_eq_false (fun h => h rfl)) ?_
          | refine AW.regS fun K hK => ?_
          | refine AW.dregS fun K hK => ?_
          | refine AW.regN fun K hK => ?_
          | refine AW.dregN fun K hK => ?_
          | simp only [T.mv, AO.ev, put, lk, enter, reduceIte, Nat.reduceEqDiff, Nat.reduceAdd, Nat.reduceMul, Nat.reduceSub, ren_c, ren_tup, ren_agg, ren_sl, List.map, Int.reduceNeg, Int.toNat_zero, Nat.zero_add, Nat.add_zero, List.length_cons, List.length_nil, List.nil_append, List.cons_append, List.set_cons_zero, List.set_cons_succ, Int.reduceToNat, List.take_zero, upto, ren_psl, ren_ptr, List.getElem?_cons_zero, List.getElem?_cons_succ, renB, cells_ren]
          | refine T.nil ?_
          | (first | refine hK _ _ _ (by rfl) ?_ | refine hK _ _ _ ?_); simp only [keep, List.map, lk, reduceIte, Nat.reduceEqDiff, enter]; clear hK; clear K
          | refine T.add rfl rfl (by omega) (by omega) ?_
          | refine T.sub rfl rfl (by omega) (by omega) ?_
          | refine T.bin rfl rfl rfl ?_
          | refine T.rem rfl rfl (by omega) ?_
          | refine T.quo rfl rfl (by omega) ?_
          | refine T.shl rfl rfl (by omega) ?_
          | refine T.shr rfl rfl (by omega) ?_
          | refine T.min2 rfl rfl rfl ?_
          | refine T.max2 rfl rfl rfl ?_
          | refine T.ext rfl rfl ?_
          | refine T.lenc ?_
          | refine T.not rfl ?_
          | refine T.cvt rfl ?_
          | refine T.ld rfl rfl rfl rfl rfl ?_
          | refine T.ldd rfl rfl ?_
          | refine T.ldn rfl rfl rfl rfl (Nat.le_of_ble_eq_true rfl) ?_
          | refine T.lddn rfl (Nat.le_of_ble_eq_true rfl) ?_
          | refine T.fad rfl rfl rfl ?_
          | refine T.fadd rfl ?_
          | refine T.nilc rfl rfl rfl ?_
          | refine T.nilcd rfl ?_
          | refine T.st rfl rfl rfl ⟨rfl, rfl⟩ rfl (Nat.le_of_ble_eq_true rfl) ?_
          | refine T.fld rfl rfl ?_
          | refine T.new rfl ⟨rfl, by decide⟩ ?_
          | refine T.zero (by decide) ?_
          | refine T.build rfl ?_
          | refine T.len rfl rfl rfl ?_
          | refine T.lenS rfl ?_
          | refine T.lenN rfl ?_
          | refine T.mkf ?_
          | refine T.mki ?_
          | refine T.mksl rfl rfl (by decide) ?_
          | refine T.copy rfl rfl rfl ⟨rfl, rfl⟩ ?_
          | refine T.idx rfl rfl rfl ⟨rfl, rfl⟩ (by omega) ?_
          | refine T.idxa rfl rfl rfl rfl (by omega) ?_
          | refine T.idxd rfl rfl (by omega) ?_
          | refine T.bsl rfl (by decide) ?_
          | refine T.slc rfl rfl rfl rfl ⟨rfl, rfl⟩ (by omega) ?_
          | refine T.go rfl rfl ?_
          | refine T.pass rfl rfl ?_
          | refine T.pickB rfl rfl rfl ?_
          | refine AW.retI ?_)
        refine AW.condF rfl (decide_eq_false (fun h => h rfl)) ?_
        refine AW.skipI (gN6 _ _ (hN5 _ _ ?_))
        repeat (first
          | refine AW.regS fun K hK => ?_
          | refine AW.dregS fun K hK => ?_
          | refine AW.regN fun K hK => ?_
          | refine AW.dregN fun K hK => ?_
          | simp only [T.mv, AO.ev, put, lk, enter, reduceIte, Nat.reduceEqDiff, Nat.reduceAdd, Nat.reduceMul, Nat.reduceSub, ren_c, ren_tup, ren_agg, ren_sl, List.map, Int.reduceNeg, Int.toNat_zero, Nat.zero_add, Nat.add_zero, List.length_cons, List.length_nil, List.nil_append, List.cons_append, List.set_cons_zero, List.set_cons_succ, Int.reduceToNat, List.take_zero, upto, ren_psl, ren_ptr, List.getElem?_cons_zero, List.getElem?_cons_succ, renB, cells_ren]
          | refine T.nil ?_
          | (first | refine hK _ _ _ (by rfl) ?_ | refine hK _ _ _ ?_); simp only [keep, List.map, lk, reduceIte, Nat.reduceEqDiff, enter]; clear hK; clear K
          | refine T.add rfl rfl (by omega) (by omega) ?_
          | refine T.sub rfl rfl (by omega) (by omega) ?_
          | refine T.bin rfl rfl rfl ?_
          | refine T.rem rfl rfl (by omega) ?_
          | refine T.quo rfl rfl (by omega) ?_
          | refine T.shl rfl rfl (by omega) ?_
          | refine T.shr rfl rfl (by omega) ?_
          | refine T.min2 rfl rfl rfl ?_
          | refine T.max2 rfl rfl rfl ?_
          | refine T.ext rfl rfl ?_
          | refine T.lenc ?_
          | refine T.not rfl ?_
          | refine T.cvt rfl ?_
          | refine T.ld rfl rfl rfl rfl rfl ?_
          | refine T.ldd rfl rfl ?_
          | refine T.ldn rfl rfl rfl rfl (Nat.le_of_ble_eq_true rfl) ?_
          | refine T.lddn rfl (Nat.le_of_ble_eq_true rfl) ?_
          | refine T.fad rfl rfl rfl ?_
          | refine T.fadd rfl ?_
          | refine T.nilc rfl rfl rfl ?_
          | refine T.nilcd rfl ?_
          | refine T.st rfl rfl rfl ⟨rfl, rfl⟩ rfl (Nat.le_of_ble_eq_true rfl) ?_
          | refine T.fld rfl rfl ?_
          | refine T.new rfl ⟨rfl, by decide⟩ ?_
          | refine T.zero (by decide) ?_
          | refine T.build rfl ?_
          | refine T.len rfl rfl rfl ?_
          | refine T.lenS rfl ?_
          | refine T.lenN rfl ?_
          | refine T.mkf ?_
          | refine T.mki ?_
          | refine T.mksl rfl rfl (by decide) ?_
          | refine T.copy rfl rfl rfl ⟨rfl, rfl⟩ ?_
          | refine T.idx rfl rfl rfl ⟨rfl, rfl⟩ (by omega) ?_
          | refine T.idxa rfl rfl rfl rfl (by omega) ?_
          | refine T.idxd rfl rfl (by omega) ?_
          | refine T.bsl rfl (by decide) ?_
          | refine T.slc rfl rfl rfl rfl ⟨rfl, rfl⟩ (by omega) ?_
          | refine T.go rfl rfl ?_
          | refine T.pass rfl rfl ?_
          | refine T.pickB rfl rfl rfl ?_
          | refine AW.retI ?_)
        refine lN _ _ (i + 1) (by omega) (by omega) ?_
        exact Weak.list ⟨rfl, .inr rfl, rfl, .inr rfl, rfl, .inr rfl, rfl, .inl rfl, rfl, .inl rfl, rfl, .inr rfl, rfl, .inr rfl, rfl, .inl rfl, rfl, .inl rfl, rfl, .inl rfl, rfl, .inr rfl, rfl, .inl rfl, rfl, .inl rfl, rfl, .inl rfl, trivial⟩ rfl
      · rw [if_neg hm] at hr ho
        refine AW.condF rfl (decide_eq_false (by omega)) ?_
        refine AW.skipI (hN7 _ _ ?_)
        repeat (first
          | refine T.call0 enters18 rfl hr ?_
          | refine T.call0 enters18 rfl ho ?_
          | refine T.go rfl (decide_eq_false (fun h => h rfl)) ?_
          | refine T.pickF rfl (decide_eq_false (fun h => h rfl)) ?_
          | refine AW.regS fun K hK => ?_
          | refine AW.dregS fun K hK => ?_
          | refine AW.regN fun K hK => ?_
          | refine AW.dregN fun K hK => ?_
          | simp only [T.mv, AO.ev, put, lk, enter, reduceIte, Nat.reduceEqDiff, Nat.reduceAdd, Nat.reduceMul, Nat.reduceSub, ren_c, ren_tup, ren_agg, ren_sl, List.map, Int.reduceNeg, Int.toNat_zero, Nat.zero_add, Nat.add_zero, List.length_cons, List.length_nil, List.nil_append, List.cons_append, List.set_cons_zero, List.set_cons_succ, Int.reduceToNat, List.take_zero, upto, ren_psl, ren_ptr, List.getElem?_cons_zero, List.getElem?_cons_succ, renB, cells_ren]
          | refine T.nil ?_
          | (first | refine hK _ _ _ (by rfl) ?_ | refine hK _ _ _ ?_); simp only [keep, List.map, lk, reduceIte, Nat.reduceEqDiff, enter]; clear hK; clear K
          | refine T.add rfl rfl (by omega) (by omega) ?_
          | refine T.sub rfl rfl (by omega) (by omega) ?_
          | refine T.bin rfl rfl rfl ?_
          | refine T.rem rfl rfl (by omega) ?_
          | refine T.quo rfl rfl (by omega) ?_
          | refine T.shl rfl rfl (by omega) ?_
          | refine T.shr rfl rfl (by omega) ?_
          | refine T.min2 rfl rfl rfl ?_
          | refine T.max2 rfl rfl rfl ?_
          | refine T.ext rfl rfl ?_
          | refine T.lenc ?_
          | refine T.not rfl ?_
          | refine T.cvt rfl ?_
          | refine T.ld rfl rfl rfl rfl rfl ?_
          | refine T.ldd rfl rfl ?_
          | refine T.ldn rfl rfl rfl rfl (Nat.le_of_ble_eq_true rfl) ?_
          | refine T.lddn rfl (Nat.le_of_ble_eq_true rfl) ?_
          | refine T.fad rfl rfl rfl ?_
          | refine T.fadd rfl ?_
          | refine T.nilc rfl rfl rfl ?_
          | refine T.nilcd rfl ?_
          | refine T.st rfl rfl rfl ⟨rfl, rfl⟩ rfl (Nat.le_of_ble_eq_true rfl) ?_
          | refine T.fld rfl rfl ?_
          | refine T.new rfl ⟨rfl, by decide⟩ ?_
          | refine T.zero (by decide) ?_
          | refine T.build rfl ?_
          | refine T.len rfl rfl rfl ?_
          | refine T.lenS rfl ?_
          | refine T.lenN rfl ?_
          | refine T.mkf ?_
          | refine T.mki ?_
          | refine T.mksl rfl rfl (by decide) ?_
          | refine T.copy rfl rfl rfl ⟨rfl, rfl⟩ ?_
          | refine T.idx rfl rfl rfl ⟨rfl, rfl⟩ (by omega) ?_
          | refine T.idxa rfl rfl rfl rfl (by omega) ?_
          | refine T.idxd rfl rfl (by omega) ?_
          | refine T.bsl rfl (by decide) ?_
          | refine T.slc rfl rfl rfl rfl ⟨rfl, rfl⟩ (by omega) ?_
          | refine T.go rfl rfl ?_
          | refine T.pass rfl rfl ?_
          | refine T.pickB rfl rfl rfl ?_
          | refine AW.retI ?_)
        refine AW.condF rfl (decide_eq_false (fun h => h rfl)) ?_
        refine AW.skipI (gN6 _ _ (hN5 _ _ ?_))
        repeat (first
          | refine AW.regS fun K hK => ?_
          | refine AW.dregS fun K hK => ?_
          | refine AW.regN fun K hK => ?_
          | refine AW.dregN fun K hK => ?_
          | simp only [T.mv, AO.ev, put, lk, enter, reduceIte, Nat.reduceEqDiff, Nat.reduceAdd, Nat.reduceMul, Nat.reduceSub, ren_c, ren_tup, ren_agg, ren_sl, List.map, Int.reduceNeg, Int.toNat_zero, Nat.zero_add, Nat.add_zero, List.length_cons, List.length_nil, List.nil_append, List.cons_append, List.set_cons_zero, List.set_cons_succ, Int.reduceToNat, List.take_zero, upto, ren_psl, ren_ptr, List.getElem?_cons_zero, List.getElem?_cons_succ, renB, cells_ren]
          | refine T.nil ?_
          | (first | refine hK _ _ _ (by rfl) ?_ | refine hK _ _ _ ?_); simp only [keep, List.map, lk, reduceIte, Nat.reduceEqDiff, enter]; clear hK; clear K
          | refine T.add rfl rfl (by omega) (by omega) ?_
          | refine T.sub rfl rfl (by omega) (by omega) ?_
          | refine T.bin rfl rfl rfl ?_
          | refine T.rem rfl rfl (by omega) ?_
          | refine T.quo rfl rfl (by omega) ?_
          | refine T.shl rfl rfl (by omega) ?_
          | refine T.shr rfl rfl (by omega) ?_
          | refine T.min2 rfl rfl rfl ?_
          | refine T.max2 rfl rfl rfl ?_
          | refine T.ext rfl rfl ?_
          | refine T.lenc ?_
          | refine T.not rfl ?_
          | refine T.cvt rfl ?_
          | refine T.ld rfl rfl rfl rfl rfl ?_
          | refine T.ldd rfl rfl ?_
          | refine T.ldn rfl rfl rfl rfl (Nat.le_of_ble_eq_true rfl) ?_
          | refine T.lddn rfl (Nat.le_of_ble_eq_true rfl) ?_
          | refine T.fad rfl rfl rfl ?_
          | refine T.fadd rfl ?_
          | refine T.nilc rfl rfl rfl ?_
          | refine T.nilcd rfl ?_
          | refine T.st rfl rfl rfl ⟨rfl, rfl⟩ rfl (Nat.le_of_ble_eq_true rfl) ?_
          | refine T.fld rfl rfl ?_
          | refine T.new rfl ⟨rfl, by decide⟩ ?_
          | refine T.zero (by decide) ?_
          | refine T.build rfl ?_
          | refine T.len rfl rfl rfl ?_
          | refine T.lenS rfl ?_
          | refine T.lenN rfl ?_
          | refine T.mkf ?_
          | refine T.mki ?_
          | refine T.mksl rfl rfl (by decide) ?_
          | refine T.copy rfl rfl rfl ⟨rfl, rfl⟩ ?_
          | refine T.idx rfl rfl rfl ⟨rfl, rfl⟩ (by omega) ?_
          | refine T.idxa rfl rfl rfl rfl (by omega) ?_
          | refine T.idxd rfl rfl (by omega) ?_
          | refine T.bsl rfl (by decide) ?_
          | refine T.slc rfl rfl rfl rfl ⟨rfl, rfl⟩ (by omega) ?_
          | refine T.go rfl rfl ?_
          | refine T.pass rfl rfl ?_
          | refine T.pickB rfl rfl rfl ?_
          | refine AW.retI ?_)
        refine lN _ _ (i + 1) (by omega) (by omega) ?_
        exact Weak.list ⟨rfl, .inr rfl, rfl, .inr rfl, rfl, .inr rfl, rfl, .inl rfl, rfl, .inl rfl, rfl, .inr rfl, rfl, .inr rfl, rfl, .inl rfl, rfl, .inl rfl, rfl, .inl rfl, rfl, .inr rfl, rfl, .inl rfl, rfl, .inl rfl, rfl, .inl rfl, trivial⟩ rfl
    · refine AW.exitI (hX4 _ _ _ (lX _ _ _ (gE _ _ (hN _ _ ?_))))
      repeat (first
        | refine T.call0 enters41 rfl ports_ok ?_
        | refine T.go rfl (decide_eq_true (by omega)) ?_
        | refine T.pickT rfl rfl ?_
        | refine T.pickT rfl (decide_eq_true (by omega)) ?_
        | refine AW.regS fun K hK => ?_
        | refine AW.dregS fun K hK => ?_
        | refine AW.regN fun K hK => ?_
        | refine AW.dregN fun K hK => ?_
        | simp only [T.mv, AO.ev, put, lk, enter, reduceIte, Nat.reduceEqDiff, Nat.reduceAdd, Nat.reduceMul, Nat.reduceSub, ren_c, ren_tup, ren_agg, ren_sl, List.map, Int.reduceNeg, Int.toNat_zero, Nat.zero_add, Nat.add_zero, List.length_cons, List.length_nil, List.nil_append, List.cons_append, List.set_cons_zero, List.set_cons_succ, Int.reduceToNat, List.take_zero, upto, ren_psl, ren_ptr, List.getElem?_cons_zero, List.getElem?_cons_succ, renB, cells_ren]
        | refine T.nil ?_
        | (first | refine hK _ _ _ (by rfl) ?_ | refine hK _ _ _ ?_); simp only [keep, List.map, lk, reduceIte, Nat.reduceEqDiff, enter]; clear hK; clear K
        | refine T.add rfl rfl (by omega) (by omega) ?_
        | refine T.sub rfl rfl (by omega) (by omega) ?_
        | refine T.bin rfl rfl rfl ?_
        | refine T.rem rfl rfl (by omega) ?_
        | refine T.quo rfl rfl (by omega) ?_
        | refine T.shl rfl rfl (by omega) ?_
        | refine T.shr rfl rfl (by omega) ?_
        | refine T.min2 rfl rfl rfl ?_
        | refine T.max2 rfl rfl rfl ?_
        | refine T.ext rfl rfl ?_
        | refine T.lenc ?_
        | refine T.not rfl ?_
        | refine T.cvt rfl ?_
        | refine T.ld rfl rfl rfl rfl rfl ?_
        | refine T.ldd rfl rfl ?_
        | refine T.ldn rfl rfl rfl rfl (Nat.le_of_ble_eq_true rfl) ?_
        | refine T.lddn rfl (Nat.le_of_ble_eq_true rfl) ?_
        | refine T.fad rfl rfl rfl ?_
        | refine T.fadd rfl ?_
        | refine T.nilc rfl rfl rfl ?_
        | refine T.nilcd rfl ?_
        | refine T.st rfl rfl rfl ⟨rfl, rfl⟩ rfl (Nat.le_of_ble_eq_true rfl) ?_
        | refine T.fld rfl rfl ?_
        | refine T.new rfl ⟨rfl, by decide⟩ ?_
        | refine T.zero (by decide) ?_
        | refine T.build rfl ?_
        | refine T.len rfl rfl rfl ?_
        | refine T.lenS rfl ?_
        | refine T.lenN rfl ?_
        | refine T.mkf ?_
        | refine T.mki ?_
        | refine T.mksl rfl rfl (by decide) ?_
        | refine T.copy rfl rfl rfl ⟨rfl, rfl⟩ ?_
        | refine T.idx rfl rfl rfl ⟨rfl, rfl⟩ (by omega) ?_
        | refine T.idxa rfl rfl rfl rfl (by omega) ?_
        | refine T.idxd rfl rfl (by omega) ?_
        | refine T.bsl rfl (by decide) ?_
        | refine T.slc rfl rfl rfl rfl ⟨rfl, rfl⟩ (by omega) ?_
        | refine T.go rfl rfl ?_
        | refine T.pass rfl rfl ?_
        | refine T.pickB rfl rfl rfl ?_
        | refine AW.retI ?_)
      exact hQ _ _ _ rfl (WeakV.cE rfl (by rw [decide_eq_true hol]))
end Go.Proofs.Ytcgjmkbajjngaaa.Calc
