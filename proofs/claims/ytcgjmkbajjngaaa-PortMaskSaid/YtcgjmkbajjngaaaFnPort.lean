/- The contracts of package port's functions. Condition: a port's state is three numbers and an empty rest. -/
import Derived.Test.YtcgjmkbajjngaaaFnTurns
namespace Go.Proofs.Ytcgjmkbajjngaaa.Calc
open Go Code
set_option linter.unusedSimpArgs false
set_option linter.unusedVariables false
set_option maxRecDepth 20000
attribute [local irreducible] WOpsT AW
abbrev nilS : V := .c (.slice none 0 0)
abbrev byte (x : Int) : Int := x % 2 ^ 8
theorem byte_ok (v : Int) : FnE Try.prog 19 [I v, I 8] [] (I (byte v)) [] := lowN_ok v 8 (by decide)
abbrev portV (xs : List Int) : V := .agg [.sl 1 (cells xs), nilS]

theorem portfit_ok (xs : List Int) (hx : xs.length = 3) : FnE Try.prog 65 [portV xs] [] (.psl 0 1 0 3) [⟨1, 1, cells (xs.map byte)⟩] := by
  refine fnI Try.func65 k65 (Nat.le_of_ble_eq_true rfl) q65 fun Q hQ => ?_
  rw [c65]
  repeat (first
    | refine AW.regS fun K hK => ?_
    | refine AW.dregS fun K hK => ?_
    | refine AW.regN fun K hK => ?_
    | refine AW.dregN fun K hK => ?_
    | simp only [T.mv, AO.ev, put, lk, enter, reduceIte, Nat.reduceEqDiff, Nat.reduceAdd, Nat.reduceMul, Nat.reduceSub, ren_c, ren_tup, ren_agg, ren_sl, List.map, Int.reduceNeg, Int.toNat_zero, Nat.zero_add, Nat.add_zero, List.length_cons, List.length_nil, List.nil_append, List.cons_append, List.set_cons_zero, List.set_cons_succ, Int.reduceToNat, List.take_zero, upto, ren_psl, ren_ptr, List.getElem?_cons_zero, List.getElem?_cons_succ, renB, cells_ren]
    | refine T.nil ?_
    | (first | refine hK _ _ _ (by rfl) ?_ | refine hK _ _ _ ?_); simp only [keep, List.map, lk, reduceIte, Nat.reduceEqDiff, enter]; clear hK; clear K
    | refine T.add rfl rfl (by omega) (by omega) ?_
    | refine T.sub rfl rfl (by omega) (by omega) ?_
    | refine T.bin rfl rfl rfl ?_
    | refine T.rem rfl rfl (by omega) ?_
    | refine T.quo rfl rfl (by omega) ?_
    | refine T.shl rfl rfl (by omega) ?_
    | refine T.shr rfl rfl (by omega) ?_
    | refine T.min2 rfl rfl rfl ?_
    | refine T.max2 rfl rfl rfl ?_
    | refine T.ext rfl rfl ?_
    | refine T.lenc ?_
    | refine T.not rfl ?_
    | refine T.cvt rfl ?_
    | refine T.ld rfl rfl rfl rfl rfl ?_
    | refine T.ldd rfl rfl ?_
    | refine T.ldn rfl rfl rfl rfl (Nat.le_of_ble_eq_true rfl) ?_
    | refine T.lddn rfl (Nat.le_of_ble_eq_true rfl) ?_
    | refine T.fad rfl rfl rfl ?_
    | refine T.fadd rfl ?_
    | refine T.nilc rfl rfl rfl ?_
    | refine T.nilcd rfl ?_
    | refine T.st rfl rfl rfl ⟨rfl, rfl⟩ rfl (Nat.le_of_ble_eq_true rfl) ?_
    | refine T.fld rfl rfl ?_
    | refine T.new rfl ⟨rfl, by decide⟩ ?_
    | refine T.zero (by decide) ?_
    | refine T.build rfl ?_
    | refine T.len rfl rfl rfl ?_
    | refine T.lenS rfl ?_
    | refine T.lenN rfl ?_
    | refine T.mkf ?_
    | refine T.mki ?_
    | refine T.mksl rfl rfl (by decide) ?_
    | refine T.copy rfl rfl rfl ⟨rfl, rfl⟩ ?_
    | refine T.idx rfl rfl rfl ⟨rfl, rfl⟩ (by omega) ?_
    | refine T.idxa rfl rfl rfl rfl (by omega) ?_
    | refine T.idxd rfl rfl (by omega) ?_
    | refine T.bsl rfl (by decide) ?_
    | refine T.slc rfl rfl rfl rfl ⟨rfl, rfl⟩ (by omega) ?_
    | refine T.go rfl rfl ?_
    | refine T.pass rfl rfl ?_
    | refine T.pickB rfl rfl rfl ?_
    | refine AW.retI ?_)
  have e : List.take 3 (cells xs) ++ List.drop (min (cells xs).length 3) (List.replicate 3 [V.c (.int .i64 0)]) = cells xs := by
    rw [cells_len, hx, List.take_of_length_le (l := cells xs) (by rw [cells_len]; omega)]; simp
  rw [e]
  refine AW.seqI fun Q1 hN hX hR => ?_
  repeat (first
    | refine AW.regS fun K hK => ?_
    | refine AW.dregS fun K hK => ?_
    | refine AW.regN fun K hK => ?_
    | refine AW.dregN fun K hK => ?_
    | simp only [T.mv, AO.ev, put, lk, enter, reduceIte, Nat.reduceEqDiff, Nat.reduceAdd, Nat.reduceMul, Nat.reduceSub, ren_c, ren_tup, ren_agg, ren_sl, List.map, Int.reduceNeg, Int.toNat_zero, Nat.zero_add, Nat.add_zero, List.length_cons, List.length_nil, List.nil_append, List.cons_append, List.set_cons_zero, List.set_cons_succ, Int.reduceToNat, List.take_zero, upto, ren_psl, ren_ptr, List.getElem?_cons_zero, List.getElem?_cons_succ, renB, cells_ren]
    | refine T.nil ?_
    | (first | refine hK _ _ _ (by rfl) ?_ | refine hK _ _ _ ?_); simp only [keep, List.map, lk, reduceIte, Nat.reduceEqDiff, enter]; clear hK; clear K
    | refine T.add rfl rfl (by omega) (by omega) ?_
    | refine T.sub rfl rfl (by omega) (by omega) ?_
    | refine T.bin rfl rfl rfl ?_
    | refine T.rem rfl rfl (by omega) ?_
    | refine T.quo rfl rfl (by omega) ?_
    | refine T.shl rfl rfl (by omega) ?_
    | refine T.shr rfl rfl (by omega) ?_
    | refine T.min2 rfl rfl rfl ?_
    | refine T.max2 rfl rfl rfl ?_
    | refine T.ext rfl rfl ?_
    | refine T.lenc ?_
    | refine T.not rfl ?_
    | refine T.cvt rfl ?_
    | refine T.ld rfl rfl rfl rfl rfl ?_
    | refine T.ldd rfl rfl ?_
    | refine T.ldn rfl rfl rfl rfl (Nat.le_of_ble_eq_true rfl) ?_
    | refine T.lddn rfl (Nat.le_of_ble_eq_true rfl) ?_
    | refine T.fad rfl rfl rfl ?_
    | refine T.fadd rfl ?_
    | refine T.nilc rfl rfl rfl ?_
    | refine T.nilcd rfl ?_
    | refine T.st rfl rfl rfl ⟨rfl, rfl⟩ rfl (Nat.le_of_ble_eq_true rfl) ?_
    | refine T.fld rfl rfl ?_
    | refine T.new rfl ⟨rfl, by decide⟩ ?_
    | refine T.zero (by decide) ?_
    | refine T.build rfl ?_
    | refine T.len rfl rfl rfl ?_
    | refine T.lenS rfl ?_
    | refine T.lenN rfl ?_
    | refine T.mkf ?_
    | refine T.mki ?_
    | refine T.mksl rfl rfl (by decide) ?_
    | refine T.copy rfl rfl rfl ⟨rfl, rfl⟩ ?_
    | refine T.idx rfl rfl rfl ⟨rfl, rfl⟩ (by omega) ?_
    | refine T.idxa rfl rfl rfl rfl (by omega) ?_
    | refine T.idxd rfl rfl (by omega) ?_
    | refine T.bsl rfl (by decide) ?_
    | refine T.slc rfl rfl rfl rfl ⟨rfl, rfl⟩ (by omega) ?_
    | refine T.go rfl rfl ?_
    | refine T.pass rfl rfl ?_
    | refine T.pickB rfl rfl rfl ?_
    | refine AW.retI ?_)
  refine AW.blockI fun Q2 gN gE gX gR => ?_
  refine AW.loopS (σ := Nat × List Int) (fun s => [(0, portV xs), (1, .any), (2, .any), (3, .psl 1 1 0 3), (4, .any), (11, I 3), (12, I s.1), (13, .any)]) (fun s => [⟨1, 2, [[.sl 1 (cells xs), nilS]]⟩, ⟨1, 1, cells s.2⟩]) (fun s => s.1 ≤ 3 ∧ turned byte xs s.1 s.2) (fun s => 3 - s.1) (0, xs) ⟨Nat.zero_le _, turned_zero _ _⟩ ?_ fun s hs Q3 lN lX lR => ?_
  · exact Weak.list ⟨rfl, .inr rfl, rfl, .inl rfl, rfl, .inl rfl, rfl, .inr rfl, rfl, .inr rfl, rfl, .inr rfl, rfl, .inr rfl, rfl, .inr rfl, trivial⟩ rfl
  · obtain ⟨i, ys⟩ := s
    obtain ⟨hi, ht⟩ := hs
    have hl := ht.1
    dsimp only at hi ht hl
    repeat (first
      | refine AW.regS fun K hK => ?_
      | refine AW.dregS fun K hK => ?_
      | refine AW.regN fun K hK => ?_
      | refine AW.dregN fun K hK => ?_
      | simp only [T.mv, AO.ev, put, lk, enter, reduceIte, Nat.reduceEqDiff, Nat.reduceAdd, Nat.reduceMul, Nat.reduceSub, ren_c, ren_tup, ren_agg, ren_sl, List.map, Int.reduceNeg, Int.toNat_zero, Nat.zero_add, Nat.add_zero, List.length_cons, List.length_nil, List.nil_append, List.cons_append, List.set_cons_zero, List.set_cons_succ, Int.reduceToNat, List.take_zero, upto, ren_psl, ren_ptr, List.getElem?_cons_zero, List.getElem?_cons_succ, renB, cells_ren]
      | refine T.nil ?_
      | (first | refine hK _ _ _ (by rfl) ?_ | refine hK _ _ _ ?_); simp only [keep, List.map, lk, reduceIte, Nat.reduceEqDiff, enter]; clear hK; clear K
      | refine T.add rfl rfl (by omega) (by omega) ?_
      | refine T.sub rfl rfl (by omega) (by omega) ?_
      | refine T.bin rfl rfl rfl ?_
      | refine T.rem rfl rfl (by omega) ?_
      | refine T.quo rfl rfl (by omega) ?_
      | refine T.shl rfl rfl (by omega) ?_
      | refine T.shr rfl rfl (by omega) ?_
      | refine T.min2 rfl rfl rfl ?_
      | refine T.max2 rfl rfl rfl ?_
      | refine T.ext rfl rfl ?_
      | refine T.lenc ?_
      | refine T.not rfl ?_
      | refine T.cvt rfl ?_
      | refine T.ld rfl rfl rfl rfl rfl ?_
      | refine T.ldd rfl rfl ?_
      | refine T.ldn rfl rfl rfl rfl (Nat.le_of_ble_eq_true rfl) ?_
      | refine T.lddn rfl (Nat.le_of_ble_eq_true rfl) ?_
      | refine T.fad rfl rfl rfl ?_
      | refine T.fadd rfl ?_
      | refine T.nilc rfl rfl rfl ?_
      | refine T.nilcd rfl ?_
      | refine T.st rfl rfl rfl ⟨rfl, rfl⟩ rfl (Nat.le_of_ble_eq_true rfl) ?_
      | refine T.fld rfl rfl ?_
      | refine T.new rfl ⟨rfl, by decide⟩ ?_
      | refine T.zero (by decide) ?_
      | refine T.build rfl ?_
      | refine T.len rfl rfl rfl ?_
      | refine T.lenS rfl ?_
      | refine T.lenN rfl ?_
      | refine T.mkf ?_
      | refine T.mki ?_
      | refine T.mksl rfl rfl (by decide) ?_
      | refine T.copy rfl rfl rfl ⟨rfl, rfl⟩ ?_
      | refine T.idx rfl rfl rfl ⟨rfl, rfl⟩ (by omega) ?_
      | refine T.idxa rfl rfl rfl rfl (by omega) ?_
      | refine T.idxd rfl rfl (by omega) ?_
      | refine T.bsl rfl (by decide) ?_
      | refine T.slc rfl rfl rfl rfl ⟨rfl, rfl⟩ (by omega) ?_
      | refine T.go rfl rfl ?_
      | refine T.pass rfl rfl ?_
      | refine T.pickB rfl rfl rfl ?_
      | refine AW.retI ?_)
    refine AW.seqI fun Q4 hN4 hX4 hR4 => ?_
    refine AW.condB rfl (fun hb => ?_) (fun hb => ?_)
    · have hb := of_decide_eq_true hb
      refine AW.skipI (hN4 _ _ ?_)
      refine AW.seqI fun Q5 hN5 hX5 hR5 => ?_
      refine AW.blockI fun Q6 gN6 gE6 gX6 gR6 => ?_
      obtain ⟨x, hx'⟩ : ∃ x, ys[i]? = some x := ⟨_, List.getElem?_eq_getElem (show i < ys.length by omega)⟩
      have hc : (cells ys)[i]? = some [I x] := by rw [cells_get, hx']; rfl
      repeat (first
        | refine T.call0 enters19 rfl (byte_ok _) ?_
        | refine T.ld rfl rfl rfl hc rfl ?_
        | refine T.st rfl rfl rfl ⟨rfl, rfl⟩ hc (Nat.le_of_ble_eq_true rfl) ?_
        | simp only [Int.toNat_natCast]
        | refine AW.regS fun K hK => ?_
        | refine AW.dregS fun K hK => ?_
        | refine AW.regN fun K hK => ?_
        | refine AW.dregN fun K hK => ?_
        | simp only [T.mv, AO.ev, put, lk, enter, reduceIte, Nat.reduceEqDiff, Nat.reduceAdd, Nat.reduceMul, Nat.reduceSub, ren_c, ren_tup, ren_agg, ren_sl, List.map, Int.reduceNeg, Int.toNat_zero, Nat.zero_add, Nat.add_zero, List.length_cons, List.length_nil, List.nil_append, List.cons_append, List.set_cons_zero, List.set_cons_succ, Int.reduceToNat, List.take_zero, upto, ren_psl, ren_ptr, List.getElem?_cons_zero, List.getElem?_cons_succ, renB, cells_ren]
        | refine T.nil ?_
        | (first | refine hK _ _ _ (by rfl) ?_ | refine hK _ _ _ ?_); simp only [keep, List.map, lk, reduceIte, Nat.reduceEqDiff, enter]; clear hK; clear K
        | refine T.add rfl rfl (by omega) (by omega) ?_
        | refine T.sub rfl rfl (by omega) (by omega) ?_
        | refine T.bin rfl rfl rfl ?_
        | refine T.rem rfl rfl (by omega) ?_
        | refine T.quo rfl rfl (by omega) ?_
        | refine T.shl rfl rfl (by omega) ?_
        | refine T.shr rfl rfl (by omega) ?_
        | refine T.min2 rfl rfl rfl ?_
        | refine T.max2 rfl rfl rfl ?_
        | refine T.ext rfl rfl ?_
        | refine T.lenc ?_
        | refine T.not rfl ?_
        | refine T.cvt rfl ?_
        | refine T.ld rfl rfl rfl rfl rfl ?_
        | refine T.ldd rfl rfl ?_
        | refine T.ldn rfl rfl rfl rfl (Nat.le_of_ble_eq_true rfl) ?_
        | refine T.lddn rfl (Nat.le_of_ble_eq_true rfl) ?_
        | refine T.fad rfl rfl rfl ?_
        | refine T.fadd rfl ?_
        | refine T.nilc rfl rfl rfl ?_
        | refine T.nilcd rfl ?_
        | refine T.st rfl rfl rfl ⟨rfl, rfl⟩ rfl (Nat.le_of_ble_eq_true rfl) ?_
        | refine T.fld rfl rfl ?_
        | refine T.new rfl ⟨rfl, by decide⟩ ?_
        | refine T.zero (by decide) ?_
        | refine T.build rfl ?_
        | refine T.len rfl rfl rfl ?_
        | refine T.lenS rfl ?_
        | refine T.lenN rfl ?_
        | refine T.mkf ?_
        | refine T.mki ?_
        | refine T.mksl rfl rfl (by decide) ?_
        | refine T.copy rfl rfl rfl ⟨rfl, rfl⟩ ?_
        | refine T.idx rfl rfl rfl ⟨rfl, rfl⟩ (by omega) ?_
        | refine T.idxa rfl rfl rfl rfl (by omega) ?_
        | refine T.idxd rfl rfl (by omega) ?_
        | refine T.bsl rfl (by decide) ?_
        | refine T.slc rfl rfl rfl rfl ⟨rfl, rfl⟩ (by omega) ?_
        | refine T.go rfl rfl ?_
        | refine T.pass rfl rfl ?_
        | refine T.pickB rfl rfl rfl ?_
        | refine AW.retI ?_)
      rw [show spl [I x] 0 [V.c (.int .i64 (byte x))] = [I (byte x)] from rfl, cells_set]
      refine gN6 _ _ (hN5 _ _ ?_)
      repeat (first
        | refine AW.regS fun K hK => ?_
        | refine AW.dregS fun K hK => ?_
        | refine AW.regN fun K hK => ?_
        | refine AW.dregN fun K hK => ?_
        | simp only [T.mv, AO.ev, put, lk, enter, reduceIte, Nat.reduceEqDiff, Nat.reduceAdd, Nat.reduceMul, Nat.reduceSub, ren_c, ren_tup, ren_agg, ren_sl, List.map, Int.reduceNeg, Int.toNat_zero, Nat.zero_add, Nat.add_zero, List.length_cons, List.length_nil, List.nil_append, List.cons_append, List.set_cons_zero, List.set_cons_succ, Int.reduceToNat, List.take_zero, upto, ren_psl, ren_ptr, List.getElem?_cons_zero, List.getElem?_cons_succ, renB, cells_ren]
        | refine T.nil ?_
        | (first | refine hK _ _ _ (by rfl) ?_ | refine hK _ _ _ ?_); simp only [keep, List.map, lk, reduceIte, Nat.reduceEqDiff, enter]; clear hK; clear K
        | refine T.add rfl rfl (by omega) (by omega) ?_
        | refine T.sub rfl rfl (by omega) (by omega) ?_
        | refine T.bin rfl rfl rfl ?_
        | refine T.rem rfl rfl (by omega) ?_
        | refine T.quo rfl rfl (by omega) ?_
        | refine T.shl rfl rfl (by omega) ?_
        | refine T.shr rfl rfl (by omega) ?_
        | refine T.min2 rfl rfl rfl ?_
        | refine T.max2 rfl rfl rfl ?_
        | refine T.ext rfl rfl ?_
        | refine T.lenc ?_
        | refine T.not rfl ?_
        | refine T.cvt rfl ?_
        | refine T.ld rfl rfl rfl rfl rfl ?_
        | refine T.ldd rfl rfl ?_
        | refine T.ldn rfl rfl rfl rfl (Nat.le_of_ble_eq_true rfl) ?_
        | refine T.lddn rfl (Nat.le_of_ble_eq_true rfl) ?_
        | refine T.fad rfl rfl rfl ?_
        | refine T.fadd rfl ?_
        | refine T.nilc rfl rfl rfl ?_
        | refine T.nilcd rfl ?_
        | refine T.st rfl rfl rfl ⟨rfl, rfl⟩ rfl (Nat.le_of_ble_eq_true rfl) ?_
        | refine T.fld rfl rfl ?_
        | refine T.new rfl ⟨rfl, by decide⟩ ?_
        | refine T.zero (by decide) ?_
        | refine T.build rfl ?_
        | refine T.len rfl rfl rfl ?_
        | refine T.lenS rfl ?_
        | refine T.lenN rfl ?_
        | refine T.mkf ?_
        | refine T.mki ?_
        | refine T.mksl rfl rfl (by decide) ?_
        | refine T.copy rfl rfl rfl ⟨rfl, rfl⟩ ?_
        | refine T.idx rfl rfl rfl ⟨rfl, rfl⟩ (by omega) ?_
        | refine T.idxa rfl rfl rfl rfl (by omega) ?_
        | refine T.idxd rfl rfl (by omega) ?_
        | refine T.bsl rfl (by decide) ?_
        | refine T.slc rfl rfl rfl rfl ⟨rfl, rfl⟩ (by omega) ?_
        | refine T.go rfl rfl ?_
        | refine T.pass rfl rfl ?_
        | refine T.pickB rfl rfl rfl ?_
        | refine AW.retI ?_)
      refine lN _ _ (i + 1, ys.set i (byte x)) ⟨by omega, turned_step ht hx'⟩ (by dsimp only; omega) ?_
      exact Weak.list ⟨rfl, .inr rfl, rfl, .inl rfl, rfl, .inl rfl, rfl, .inr rfl, rfl, .inl rfl, rfl, .inr rfl, rfl, .inr rfl, rfl, .inl rfl, trivial⟩ rfl
    · have hb := of_decide_eq_false hb
      refine AW.exitI (hX4 _ _ _ (lX _ _ _ (gE _ _ (hN _ _ ?_))))
      have hy := turned_all ht (by omega)
      subst hy
      repeat (first
        | refine AW.regS fun K hK => ?_
        | refine AW.dregS fun K hK => ?_
        | refine AW.regN fun K hK => ?_
        | refine AW.dregN fun K hK => ?_
        | simp only [T.mv, AO.ev, put, lk, enter, reduceIte, Nat.reduceEqDiff, Nat.reduceAdd, Nat.reduceMul, Nat.reduceSub, ren_c, ren_tup, ren_agg, ren_sl, List.map, Int.reduceNeg, Int.toNat_zero, Nat.zero_add, Nat.add_zero, List.length_cons, List.length_nil, List.nil_append, List.cons_append, List.set_cons_zero, List.set_cons_succ, Int.reduceToNat, List.take_zero, upto, ren_psl, ren_ptr, List.getElem?_cons_zero, List.getElem?_cons_succ, renB, cells_ren]
        | refine T.nil ?_
        | (first | refine hK _ _ _ (by rfl) ?_ | refine hK _ _ _ ?_); simp only [keep, List.map, lk, reduceIte, Nat.reduceEqDiff, enter]; clear hK; clear K
        | refine T.add rfl rfl (by omega) (by omega) ?_
        | refine T.sub rfl rfl (by omega) (by omega) ?_
        | refine T.bin rfl rfl rfl ?_
        | refine T.rem rfl rfl (by omega) ?_
        | refine T.quo rfl rfl (by omega) ?_
        | refine T.shl rfl rfl (by omega) ?_
        | refine T.shr rfl rfl (by omega) ?_
        | refine T.min2 rfl rfl rfl ?_
        | refine T.max2 rfl rfl rfl ?_
        | refine T.ext rfl rfl ?_
        | refine T.lenc ?_
        | refine T.not rfl ?_
        | refine T.cvt rfl ?_
        | refine T.ld rfl rfl rfl rfl rfl ?_
        | refine T.ldd rfl rfl ?_
        | refine T.ldn rfl rfl rfl rfl (Nat.le_of_ble_eq_true rfl) ?_
        | refine T.lddn rfl (Nat.le_of_ble_eq_true rfl) ?_
        | refine T.fad rfl rfl rfl ?_
        | refine T.fadd rfl ?_
        | refine T.nilc rfl rfl rfl ?_
        | refine T.nilcd rfl ?_
        | refine T.st rfl rfl rfl ⟨rfl, rfl⟩ rfl (Nat.le_of_ble_eq_true rfl) ?_
        | refine T.fld rfl rfl ?_
        | refine T.new rfl ⟨rfl, by decide⟩ ?_
        | refine T.zero (by decide) ?_
        | refine T.build rfl ?_
        | refine T.len rfl rfl rfl ?_
        | refine T.lenS rfl ?_
        | refine T.lenN rfl ?_
        | refine T.mkf ?_
        | refine T.mki ?_
        | refine T.mksl rfl rfl (by decide) ?_
        | refine T.copy rfl rfl rfl ⟨rfl, rfl⟩ ?_
        | refine T.idx rfl rfl rfl ⟨rfl, rfl⟩ (by omega) ?_
        | refine T.idxa rfl rfl rfl rfl (by omega) ?_
        | refine T.idxd rfl rfl (by omega) ?_
        | refine T.bsl rfl (by decide) ?_
        | refine T.slc rfl rfl rfl rfl ⟨rfl, rfl⟩ (by omega) ?_
        | refine T.go rfl rfl ?_
        | refine T.pass rfl rfl ?_
        | refine T.pickB rfl rfl rfl ?_
        | refine AW.retI ?_)
      exact hQ _ _ _ rfl (WeakV.keep1 rfl)
theorem enters65 : enters Try.prog 65 = true := by kernel_rfl
theorem portnew_ok : FnE Try.prog 38 [] [] (portV [255, 0, 0]) [] := by
  refine fnI Try.func38 k38 (Nat.le_of_ble_eq_true rfl) q38 fun Q hQ => ?_
  rw [c38]
  repeat (first
    | refine AW.regS fun K hK => ?_
    | refine AW.dregS fun K hK => ?_
    | refine AW.regN fun K hK => ?_
    | refine AW.dregN fun K hK => ?_
    | simp only [T.mv, AO.ev, put, lk, enter, reduceIte, Nat.reduceEqDiff, Nat.reduceAdd, Nat.reduceMul, Nat.reduceSub, ren_c, ren_tup, ren_agg, ren_sl, List.map, Int.reduceNeg, Int.toNat_zero, Nat.zero_add, Nat.add_zero, List.length_cons, List.length_nil, List.nil_append, List.cons_append, List.set_cons_zero, List.set_cons_succ, Int.reduceToNat, List.take_zero, upto, ren_psl, ren_ptr, List.getElem?_cons_zero, List.getElem?_cons_succ, renB, cells_ren]
    | refine T.nil ?_
    | (first | refine hK _ _ _ (by rfl) ?_ | refine hK _ _ _ ?_); simp only [keep, List.map, lk, reduceIte, Nat.reduceEqDiff, enter]; clear hK; clear K
    | refine T.add rfl rfl (by omega) (by omega) ?_
    | refine T.sub rfl rfl (by omega) (by omega) ?_
    | refine T.bin rfl rfl rfl ?_
    | refine T.rem rfl rfl (by omega) ?_
    | refine T.quo rfl rfl (by omega) ?_
    | refine T.shl rfl rfl (by omega) ?_
    | refine T.shr rfl rfl (by omega) ?_
    | refine T.min2 rfl rfl rfl ?_
    | refine T.max2 rfl rfl rfl ?_
    | refine T.ext rfl rfl ?_
    | refine T.lenc ?_
    | refine T.not rfl ?_
    | refine T.cvt rfl ?_
    | refine T.ld rfl rfl rfl rfl rfl ?_
    | refine T.ldd rfl rfl ?_
    | refine T.ldn rfl rfl rfl rfl (Nat.le_of_ble_eq_true rfl) ?_
    | refine T.lddn rfl (Nat.le_of_ble_eq_true rfl) ?_
    | refine T.fad rfl rfl rfl ?_
    | refine T.fadd rfl ?_
    | refine T.nilc rfl rfl rfl ?_
    | refine T.nilcd rfl ?_
    | refine T.st rfl rfl rfl ⟨rfl, rfl⟩ rfl (Nat.le_of_ble_eq_true rfl) ?_
    | refine T.fld rfl rfl ?_
    | refine T.new rfl ⟨rfl, by decide⟩ ?_
    | refine T.zero (by decide) ?_
    | refine T.build rfl ?_
    | refine T.len rfl rfl rfl ?_
    | refine T.lenS rfl ?_
    | refine T.lenN rfl ?_
    | refine T.mkf ?_
    | refine T.mki ?_
    | refine T.mksl rfl rfl (by decide) ?_
    | refine T.copy rfl rfl rfl ⟨rfl, rfl⟩ ?_
    | refine T.idx rfl rfl rfl ⟨rfl, rfl⟩ (by omega) ?_
    | refine T.idxa rfl rfl rfl rfl (by omega) ?_
    | refine T.idxd rfl rfl (by omega) ?_
    | refine T.bsl rfl (by decide) ?_
    | refine T.slc rfl rfl rfl rfl ⟨rfl, rfl⟩ (by omega) ?_
    | refine T.go rfl rfl ?_
    | refine T.pass rfl rfl ?_
    | refine T.pickB rfl rfl rfl ?_
    | refine AW.retI ?_)
  exact hQ _ _ _ rfl (WeakV.drop (n := 1) rfl rfl)
theorem enters38 : enters Try.prog 38 = true := by kernel_rfl
theorem portfit3 (a b c : Int) : FnE Try.prog 65 [portV [a, b, c]] [] (.psl 0 1 0 3) [⟨1, 1, cells [byte a, byte b, byte c]⟩] := portfit_ok [a, b, c] rfl
theorem portin_ok (a b c v : Int) : FnE Try.prog 36 [portV [a, b, c], I v] [] (portV [byte v, byte b, byte c]) [] := by
  refine fnI Try.func36 k36 (Nat.le_of_ble_eq_true rfl) q36 fun Q hQ => ?_
  rw [c36]
  repeat (first
    | refine T.call0 enters19 rfl (byte_ok _) ?_
    | refine T.callN enters65 rfl (portfit3 a b c) (by simp) ?_
    | refine AW.regS fun K hK => ?_
    | refine AW.dregS fun K hK => ?_
    | refine AW.regN fun K hK => ?_
    | refine AW.dregN fun K hK => ?_
    | simp only [T.mv, AO.ev, put, lk, enter, reduceIte, Nat.reduceEqDiff, Nat.reduceAdd, Nat.reduceMul, Nat.reduceSub, ren_c, ren_tup, ren_agg, ren_sl, List.map, Int.reduceNeg, Int.toNat_zero, Nat.zero_add, Nat.add_zero, List.length_cons, List.length_nil, List.nil_append, List.cons_append, List.set_cons_zero, List.set_cons_succ, Int.reduceToNat, List.take_zero, upto, ren_psl, ren_ptr, List.getElem?_cons_zero, List.getElem?_cons_succ, renB, cells_ren]
    | refine T.nil ?_
    | (first | refine hK _ _ _ (by rfl) ?_ | refine hK _ _ _ ?_); simp only [keep, List.map, lk, reduceIte, Nat.reduceEqDiff, enter]; clear hK; clear K
    | refine T.add rfl rfl (by omega) (by omega) ?_
    | refine T.sub rfl rfl (by omega) (by omega) ?_
    | refine T.bin rfl rfl rfl ?_
    | refine T.rem rfl rfl (by omega) ?_
    | refine T.quo rfl rfl (by omega) ?_
    | refine T.shl rfl rfl (by omega) ?_
    | refine T.shr rfl rfl (by omega) ?_
    | refine T.min2 rfl rfl rfl ?_
    | refine T.max2 rfl rfl rfl ?_
    | refine T.ext rfl rfl ?_
    | refine T.lenc ?_
    | refine T.not rfl ?_
    | refine T.cvt rfl ?_
    | refine T.ld rfl rfl rfl rfl rfl ?_
    | refine T.ldd rfl rfl ?_
    | refine T.ldn rfl rfl rfl rfl (Nat.le_of_ble_eq_true rfl) ?_
    | refine T.lddn rfl (Nat.le_of_ble_eq_true rfl) ?_
    | refine T.fad rfl rfl rfl ?_
    | refine T.fadd rfl ?_
    | refine T.nilc rfl rfl rfl ?_
    | refine T.nilcd rfl ?_
    | refine T.st rfl rfl rfl ⟨rfl, rfl⟩ rfl (Nat.le_of_ble_eq_true rfl) ?_
    | refine T.fld rfl rfl ?_
    | refine T.new rfl ⟨rfl, by decide⟩ ?_
    | refine T.zero (by decide) ?_
    | refine T.build rfl ?_
    | refine T.len rfl rfl rfl ?_
    | refine T.lenS rfl ?_
    | refine T.lenN rfl ?_
    | refine T.mkf ?_
    | refine T.mki ?_
    | refine T.mksl rfl rfl (by decide) ?_
    | refine T.copy rfl rfl rfl ⟨rfl, rfl⟩ ?_
    | refine T.idx rfl rfl rfl ⟨rfl, rfl⟩ (by omega) ?_
    | refine T.idxa rfl rfl rfl rfl (by omega) ?_
    | refine T.idxd rfl rfl (by omega) ?_
    | refine T.bsl rfl (by decide) ?_
    | refine T.slc rfl rfl rfl rfl ⟨rfl, rfl⟩ (by omega) ?_
    | refine T.go rfl rfl ?_
    | refine T.pass rfl rfl ?_
    | refine T.pickB rfl rfl rfl ?_
    | refine AW.retI ?_)
  exact hQ _ _ _ rfl (WeakV.drop (n := 1) rfl rfl)
theorem enters36 : enters Try.prog 36 = true := by kernel_rfl
theorem portout_ok (a b c : Int) : FnE Try.prog 40 [portV [a, b, c]] [] (I (bits .and .i64 (byte b) (byte c))) [] := by
  refine fnI Try.func40 k40 (Nat.le_of_ble_eq_true rfl) q40 fun Q hQ => ?_
  rw [c40]
  repeat (first
    | refine T.call0 enters19 rfl (byte_ok _) ?_
    | refine T.callN enters65 rfl (portfit3 a b c) (by simp) ?_
    | refine AW.regS fun K hK => ?_
    | refine AW.dregS fun K hK => ?_
    | refine AW.regN fun K hK => ?_
    | refine AW.dregN fun K hK => ?_
    | simp only [T.mv, AO.ev, put, lk, enter, reduceIte, Nat.reduceEqDiff, Nat.reduceAdd, Nat.reduceMul, Nat.reduceSub, ren_c, ren_tup, ren_agg, ren_sl, List.map, Int.reduceNeg, Int.toNat_zero, Nat.zero_add, Nat.add_zero, List.length_cons, List.length_nil, List.nil_append, List.cons_append, List.set_cons_zero, List.set_cons_succ, Int.reduceToNat, List.take_zero, upto, ren_psl, ren_ptr, List.getElem?_cons_zero, List.getElem?_cons_succ, renB, cells_ren]
    | refine T.nil ?_
    | (first | refine hK _ _ _ (by rfl) ?_ | refine hK _ _ _ ?_); simp only [keep, List.map, lk, reduceIte, Nat.reduceEqDiff, enter]; clear hK; clear K
    | refine T.add rfl rfl (by omega) (by omega) ?_
    | refine T.sub rfl rfl (by omega) (by omega) ?_
    | refine T.bin rfl rfl rfl ?_
    | refine T.rem rfl rfl (by omega) ?_
    | refine T.quo rfl rfl (by omega) ?_
    | refine T.shl rfl rfl (by omega) ?_
    | refine T.shr rfl rfl (by omega) ?_
    | refine T.min2 rfl rfl rfl ?_
    | refine T.max2 rfl rfl rfl ?_
    | refine T.ext rfl rfl ?_
    | refine T.lenc ?_
    | refine T.not rfl ?_
    | refine T.cvt rfl ?_
    | refine T.ld rfl rfl rfl rfl rfl ?_
    | refine T.ldd rfl rfl ?_
    | refine T.ldn rfl rfl rfl rfl (Nat.le_of_ble_eq_true rfl) ?_
    | refine T.lddn rfl (Nat.le_of_ble_eq_true rfl) ?_
    | refine T.fad rfl rfl rfl ?_
    | refine T.fadd rfl ?_
    | refine T.nilc rfl rfl rfl ?_
    | refine T.nilcd rfl ?_
    | refine T.st rfl rfl rfl ⟨rfl, rfl⟩ rfl (Nat.le_of_ble_eq_true rfl) ?_
    | refine T.fld rfl rfl ?_
    | refine T.new rfl ⟨rfl, by decide⟩ ?_
    | refine T.zero (by decide) ?_
    | refine T.build rfl ?_
    | refine T.len rfl rfl rfl ?_
    | refine T.lenS rfl ?_
    | refine T.lenN rfl ?_
    | refine T.mkf ?_
    | refine T.mki ?_
    | refine T.mksl rfl rfl (by decide) ?_
    | refine T.copy rfl rfl rfl ⟨rfl, rfl⟩ ?_
    | refine T.idx rfl rfl rfl ⟨rfl, rfl⟩ (by omega) ?_
    | refine T.idxa rfl rfl rfl rfl (by omega) ?_
    | refine T.idxd rfl rfl (by omega) ?_
    | refine T.bsl rfl (by decide) ?_
    | refine T.slc rfl rfl rfl rfl ⟨rfl, rfl⟩ (by omega) ?_
    | refine T.go rfl rfl ?_
    | refine T.pass rfl rfl ?_
    | refine T.pickB rfl rfl rfl ?_
    | refine AW.retI ?_)
  exact hQ _ _ _ rfl (WeakV.cE rfl rfl)
theorem enters40 : enters Try.prog 40 = true := by kernel_rfl
theorem portwrite0_ok (a b c v : Int) : FnE Try.prog 37 [portV [a, b, c], I 0, I v] [] (portV [byte a, byte v, byte c]) [] := by
  refine fnI Try.func37 k37 (Nat.le_of_ble_eq_true rfl) q37 fun Q hQ => ?_
  rw [c37]
  repeat (first
    | refine T.call0 enters19 rfl (byte_ok _) ?_
    | refine T.callN enters65 rfl (portfit3 a b c) (by simp) ?_
    | refine AW.regS fun K hK => ?_
    | refine AW.dregS fun K hK => ?_
    | refine AW.regN fun K hK => ?_
    | refine AW.dregN fun K hK => ?_
    | simp only [T.mv, AO.ev, put, lk, enter, reduceIte, Nat.reduceEqDiff, Nat.reduceAdd, Nat.reduceMul, Nat.reduceSub, ren_c, ren_tup, ren_agg, ren_sl, List.map, Int.reduceNeg, Int.toNat_zero, Nat.zero_add, Nat.add_zero, List.length_cons, List.length_nil, List.nil_append, List.cons_append, List.set_cons_zero, List.set_cons_succ, Int.reduceToNat, List.take_zero, upto, ren_psl, ren_ptr, List.getElem?_cons_zero, List.getElem?_cons_succ, renB, cells_ren]
    | refine T.nil ?_
    | (first | refine hK _ _ _ (by rfl) ?_ | refine hK _ _ _ ?_); simp only [keep, List.map, lk, reduceIte, Nat.reduceEqDiff, enter]; clear hK; clear K
    | refine T.add rfl rfl (by omega) (by omega) ?_
    | refine T.sub rfl rfl (by omega) (by omega) ?_
    | refine T.bin rfl rfl rfl ?_
    | refine T.rem rfl rfl (by omega) ?_
    | refine T.quo rfl rfl (by omega) ?_
    | refine T.shl rfl rfl (by omega) ?_
    | refine T.shr rfl rfl (by omega) ?_
    | refine T.min2 rfl rfl rfl ?_
    | refine T.max2 rfl rfl rfl ?_
    | refine T.ext rfl rfl ?_
    | refine T.lenc ?_
    | refine T.not rfl ?_
    | refine T.cvt rfl ?_
    | refine T.ld rfl rfl rfl rfl rfl ?_
    | refine T.ldd rfl rfl ?_
    | refine T.ldn rfl rfl rfl rfl (Nat.le_of_ble_eq_true rfl) ?_
    | refine T.lddn rfl (Nat.le_of_ble_eq_true rfl) ?_
    | refine T.fad rfl rfl rfl ?_
    | refine T.fadd rfl ?_
    | refine T.nilc rfl rfl rfl ?_
    | refine T.nilcd rfl ?_
    | refine T.st rfl rfl rfl ⟨rfl, rfl⟩ rfl (Nat.le_of_ble_eq_true rfl) ?_
    | refine T.fld rfl rfl ?_
    | refine T.new rfl ⟨rfl, by decide⟩ ?_
    | refine T.zero (by decide) ?_
    | refine T.build rfl ?_
    | refine T.len rfl rfl rfl ?_
    | refine T.lenS rfl ?_
    | refine T.lenN rfl ?_
    | refine T.mkf ?_
    | refine T.mki ?_
    | refine T.mksl rfl rfl (by decide) ?_
    | refine T.copy rfl rfl rfl ⟨rfl, rfl⟩ ?_
    | refine T.idx rfl rfl rfl ⟨rfl, rfl⟩ (by omega) ?_
    | refine T.idxa rfl rfl rfl rfl (by omega) ?_
    | refine T.idxd rfl rfl (by omega) ?_
    | refine T.bsl rfl (by decide) ?_
    | refine T.slc rfl rfl rfl rfl ⟨rfl, rfl⟩ (by omega) ?_
    | refine T.go rfl rfl ?_
    | refine T.pass rfl rfl ?_
    | refine T.pickB rfl rfl rfl ?_
    | refine AW.retI ?_)
  refine AW.seqI fun Q1 hN hX hR => ?_
  repeat (first
    | refine T.pickT rfl rfl ?_
    | refine T.call0 enters19 rfl (byte_ok _) ?_
    | refine AW.regS fun K hK => ?_
    | refine AW.dregS fun K hK => ?_
    | refine AW.regN fun K hK => ?_
    | refine AW.dregN fun K hK => ?_
    | simp only [T.mv, AO.ev, put, lk, enter, reduceIte, Nat.reduceEqDiff, Nat.reduceAdd, Nat.reduceMul, Nat.reduceSub, ren_c, ren_tup, ren_agg, ren_sl, List.map, Int.reduceNeg, Int.toNat_zero, Nat.zero_add, Nat.add_zero, List.length_cons, List.length_nil, List.nil_append, List.cons_append, List.set_cons_zero, List.set_cons_succ, Int.reduceToNat, List.take_zero, upto, ren_psl, ren_ptr, List.getElem?_cons_zero, List.getElem?_cons_succ, renB, cells_ren]
    | refine T.nil ?_
    | (first | refine hK _ _ _ (by rfl) ?_ | refine hK _ _ _ ?_); simp only [keep, List.map, lk, reduceIte, Nat.reduceEqDiff, enter]; clear hK; clear K
    | refine T.add rfl rfl (by omega) (by omega) ?_
    | refine T.sub rfl rfl (by omega) (by omega) ?_
    | refine T.bin rfl rfl rfl ?_
    | refine T.rem rfl rfl (by omega) ?_
    | refine T.quo rfl rfl (by omega) ?_
    | refine T.shl rfl rfl (by omega) ?_
    | refine T.shr rfl rfl (by omega) ?_
    | refine T.min2 rfl rfl rfl ?_
    | refine T.max2 rfl rfl rfl ?_
    | refine T.ext rfl rfl ?_
    | refine T.lenc ?_
    | refine T.not rfl ?_
    | refine T.cvt rfl ?_
    | refine T.ld rfl rfl rfl rfl rfl ?_
    | refine T.ldd rfl rfl ?_
    | refine T.ldn rfl rfl rfl rfl (Nat.le_of_ble_eq_true rfl) ?_
    | refine T.lddn rfl (Nat.le_of_ble_eq_true rfl) ?_
    | refine T.fad rfl rfl rfl ?_
    | refine T.fadd rfl ?_
    | refine T.nilc rfl rfl rfl ?_
    | refine T.nilcd rfl ?_
    | refine T.st rfl rfl rfl ⟨rfl, rfl⟩ rfl (Nat.le_of_ble_eq_true rfl) ?_
    | refine T.fld rfl rfl ?_
    | refine T.new rfl ⟨rfl, by decide⟩ ?_
    | refine T.zero (by decide) ?_
    | refine T.build rfl ?_
    | refine T.len rfl rfl rfl ?_
    | refine T.lenS rfl ?_
    | refine T.lenN rfl ?_
    | refine T.mkf ?_
    | refine T.mki ?_
    | refine T.mksl rfl rfl (by decide) ?_
    | refine T.copy rfl rfl rfl ⟨rfl, rfl⟩ ?_
    | refine T.idx rfl rfl rfl ⟨rfl, rfl⟩ (by omega) ?_
    | refine T.idxa rfl rfl rfl rfl (by omega) ?_
    | refine T.idxd rfl rfl (by omega) ?_
    | refine T.bsl rfl (by decide) ?_
    | refine T.slc rfl rfl rfl rfl ⟨rfl, rfl⟩ (by omega) ?_
    | refine T.go rfl rfl ?_
    | refine T.pass rfl rfl ?_
    | refine T.pickB rfl rfl rfl ?_
    | refine AW.retI ?_)
  refine AW.condT rfl rfl ?_
  repeat (first
    | refine T.call0 enters19 rfl (byte_ok _) ?_
    | refine AW.regS fun K hK => ?_
    | refine AW.dregS fun K hK => ?_
    | refine AW.regN fun K hK => ?_
    | refine AW.dregN fun K hK => ?_
    | simp only [T.mv, AO.ev, put, lk, enter, reduceIte, Nat.reduceEqDiff, Nat.reduceAdd, Nat.reduceMul, Nat.reduceSub, ren_c, ren_tup, ren_agg, ren_sl, List.map, Int.reduceNeg, Int.toNat_zero, Nat.zero_add, Nat.add_zero, List.length_cons, List.length_nil, List.nil_append, List.cons_append, List.set_cons_zero, List.set_cons_succ, Int.reduceToNat, List.take_zero, upto, ren_psl, ren_ptr, List.getElem?_cons_zero, List.getElem?_cons_succ, renB, cells_ren]
    | refine T.nil ?_
    | (first | refine hK _ _ _ (by rfl) ?_ | refine hK _ _ _ ?_); simp only [keep, List.map, lk, reduceIte, Nat.reduceEqDiff, enter]; clear hK; clear K
    | refine T.add rfl rfl (by omega) (by omega) ?_
    | refine T.sub rfl rfl (by omega) (by omega) ?_
    | refine T.bin rfl rfl rfl ?_
    | refine T.rem rfl rfl (by omega) ?_
    | refine T.quo rfl rfl (by omega) ?_
    | refine T.shl rfl rfl (by omega) ?_
    | refine T.shr rfl rfl (by omega) ?_
    | refine T.min2 rfl rfl rfl ?_
    | refine T.max2 rfl rfl rfl ?_
    | refine T.ext rfl rfl ?_
    | refine T.lenc ?_
    | refine T.not rfl ?_
    | refine T.cvt rfl ?_
    | refine T.ld rfl rfl rfl rfl rfl ?_
    | refine T.ldd rfl rfl ?_
    | refine T.ldn rfl rfl rfl rfl (Nat.le_of_ble_eq_true rfl) ?_
    | refine T.lddn rfl (Nat.le_of_ble_eq_true rfl) ?_
    | refine T.fad rfl rfl rfl ?_
    | refine T.fadd rfl ?_
    | refine T.nilc rfl rfl rfl ?_
    | refine T.nilcd rfl ?_
    | refine T.st rfl rfl rfl ⟨rfl, rfl⟩ rfl (Nat.le_of_ble_eq_true rfl) ?_
    | refine T.fld rfl rfl ?_
    | refine T.new rfl ⟨rfl, by decide⟩ ?_
    | refine T.zero (by decide) ?_
    | refine T.build rfl ?_
    | refine T.len rfl rfl rfl ?_
    | refine T.lenS rfl ?_
    | refine T.lenN rfl ?_
    | refine T.mkf ?_
    | refine T.mki ?_
    | refine T.mksl rfl rfl (by decide) ?_
    | refine T.copy rfl rfl rfl ⟨rfl, rfl⟩ ?_
    | refine T.idx rfl rfl rfl ⟨rfl, rfl⟩ (by omega) ?_
    | refine T.idxa rfl rfl rfl rfl (by omega) ?_
    | refine T.idxd rfl rfl (by omega) ?_
    | refine T.bsl rfl (by decide) ?_
    | refine T.slc rfl rfl rfl rfl ⟨rfl, rfl⟩ (by omega) ?_
    | refine T.go rfl rfl ?_
    | refine T.pass rfl rfl ?_
    | refine T.pickB rfl rfl rfl ?_
    | refine AW.retI ?_)
  refine hN _ _ ?_
  repeat (first
    | refine AW.regS fun K hK => ?_
    | refine AW.dregS fun K hK => ?_
    | refine AW.regN fun K hK => ?_
    | refine AW.dregN fun K hK => ?_
    | simp only [T.mv, AO.ev, put, lk, enter, reduceIte, Nat.reduceEqDiff, Nat.reduceAdd, Nat.reduceMul, Nat.reduceSub, ren_c, ren_tup, ren_agg, ren_sl, List.map, Int.reduceNeg, Int.toNat_zero, Nat.zero_add, Nat.add_zero, List.length_cons, List.length_nil, List.nil_append, List.cons_append, List.set_cons_zero, List.set_cons_succ, Int.reduceToNat, List.take_zero, upto, ren_psl, ren_ptr, List.getElem?_cons_zero, List.getElem?_cons_succ, renB, cells_ren]
    | refine T.nil ?_
    | (first | refine hK _ _ _ (by rfl) ?_ | refine hK _ _ _ ?_); simp only [keep, List.map, lk, reduceIte, Nat.reduceEqDiff, enter]; clear hK; clear K
    | refine T.add rfl rfl (by omega) (by omega) ?_
    | refine T.sub rfl rfl (by omega) (by omega) ?_
    | refine T.bin rfl rfl rfl ?_
    | refine T.rem rfl rfl (by omega) ?_
    | refine T.quo rfl rfl (by omega) ?_
    | refine T.shl rfl rfl (by omega) ?_
    | refine T.shr rfl rfl (by omega) ?_
    | refine T.min2 rfl rfl rfl ?_
    | refine T.max2 rfl rfl rfl ?_
    | refine T.ext rfl rfl ?_
    | refine T.lenc ?_
    | refine T.not rfl ?_
    | refine T.cvt rfl ?_
    | refine T.ld rfl rfl rfl rfl rfl ?_
    | refine T.ldd rfl rfl ?_
    | refine T.ldn rfl rfl rfl rfl (Nat.le_of_ble_eq_true rfl) ?_
    | refine T.lddn rfl (Nat.le_of_ble_eq_true rfl) ?_
    | refine T.fad rfl rfl rfl ?_
    | refine T.fadd rfl ?_
    | refine T.nilc rfl rfl rfl ?_
    | refine T.nilcd rfl ?_
    | refine T.st rfl rfl rfl ⟨rfl, rfl⟩ rfl (Nat.le_of_ble_eq_true rfl) ?_
    | refine T.fld rfl rfl ?_
    | refine T.new rfl ⟨rfl, by decide⟩ ?_
    | refine T.zero (by decide) ?_
    | refine T.build rfl ?_
    | refine T.len rfl rfl rfl ?_
    | refine T.lenS rfl ?_
    | refine T.lenN rfl ?_
    | refine T.mkf ?_
    | refine T.mki ?_
    | refine T.mksl rfl rfl (by decide) ?_
    | refine T.copy rfl rfl rfl ⟨rfl, rfl⟩ ?_
    | refine T.idx rfl rfl rfl ⟨rfl, rfl⟩ (by omega) ?_
    | refine T.idxa rfl rfl rfl rfl (by omega) ?_
    | refine T.idxd rfl rfl (by omega) ?_
    | refine T.bsl rfl (by decide) ?_
    | refine T.slc rfl rfl rfl rfl ⟨rfl, rfl⟩ (by omega) ?_
    | refine T.go rfl rfl ?_
    | refine T.pass rfl rfl ?_
    | refine T.pickB rfl rfl rfl ?_
    | refine AW.retI ?_)
  exact hQ _ _ _ rfl (WeakV.drop (n := 1) rfl rfl)
theorem portwrite1_ok (a b c v : Int) : FnE Try.prog 37 [portV [a, b, c], I 1, I v] [] (portV [byte a, byte b, byte v]) [] := by
  refine fnI Try.func37 k37 (Nat.le_of_ble_eq_true rfl) q37 fun Q hQ => ?_
  rw [c37]
  repeat (first
    | refine T.call0 enters19 rfl (byte_ok _) ?_
    | refine T.callN enters65 rfl (portfit3 a b c) (by simp) ?_
    | refine AW.regS fun K hK => ?_
    | refine AW.dregS fun K hK => ?_
    | refine AW.regN fun K hK => ?_
    | refine AW.dregN fun K hK => ?_
    | simp only [T.mv, AO.ev, put, lk, enter, reduceIte, Nat.reduceEqDiff, Nat.reduceAdd, Nat.reduceMul, Nat.reduceSub, ren_c, ren_tup, ren_agg, ren_sl, List.map, Int.reduceNeg, Int.toNat_zero, Nat.zero_add, Nat.add_zero, List.length_cons, List.length_nil, List.nil_append, List.cons_append, List.set_cons_zero, List.set_cons_succ, Int.reduceToNat, List.take_zero, upto, ren_psl, ren_ptr, List.getElem?_cons_zero, List.getElem?_cons_succ, renB, cells_ren]
    | refine T.nil ?_
    | (first | refine hK _ _ _ (by rfl) ?_ | refine hK _ _ _ ?_); simp only [keep, List.map, lk, reduceIte, Nat.reduceEqDiff, enter]; clear hK; clear K
    | refine T.add rfl rfl (by omega) (by omega) ?_
    | refine T.sub rfl rfl (by omega) (by omega) ?_
    | refine T.bin rfl rfl rfl ?_
    | refine T.rem rfl rfl (by omega) ?_
    | refine T.quo rfl rfl (by omega) ?_
    | refine T.shl rfl rfl (by omega) ?_
    | refine T.shr rfl rfl (by omega) ?_
    | refine T.min2 rfl rfl rfl ?_
    | refine T.max2 rfl rfl rfl ?_
    | refine T.ext rfl rfl ?_
    | refine T.lenc ?_
    | refine T.not rfl ?_
    | refine T.cvt rfl ?_
    | refine T.ld rfl rfl rfl rfl rfl ?_
    | refine T.ldd rfl rfl ?_
    | refine T.ldn rfl rfl rfl rfl (Nat.le_of_ble_eq_true rfl) ?_
    | refine T.lddn rfl (Nat.le_of_ble_eq_true rfl) ?_
    | refine T.fad rfl rfl rfl ?_
    | refine T.fadd rfl ?_
    | refine T.nilc rfl rfl rfl ?_
    | refine T.nilcd rfl ?_
    | refine T.st rfl rfl rfl ⟨rfl, rfl⟩ rfl (Nat.le_of_ble_eq_true rfl) ?_
    | refine T.fld rfl rfl ?_
    | refine T.new rfl ⟨rfl, by decide⟩ ?_
    | refine T.zero (by decide) ?_
    | refine T.build rfl ?_
    | refine T.len rfl rfl rfl ?_
    | refine T.lenS rfl ?_
    | refine T.lenN rfl ?_
    | refine T.mkf ?_
    | refine T.mki ?_
    | refine T.mksl rfl rfl (by decide) ?_
    | refine T.copy rfl rfl rfl ⟨rfl, rfl⟩ ?_
    | refine T.idx rfl rfl rfl ⟨rfl, rfl⟩ (by omega) ?_
    | refine T.idxa rfl rfl rfl rfl (by omega) ?_
    | refine T.idxd rfl rfl (by omega) ?_
    | refine T.bsl rfl (by decide) ?_
    | refine T.slc rfl rfl rfl rfl ⟨rfl, rfl⟩ (by omega) ?_
    | refine T.go rfl rfl ?_
    | refine T.pass rfl rfl ?_
    | refine T.pickB rfl rfl rfl ?_
    | refine AW.retI ?_)
  refine AW.seqI fun Q1 hN hX hR => ?_
  repeat (first
    | refine T.pickF rfl rfl ?_
    | refine T.call0 enters19 rfl (byte_ok _) ?_
    | refine AW.regS fun K hK => ?_
    | refine AW.dregS fun K hK => ?_
    | refine AW.regN fun K hK => ?_
    | refine AW.dregN fun K hK => ?_
    | simp only [T.mv, AO.ev, put, lk, enter, reduceIte, Nat.reduceEqDiff, Nat.reduceAdd, Nat.reduceMul, Nat.reduceSub, ren_c, ren_tup, ren_agg, ren_sl, List.map, Int.reduceNeg, Int.toNat_zero, Nat.zero_add, Nat.add_zero, List.length_cons, List.length_nil, List.nil_append, List.cons_append, List.set_cons_zero, List.set_cons_succ, Int.reduceToNat, List.take_zero, upto, ren_psl, ren_ptr, List.getElem?_cons_zero, List.getElem?_cons_succ, renB, cells_ren]
    | refine T.nil ?_
    | (first | refine hK _ _ _ (by rfl) ?_ | refine hK _ _ _ ?_); simp only [keep, List.map, lk, reduceIte, Nat.reduceEqDiff, enter]; clear hK; clear K
    | refine T.add rfl rfl (by omega) (by omega) ?_
    | refine T.sub rfl rfl (by omega) (by omega) ?_
    | refine T.bin rfl rfl rfl ?_
    | refine T.rem rfl rfl (by omega) ?_
    | refine T.quo rfl rfl (by omega) ?_
    | refine T.shl rfl rfl (by omega) ?_
    | refine T.shr rfl rfl (by omega) ?_
    | refine T.min2 rfl rfl rfl ?_
    | refine T.max2 rfl rfl rfl ?_
    | refine T.ext rfl rfl ?_
    | refine T.lenc ?_
    | refine T.not rfl ?_
    | refine T.cvt rfl ?_
    | refine T.ld rfl rfl rfl rfl rfl ?_
    | refine T.ldd rfl rfl ?_
    | refine T.ldn rfl rfl rfl rfl (Nat.le_of_ble_eq_true rfl) ?_
    | refine T.lddn rfl (Nat.le_of_ble_eq_true rfl) ?_
    | refine T.fad rfl rfl rfl ?_
    | refine T.fadd rfl ?_
    | refine T.nilc rfl rfl rfl ?_
    | refine T.nilcd rfl ?_
    | refine T.st rfl rfl rfl ⟨rfl, rfl⟩ rfl (Nat.le_of_ble_eq_true rfl) ?_
    | refine T.fld rfl rfl ?_
    | refine T.new rfl ⟨rfl, by decide⟩ ?_
    | refine T.zero (by decide) ?_
    | refine T.build rfl ?_
    | refine T.len rfl rfl rfl ?_
    | refine T.lenS rfl ?_
    | refine T.lenN rfl ?_
    | refine T.mkf ?_
    | refine T.mki ?_
    | refine T.mksl rfl rfl (by decide) ?_
    | refine T.copy rfl rfl rfl ⟨rfl, rfl⟩ ?_
    | refine T.idx rfl rfl rfl ⟨rfl, rfl⟩ (by omega) ?_
    | refine T.idxa rfl rfl rfl rfl (by omega) ?_
    | refine T.idxd rfl rfl (by omega) ?_
    | refine T.bsl rfl (by decide) ?_
    | refine T.slc rfl rfl rfl rfl ⟨rfl, rfl⟩ (by omega) ?_
    | refine T.go rfl rfl ?_
    | refine T.pass rfl rfl ?_
    | refine T.pickB rfl rfl rfl ?_
    | refine AW.retI ?_)
  refine AW.condT rfl rfl ?_
  repeat (first
    | refine T.call0 enters19 rfl (byte_ok _) ?_
    | refine AW.regS fun K hK => ?_
    | refine AW.dregS fun K hK => ?_
    | refine AW.regN fun K hK => ?_
    | refine AW.dregN fun K hK => ?_
    | simp only [T.mv, AO.ev, put, lk, enter, reduceIte, Nat.reduceEqDiff, Nat.reduceAdd, Nat.reduceMul, Nat.reduceSub, ren_c, ren_tup, ren_agg, ren_sl, List.map, Int.reduceNeg, Int.toNat_zero, Nat.zero_add, Nat.add_zero, List.length_cons, List.length_nil, List.nil_append, List.cons_append, List.set_cons_zero, List.set_cons_succ, Int.reduceToNat, List.take_zero, upto, ren_psl, ren_ptr, List.getElem?_cons_zero, List.getElem?_cons_succ, renB, cells_ren]
    | refine T.nil ?_
    | (first | refine hK _ _ _ (by rfl) ?_ | refine hK _ _ _ ?_); simp only [keep, List.map, lk, reduceIte, Nat.reduceEqDiff, enter]; clear hK; clear K
    | refine T.add rfl rfl (by omega) (by omega) ?_
    | refine T.sub rfl rfl (by omega) (by omega) ?_
    | refine T.bin rfl rfl rfl ?_
    | refine T.rem rfl rfl (by omega) ?_
    | refine T.quo rfl rfl (by omega) ?_
    | refine T.shl rfl rfl (by omega) ?_
    | refine T.shr rfl rfl (by omega) ?_
    | refine T.min2 rfl rfl rfl ?_
    | refine T.max2 rfl rfl rfl ?_
    | refine T.ext rfl rfl ?_
    | refine T.lenc ?_
    | refine T.not rfl ?_
    | refine T.cvt rfl ?_
    | refine T.ld rfl rfl rfl rfl rfl ?_
    | refine T.ldd rfl rfl ?_
    | refine T.ldn rfl rfl rfl rfl (Nat.le_of_ble_eq_true rfl) ?_
    | refine T.lddn rfl (Nat.le_of_ble_eq_true rfl) ?_
    | refine T.fad rfl rfl rfl ?_
    | refine T.fadd rfl ?_
    | refine T.nilc rfl rfl rfl ?_
    | refine T.nilcd rfl ?_
    | refine T.st rfl rfl rfl ⟨rfl, rfl⟩ rfl (Nat.le_of_ble_eq_true rfl) ?_
    | refine T.fld rfl rfl ?_
    | refine T.new rfl ⟨rfl, by decide⟩ ?_
    | refine T.zero (by decide) ?_
    | refine T.build rfl ?_
    | refine T.len rfl rfl rfl ?_
    | refine T.lenS rfl ?_
    | refine T.lenN rfl ?_
    | refine T.mkf ?_
    | refine T.mki ?_
    | refine T.mksl rfl rfl (by decide) ?_
    | refine T.copy rfl rfl rfl ⟨rfl, rfl⟩ ?_
    | refine T.idx rfl rfl rfl ⟨rfl, rfl⟩ (by omega) ?_
    | refine T.idxa rfl rfl rfl rfl (by omega) ?_
    | refine T.idxd rfl rfl (by omega) ?_
    | refine T.bsl rfl (by decide) ?_
    | refine T.slc rfl rfl rfl rfl ⟨rfl, rfl⟩ (by omega) ?_
    | refine T.go rfl rfl ?_
    | refine T.pass rfl rfl ?_
    | refine T.pickB rfl rfl rfl ?_
    | refine AW.retI ?_)
  refine hN _ _ ?_
  repeat (first
    | refine AW.regS fun K hK => ?_
    | refine AW.dregS fun K hK => ?_
    | refine AW.regN fun K hK => ?_
    | refine AW.dregN fun K hK => ?_
    | simp only [T.mv, AO.ev, put, lk, enter, reduceIte, Nat.reduceEqDiff, Nat.reduceAdd, Nat.reduceMul, Nat.reduceSub, ren_c, ren_tup, ren_agg, ren_sl, List.map, Int.reduceNeg, Int.toNat_zero, Nat.zero_add, Nat.add_zero, List.length_cons, List.length_nil, List.nil_append, List.cons_append, List.set_cons_zero, List.set_cons_succ, Int.reduceToNat, List.take_zero, upto, ren_psl, ren_ptr, List.getElem?_cons_zero, List.getElem?_cons_succ, renB, cells_ren]
    | refine T.nil ?_
    | (first | refine hK _ _ _ (by rfl) ?_ | refine hK _ _ _ ?_); simp only [keep, List.map, lk, reduceIte, Nat.reduceEqDiff, enter]; clear hK; clear K
    | refine T.add rfl rfl (by omega) (by omega) ?_
    | refine T.sub rfl rfl (by omega) (by omega) ?_
    | refine T.bin rfl rfl rfl ?_
    | refine T.rem rfl rfl (by omega) ?_
    | refine T.quo rfl rfl (by omega) ?_
    | refine T.shl rfl rfl (by omega) ?_
    | refine T.shr rfl rfl (by omega) ?_
    | refine T.min2 rfl rfl rfl ?_
    | refine T.max2 rfl rfl rfl ?_
    | refine T.ext rfl rfl ?_
    | refine T.lenc ?_
    | refine T.not rfl ?_
    | refine T.cvt rfl ?_
    | refine T.ld rfl rfl rfl rfl rfl ?_
    | refine T.ldd rfl rfl ?_
    | refine T.ldn rfl rfl rfl rfl (Nat.le_of_ble_eq_true rfl) ?_
    | refine T.lddn rfl (Nat.le_of_ble_eq_true rfl) ?_
    | refine T.fad rfl rfl rfl ?_
    | refine T.fadd rfl ?_
    | refine T.nilc rfl rfl rfl ?_
    | refine T.nilcd rfl ?_
    | refine T.st rfl rfl rfl ⟨rfl, rfl⟩ rfl (Nat.le_of_ble_eq_true rfl) ?_
    | refine T.fld rfl rfl ?_
    | refine T.new rfl ⟨rfl, by decide⟩ ?_
    | refine T.zero (by decide) ?_
    | refine T.build rfl ?_
    | refine T.len rfl rfl rfl ?_
    | refine T.lenS rfl ?_
    | refine T.lenN rfl ?_
    | refine T.mkf ?_
    | refine T.mki ?_
    | refine T.mksl rfl rfl (by decide) ?_
    | refine T.copy rfl rfl rfl ⟨rfl, rfl⟩ ?_
    | refine T.idx rfl rfl rfl ⟨rfl, rfl⟩ (by omega) ?_
    | refine T.idxa rfl rfl rfl rfl (by omega) ?_
    | refine T.idxd rfl rfl (by omega) ?_
    | refine T.bsl rfl (by decide) ?_
    | refine T.slc rfl rfl rfl rfl ⟨rfl, rfl⟩ (by omega) ?_
    | refine T.go rfl rfl ?_
    | refine T.pass rfl rfl ?_
    | refine T.pickB rfl rfl rfl ?_
    | refine AW.retI ?_)
  exact hQ _ _ _ rfl (WeakV.drop (n := 1) rfl rfl)
theorem enters37 : enters Try.prog 37 = true := by kernel_rfl
theorem portread_ok (a b c : Int) : FnE Try.prog 39 [portV [a, b, c], I 0] [] (.tup [portV [byte a, byte b, byte c], I (bits .or .i64 (bits .and .i64 (byte b) (byte c)) (bits .andNot .i64 (byte a) (byte c)))]) [] := by
  refine fnI Try.func39 k39 (Nat.le_of_ble_eq_true rfl) q39 fun Q hQ => ?_
  rw [c39]
  repeat (first
    | refine T.callN enters65 rfl (portfit3 a b c) (by simp) ?_
    | refine AW.regS fun K hK => ?_
    | refine AW.dregS fun K hK => ?_
    | refine AW.regN fun K hK => ?_
    | refine AW.dregN fun K hK => ?_
    | simp only [T.mv, AO.ev, put, lk, enter, reduceIte, Nat.reduceEqDiff, Nat.reduceAdd, Nat.reduceMul, Nat.reduceSub, ren_c, ren_tup, ren_agg, ren_sl, List.map, Int.reduceNeg, Int.toNat_zero, Nat.zero_add, Nat.add_zero, List.length_cons, List.length_nil, List.nil_append, List.cons_append, List.set_cons_zero, List.set_cons_succ, Int.reduceToNat, List.take_zero, upto, ren_psl, ren_ptr, List.getElem?_cons_zero, List.getElem?_cons_succ, renB, cells_ren]
    | refine T.nil ?_
    | (first | refine hK _ _ _ (by rfl) ?_ | refine hK _ _ _ ?_); simp only [keep, List.map, lk, reduceIte, Nat.reduceEqDiff, enter]; clear hK; clear K
    | refine T.add rfl rfl (by omega) (by omega) ?_
    | refine T.sub rfl rfl (by omega) (by omega) ?_
    | refine T.bin rfl rfl rfl ?_
    | refine T.rem rfl rfl (by omega) ?_
    | refine T.quo rfl rfl (by omega) ?_
    | refine T.shl rfl rfl (by omega) ?_
    | refine T.shr rfl rfl (by omega) ?_
    | refine T.min2 rfl rfl rfl ?_
    | refine T.max2 rfl rfl rfl ?_
    | refine T.ext rfl rfl ?_
    | refine T.lenc ?_
    | refine T.not rfl ?_
    | refine T.cvt rfl ?_
    | refine T.ld rfl rfl rfl rfl rfl ?_
    | refine T.ldd rfl rfl ?_
    | refine T.ldn rfl rfl rfl rfl (Nat.le_of_ble_eq_true rfl) ?_
    | refine T.lddn rfl (Nat.le_of_ble_eq_true rfl) ?_
    | refine T.fad rfl rfl rfl ?_
    | refine T.fadd rfl ?_
    | refine T.nilc rfl rfl rfl ?_
    | refine T.nilcd rfl ?_
    | refine T.st rfl rfl rfl ⟨rfl, rfl⟩ rfl (Nat.le_of_ble_eq_true rfl) ?_
    | refine T.fld rfl rfl ?_
    | refine T.new rfl ⟨rfl, by decide⟩ ?_
    | refine T.zero (by decide) ?_
    | refine T.build rfl ?_
    | refine T.len rfl rfl rfl ?_
    | refine T.lenS rfl ?_
    | refine T.lenN rfl ?_
    | refine T.mkf ?_
    | refine T.mki ?_
    | refine T.mksl rfl rfl (by decide) ?_
    | refine T.copy rfl rfl rfl ⟨rfl, rfl⟩ ?_
    | refine T.idx rfl rfl rfl ⟨rfl, rfl⟩ (by omega) ?_
    | refine T.idxa rfl rfl rfl rfl (by omega) ?_
    | refine T.idxd rfl rfl (by omega) ?_
    | refine T.bsl rfl (by decide) ?_
    | refine T.slc rfl rfl rfl rfl ⟨rfl, rfl⟩ (by omega) ?_
    | refine T.go rfl rfl ?_
    | refine T.pass rfl rfl ?_
    | refine T.pickB rfl rfl rfl ?_
    | refine AW.retI ?_)
  refine AW.seqI fun Q1 hN hX hR => ?_
  repeat (first
    | refine AW.regS fun K hK => ?_
    | refine AW.dregS fun K hK => ?_
    | refine AW.regN fun K hK => ?_
    | refine AW.dregN fun K hK => ?_
    | simp only [T.mv, AO.ev, put, lk, enter, reduceIte, Nat.reduceEqDiff, Nat.reduceAdd, Nat.reduceMul, Nat.reduceSub, ren_c, ren_tup, ren_agg, ren_sl, List.map, Int.reduceNeg, Int.toNat_zero, Nat.zero_add, Nat.add_zero, List.length_cons, List.length_nil, List.nil_append, List.cons_append, List.set_cons_zero, List.set_cons_succ, Int.reduceToNat, List.take_zero, upto, ren_psl, ren_ptr, List.getElem?_cons_zero, List.getElem?_cons_succ, renB, cells_ren]
    | refine T.nil ?_
    | (first | refine hK _ _ _ (by rfl) ?_ | refine hK _ _ _ ?_); simp only [keep, List.map, lk, reduceIte, Nat.reduceEqDiff, enter]; clear hK; clear K
    | refine T.add rfl rfl (by omega) (by omega) ?_
    | refine T.sub rfl rfl (by omega) (by omega) ?_
    | refine T.bin rfl rfl rfl ?_
    | refine T.rem rfl rfl (by omega) ?_
    | refine T.quo rfl rfl (by omega) ?_
    | refine T.shl rfl rfl (by omega) ?_
    | refine T.shr rfl rfl (by omega) ?_
    | refine T.min2 rfl rfl rfl ?_
    | refine T.max2 rfl rfl rfl ?_
    | refine T.ext rfl rfl ?_
    | refine T.lenc ?_
    | refine T.not rfl ?_
    | refine T.cvt rfl ?_
    | refine T.ld rfl rfl rfl rfl rfl ?_
    | refine T.ldd rfl rfl ?_
    | refine T.ldn rfl rfl rfl rfl (Nat.le_of_ble_eq_true rfl) ?_
    | refine T.lddn rfl (Nat.le_of_ble_eq_true rfl) ?_
    | refine T.fad rfl rfl rfl ?_
    | refine T.fadd rfl ?_
    | refine T.nilc rfl rfl rfl ?_
    | refine T.nilcd rfl ?_
    | refine T.st rfl rfl rfl ⟨rfl, rfl⟩ rfl (Nat.le_of_ble_eq_true rfl) ?_
    | refine T.fld rfl rfl ?_
    | refine T.new rfl ⟨rfl, by decide⟩ ?_
    | refine T.zero (by decide) ?_
    | refine T.build rfl ?_
    | refine T.len rfl rfl rfl ?_
    | refine T.lenS rfl ?_
    | refine T.lenN rfl ?_
    | refine T.mkf ?_
    | refine T.mki ?_
    | refine T.mksl rfl rfl (by decide) ?_
    | refine T.copy rfl rfl rfl ⟨rfl, rfl⟩ ?_
    | refine T.idx rfl rfl rfl ⟨rfl, rfl⟩ (by omega) ?_
    | refine T.idxa rfl rfl rfl rfl (by omega) ?_
    | refine T.idxd rfl rfl (by omega) ?_
    | refine T.bsl rfl (by decide) ?_
    | refine T.slc rfl rfl rfl rfl ⟨rfl, rfl⟩ (by omega) ?_
    | refine T.go rfl rfl ?_
    | refine T.pass rfl rfl ?_
    | refine T.pickB rfl rfl rfl ?_
    | refine AW.retI ?_)
  refine AW.blockI fun Q2 gN gE gX gR => ?_
  repeat (first
    | refine AW.regS fun K hK => ?_
    | refine AW.dregS fun K hK => ?_
    | refine AW.regN fun K hK => ?_
    | refine AW.dregN fun K hK => ?_
    | simp only [T.mv, AO.ev, put, lk, enter, reduceIte, Nat.reduceEqDiff, Nat.reduceAdd, Nat.reduceMul, Nat.reduceSub, ren_c, ren_tup, ren_agg, ren_sl, List.map, Int.reduceNeg, Int.toNat_zero, Nat.zero_add, Nat.add_zero, List.length_cons, List.length_nil, List.nil_append, List.cons_append, List.set_cons_zero, List.set_cons_succ, Int.reduceToNat, List.take_zero, upto, ren_psl, ren_ptr, List.getElem?_cons_zero, List.getElem?_cons_succ, renB, cells_ren]
    | refine T.nil ?_
    | (first | refine hK _ _ _ (by rfl) ?_ | refine hK _ _ _ ?_); simp only [keep, List.map, lk, reduceIte, Nat.reduceEqDiff, enter]; clear hK; clear K
    | refine T.add rfl rfl (by omega) (by omega) ?_
    | refine T.sub rfl rfl (by omega) (by omega) ?_
    | refine T.bin rfl rfl rfl ?_
    | refine T.rem rfl rfl (by omega) ?_
    | refine T.quo rfl rfl (by omega) ?_
    | refine T.shl rfl rfl (by omega) ?_
    | refine T.shr rfl rfl (by omega) ?_
    | refine T.min2 rfl rfl rfl ?_
    | refine T.max2 rfl rfl rfl ?_
    | refine T.ext rfl rfl ?_
    | refine T.lenc ?_
    | refine T.not rfl ?_
    | refine T.cvt rfl ?_
    | refine T.ld rfl rfl rfl rfl rfl ?_
    | refine T.ldd rfl rfl ?_
    | refine T.ldn rfl rfl rfl rfl (Nat.le_of_ble_eq_true rfl) ?_
    | refine T.lddn rfl (Nat.le_of_ble_eq_true rfl) ?_
    | refine T.fad rfl rfl rfl ?_
    | refine T.fadd rfl ?_
    | refine T.nilc rfl rfl rfl ?_
    | refine T.nilcd rfl ?_
    | refine T.st rfl rfl rfl ⟨rfl, rfl⟩ rfl (Nat.le_of_ble_eq_true rfl) ?_
    | refine T.fld rfl rfl ?_
    | refine T.new rfl ⟨rfl, by decide⟩ ?_
    | refine T.zero (by decide) ?_
    | refine T.build rfl ?_
    | refine T.len rfl rfl rfl ?_
    | refine T.lenS rfl ?_
    | refine T.lenN rfl ?_
    | refine T.mkf ?_
    | refine T.mki ?_
    | refine T.mksl rfl rfl (by decide) ?_
    | refine T.copy rfl rfl rfl ⟨rfl, rfl⟩ ?_
    | refine T.idx rfl rfl rfl ⟨rfl, rfl⟩ (by omega) ?_
    | refine T.idxa rfl rfl rfl rfl (by omega) ?_
    | refine T.idxd rfl rfl (by omega) ?_
    | refine T.bsl rfl (by decide) ?_
    | refine T.slc rfl rfl rfl rfl ⟨rfl, rfl⟩ (by omega) ?_
    | refine T.go rfl rfl ?_
    | refine T.pass rfl rfl ?_
    | refine T.pickB rfl rfl rfl ?_
    | refine AW.retI ?_)
  refine AW.condT rfl rfl ?_
  repeat (first
    | refine AW.regS fun K hK => ?_
    | refine AW.dregS fun K hK => ?_
    | refine AW.regN fun K hK => ?_
    | refine AW.dregN fun K hK => ?_
    | simp only [T.mv, AO.ev, put, lk, enter, reduceIte, Nat.reduceEqDiff, Nat.reduceAdd, Nat.reduceMul, Nat.reduceSub, ren_c, ren_tup, ren_agg, ren_sl, List.map, Int.reduceNeg, Int.toNat_zero, Nat.zero_add, Nat.add_zero, List.length_cons, List.length_nil, List.nil_append, List.cons_append, List.set_cons_zero, List.set_cons_succ, Int.reduceToNat, List.take_zero, upto, ren_psl, ren_ptr, List.getElem?_cons_zero, List.getElem?_cons_succ, renB, cells_ren]
    | refine T.nil ?_
    | (first | refine hK _ _ _ (by rfl) ?_ | refine hK _ _ _ ?_); simp only [keep, List.map, lk, reduceIte, Nat.reduceEqDiff, enter]; clear hK; clear K
    | refine T.add rfl rfl (by omega) (by omega) ?_
    | refine T.sub rfl rfl (by omega) (by omega) ?_
    | refine T.bin rfl rfl rfl ?_
    | refine T.rem rfl rfl (by omega) ?_
    | refine T.quo rfl rfl (by omega) ?_
    | refine T.shl rfl rfl (by omega) ?_
    | refine T.shr rfl rfl (by omega) ?_
    | refine T.min2 rfl rfl rfl ?_
    | refine T.max2 rfl rfl rfl ?_
    | refine T.ext rfl rfl ?_
    | refine T.lenc ?_
    | refine T.not rfl ?_
    | refine T.cvt rfl ?_
    | refine T.ld rfl rfl rfl rfl rfl ?_
    | refine T.ldd rfl rfl ?_
    | refine T.ldn rfl rfl rfl rfl (Nat.le_of_ble_eq_true rfl) ?_
    | refine T.lddn rfl (Nat.le_of_ble_eq_true rfl) ?_
    | refine T.fad rfl rfl rfl ?_
    | refine T.fadd rfl ?_
    | refine T.nilc rfl rfl rfl ?_
    | refine T.nilcd rfl ?_
    | refine T.st rfl rfl rfl ⟨rfl, rfl⟩ rfl (Nat.le_of_ble_eq_true rfl) ?_
    | refine T.fld rfl rfl ?_
    | refine T.new rfl ⟨rfl, by decide⟩ ?_
    | refine T.zero (by decide) ?_
    | refine T.build rfl ?_
    | refine T.len rfl rfl rfl ?_
    | refine T.lenS rfl ?_
    | refine T.lenN rfl ?_
    | refine T.mkf ?_
    | refine T.mki ?_
    | refine T.mksl rfl rfl (by decide) ?_
    | refine T.copy rfl rfl rfl ⟨rfl, rfl⟩ ?_
    | refine T.idx rfl rfl rfl ⟨rfl, rfl⟩ (by omega) ?_
    | refine T.idxa rfl rfl rfl rfl (by omega) ?_
    | refine T.idxd rfl rfl (by omega) ?_
    | refine T.bsl rfl (by decide) ?_
    | refine T.slc rfl rfl rfl rfl ⟨rfl, rfl⟩ (by omega) ?_
    | refine T.go rfl rfl ?_
    | refine T.pass rfl rfl ?_
    | refine T.pickB rfl rfl rfl ?_
    | refine AW.retI ?_)
  refine gN _ _ (hN _ _ ?_)
  repeat (first
    | refine AW.regS fun K hK => ?_
    | refine AW.dregS fun K hK => ?_
    | refine AW.regN fun K hK => ?_
    | refine AW.dregN fun K hK => ?_
    | simp only [T.mv, AO.ev, put, lk, enter, reduceIte, Nat.reduceEqDiff, Nat.reduceAdd, Nat.reduceMul, Nat.reduceSub, ren_c, ren_tup, ren_agg, ren_sl, List.map, Int.reduceNeg, Int.toNat_zero, Nat.zero_add, Nat.add_zero, List.length_cons, List.length_nil, List.nil_append, List.cons_append, List.set_cons_zero, List.set_cons_succ, Int.reduceToNat, List.take_zero, upto, ren_psl, ren_ptr, List.getElem?_cons_zero, List.getElem?_cons_succ, renB, cells_ren]
    | refine T.nil ?_
    | (first | refine hK _ _ _ (by rfl) ?_ | refine hK _ _ _ ?_); simp only [keep, List.map, lk, reduceIte, Nat.reduceEqDiff, enter]; clear hK; clear K
    | refine T.add rfl rfl (by omega) (by omega) ?_
    | refine T.sub rfl rfl (by omega) (by omega) ?_
    | refine T.bin rfl rfl rfl ?_
    | refine T.rem rfl rfl (by omega) ?_
    | refine T.quo rfl rfl (by omega) ?_
    | refine T.shl rfl rfl (by omega) ?_
    | refine T.shr rfl rfl (by omega) ?_
    | refine T.min2 rfl rfl rfl ?_
    | refine T.max2 rfl rfl rfl ?_
    | refine T.ext rfl rfl ?_
    | refine T.lenc ?_
    | refine T.not rfl ?_
    | refine T.cvt rfl ?_
    | refine T.ld rfl rfl rfl rfl rfl ?_
    | refine T.ldd rfl rfl ?_
    | refine T.ldn rfl rfl rfl rfl (Nat.le_of_ble_eq_true rfl) ?_
    | refine T.lddn rfl (Nat.le_of_ble_eq_true rfl) ?_
    | refine T.fad rfl rfl rfl ?_
    | refine T.fadd rfl ?_
    | refine T.nilc rfl rfl rfl ?_
    | refine T.nilcd rfl ?_
    | refine T.st rfl rfl rfl ⟨rfl, rfl⟩ rfl (Nat.le_of_ble_eq_true rfl) ?_
    | refine T.fld rfl rfl ?_
    | refine T.new rfl ⟨rfl, by decide⟩ ?_
    | refine T.zero (by decide) ?_
    | refine T.build rfl ?_
    | refine T.len rfl rfl rfl ?_
    | refine T.lenS rfl ?_
    | refine T.lenN rfl ?_
    | refine T.mkf ?_
    | refine T.mki ?_
    | refine T.mksl rfl rfl (by decide) ?_
    | refine T.copy rfl rfl rfl ⟨rfl, rfl⟩ ?_
    | refine T.idx rfl rfl rfl ⟨rfl, rfl⟩ (by omega) ?_
    | refine T.idxa rfl rfl rfl rfl (by omega) ?_
    | refine T.idxd rfl rfl (by omega) ?_
    | refine T.bsl rfl (by decide) ?_
    | refine T.slc rfl rfl rfl rfl ⟨rfl, rfl⟩ (by omega) ?_
    | refine T.go rfl rfl ?_
    | refine T.pass rfl rfl ?_
    | refine T.pickB rfl rfl rfl ?_
    | refine AW.retI ?_)
  exact hQ _ _ _ rfl (WeakV.drop (n := 1) rfl rfl)
theorem enters39 : enters Try.prog 39 = true := by kernel_rfl
theorem ports_ok : FnE Try.prog 41 [] [] (.c (.bool true)) [] := by
  refine fnI Try.func41 k41 (Nat.le_of_ble_eq_true rfl) q41 fun Q hQ => ?_
  rw [c41]
  repeat (first
    | refine T.call0 enters38 rfl portnew_ok ?_
    | refine T.call0 enters39 rfl (portread_ok 255 0 0) ?_
    | refine AW.regS fun K hK => ?_
    | refine AW.dregS fun K hK => ?_
    | refine AW.regN fun K hK => ?_
    | refine AW.dregN fun K hK => ?_
    | simp only [T.mv, AO.ev, put, lk, enter, reduceIte, Nat.reduceEqDiff, Nat.reduceAdd, Nat.reduceMul, Nat.reduceSub, ren_c, ren_tup, ren_agg, ren_sl, List.map, Int.reduceNeg, Int.toNat_zero, Nat.zero_add, Nat.add_zero, List.length_cons, List.length_nil, List.nil_append, List.cons_append, List.set_cons_zero, List.set_cons_succ, Int.reduceToNat, List.take_zero, upto, ren_psl, ren_ptr, List.getElem?_cons_zero, List.getElem?_cons_succ, renB, cells_ren]
    | refine T.nil ?_
    | (first | refine hK _ _ _ (by rfl) ?_ | refine hK _ _ _ ?_); simp only [keep, List.map, lk, reduceIte, Nat.reduceEqDiff, enter]; clear hK; clear K
    | refine T.add rfl rfl (by omega) (by omega) ?_
    | refine T.sub rfl rfl (by omega) (by omega) ?_
    | refine T.bin rfl rfl rfl ?_
    | refine T.rem rfl rfl (by omega) ?_
    | refine T.quo rfl rfl (by omega) ?_
    | refine T.shl rfl rfl (by omega) ?_
    | refine T.shr rfl rfl (by omega) ?_
    | refine T.min2 rfl rfl rfl ?_
    | refine T.max2 rfl rfl rfl ?_
    | refine T.ext rfl rfl ?_
    | refine T.lenc ?_
    | refine T.not rfl ?_
    | refine T.cvt rfl ?_
    | refine T.ld rfl rfl rfl rfl rfl ?_
    | refine T.ldd rfl rfl ?_
    | refine T.ldn rfl rfl rfl rfl (Nat.le_of_ble_eq_true rfl) ?_
    | refine T.lddn rfl (Nat.le_of_ble_eq_true rfl) ?_
    | refine T.fad rfl rfl rfl ?_
    | refine T.fadd rfl ?_
    | refine T.nilc rfl rfl rfl ?_
    | refine T.nilcd rfl ?_
    | refine T.st rfl rfl rfl ⟨rfl, rfl⟩ rfl (Nat.le_of_ble_eq_true rfl) ?_
    | refine T.fld rfl rfl ?_
    | refine T.new rfl ⟨rfl, by decide⟩ ?_
    | refine T.zero (by decide) ?_
    | refine T.build rfl ?_
    | refine T.len rfl rfl rfl ?_
    | refine T.lenS rfl ?_
    | refine T.lenN rfl ?_
    | refine T.mkf ?_
    | refine T.mki ?_
    | refine T.mksl rfl rfl (by decide) ?_
    | refine T.copy rfl rfl rfl ⟨rfl, rfl⟩ ?_
    | refine T.idx rfl rfl rfl ⟨rfl, rfl⟩ (by omega) ?_
    | refine T.idxa rfl rfl rfl rfl (by omega) ?_
    | refine T.idxd rfl rfl (by omega) ?_
    | refine T.bsl rfl (by decide) ?_
    | refine T.slc rfl rfl rfl rfl ⟨rfl, rfl⟩ (by omega) ?_
    | refine T.go rfl rfl ?_
    | refine T.pass rfl rfl ?_
    | refine T.pickB rfl rfl rfl ?_
    | refine AW.retI ?_)
  exact hQ _ _ _ rfl (WeakV.cE rfl (by rw [decide_eq_true (by decide +kernel)]))
theorem enters41 : enters Try.prog 41 = true := by kernel_rfl
end Go.Proofs.Ytcgjmkbajjngaaa.Calc
