/- The contracts of bit's Add, Sub, Rol, Ror and Signed for bytes; plain lemmas on flags. Condition: bytes. -/
import Derived.Test.YtjmmompbmjhkpaaFnKit
import Derived.Test.YtjmmompbmjhkpaaFnField
namespace Go.Proofs.Ytjmmompbmjhkpaa.Calc
open Go Code
set_option linter.unusedSimpArgs false
set_option linter.unusedVariables false
set_option maxRecDepth 20000
set_option maxHeartbeats 4000000
attribute [local irreducible] WOpsT AW AK RK AKW UK UC
theorem byte_ind {p : Int → Prop} [DecidablePred p] (h : (List.range 256).all (fun n => decide (p (n : Int))) = true) (v : Int) (hv : 0 ≤ v ∧ v < 256) : p v := by
  have := List.all_eq_true.1 h v.toNat (List.mem_range.2 (by omega))
  have h2 := of_decide_eq_true this
  rwa [show ((v.toNat : Nat) : Int) = v by omega] at h2
theorem width8 : FnE Try.prog 92 [I 8] [] (I 8) [] := width_ok 8
theorem add8 (a b c : Int) (ha : 0 ≤ a ∧ a < 256) (hb : 0 ≤ b ∧ b < 256) (hc : c = 0 ∨ c = 1) : FnE Try.prog 157 [I a, I b, I c, I 8] [] (.tup [I ((a + b + c) % 256), I ((a + b + c) / 256)]) [] := by
  refine N.fn Try.func157 k157 (Nat.le_of_ble_eq_true rfl) q157 fun Q hQ hQN => ?_
  rw [c157]
  have e1 : c % 2 = c := by omega
  have e2 : (a + b + c) / 2 ^ min 8 IntKind.i64.bits = (a + b + c) / 256 := rfl
  repeat' (first
    | rw [bits1]
    | rw [e1]
    | rw [e2]
    | refine N.regS fun K hK => ?_
    | refine N.dregS fun K hK => ?_
    | refine N.regN fun K hK => ?_
    | refine N.dregN fun K hK => ?_
    | simp only [T.mv, AO.ev, put, lk, enter, reduceIte, Nat.reduceEqDiff, Nat.reduceAdd, Nat.reduceMul, Nat.reduceSub, ren_c, ren_tup, ren_agg, ren_sl, List.map, Int.reduceNeg, Int.toNat_zero, Nat.zero_add, Nat.add_zero, List.length_cons, List.length_nil, List.nil_append, List.cons_append, List.set_cons_zero, List.set_cons_succ, Int.reduceToNat, List.take_zero, upto, ren_psl, ren_ptr, List.getElem?_cons_zero, List.getElem?_cons_succ, renB, cells_ren, bcells_ren, setAll, List.append_nil, List.take_succ_cons, List.drop_succ_cons, List.drop_zero, List.take_nil, List.drop_nil, List.map_cons, List.map_nil, decide_eq_true_eq, Bool.false_eq_true, true_iff, iff_true, false_iff, iff_false]
    | (refine T.nil ?_; (first | refine hK _ _ _ (by rfl) ?_ | refine hK _ _ _ ?_); simp only [keep, List.map, lk, reduceIte, Nat.reduceEqDiff, enter]; clear hK; clear K)
    | (show WOpsT _ (⟨_, .call _ _, none⟩ :: _) _ _ _ _; first | refine T.call0 e92 rfl (width8) ?_ | refine T.call0 e35 rfl (low_in a 8 8 rfl (by decide) ha) ?_ | refine T.call0 e35 rfl (low_in b 8 8 rfl (by decide) hb) ?_ | refine T.call0 e35 rfl (low_lit (a + b + c) 8 8 rfl (by decide)) ?_)
    | (show WOpsT _ (⟨_, .ld _ _, none⟩ :: _) _ _ _ _; first | refine T.ld rfl rfl rfl rfl rfl ?_ | refine T.ldd rfl rfl ?_ | refine T.ldn rfl rfl rfl rfl (Nat.le_of_ble_eq_true rfl) ?_ | refine T.lddn rfl (Nat.le_of_ble_eq_true rfl) ?_)
    | (show WOpsT _ (⟨_, .idx _ _ _ _, none⟩ :: _) _ _ _ _; first | refine T.idx rfl rfl rfl ⟨rfl, rfl⟩ (by omega) ?_ | refine T.idxs rfl rfl rfl (by omega) rfl ?_ | refine T.idxa rfl rfl rfl rfl (by omega) ?_ | refine T.idxd rfl rfl (by omega) ?_)
    | (show WOpsT _ (⟨_, .bin _ _ _, none⟩ :: _) _ _ _ _; first | refine T.add rfl rfl (by omega) (by omega) ?_ | refine T.sub rfl rfl (by omega) (by omega) ?_ | refine T.mul rfl rfl (by omega) (by omega) ?_ | refine T.rem rfl rfl (by omega) ?_ | refine T.quo rfl rfl (by omega) ?_ | refine T.shl rfl rfl (by omega) ?_ | refine T.shr rfl rfl (by omega) ?_ | refine T.bin rfl rfl rfl ?_)
    | (show WOpsT _ (⟨_, _, some (_, true)⟩ :: _) _ _ _ _; first | refine T.goT rfl (by omega) ?_ | refine T.paT rfl (by omega) ?_ | refine T.go rfl rfl ?_ | refine T.pass rfl rfl ?_ | refine T.pU rfl ?_ | refine T.gT rfl (fun hgd => ?_) (fun hgd => ?_))
    | (show WOpsT _ (⟨_, _, some (_, false)⟩ :: _) _ _ _ _; first | refine T.goF rfl (by omega) ?_ | refine T.paF rfl (by omega) ?_ | refine T.go rfl rfl ?_ | refine T.pass rfl rfl ?_ | refine T.pU rfl ?_ | refine T.gF rfl (fun hgd => ?_) (fun hgd => ?_))
    | (show WOpsT _ (⟨_, .pick _ _ _, none⟩ :: _) _ _ _ _; first | refine T.pkT rfl (by omega) ?_ | refine T.pkF rfl (by omega) ?_ | refine T.pickT rfl rfl ?_ | refine T.pickF rfl rfl ?_ | refine T.pickB rfl rfl rfl ?_ | refine T.pkD rfl (fun hgd => ?_) (fun hgd => ?_))
    | (show AKW _ _ _ _ _ _ _; first | refine N.now ?_)
    | (show UK _ _ _ _ _ _ _ _; first | refine N.round ?_)
    | (show UC _ _ _ _ _ _ _ _; first | refine N.ucN ?_)
    | (show AK _ _ (.cond _ _ _) _ _ _ _; first | refine N.cT rfl (by omega) ?_ | refine N.cF rfl (by omega) ?_ | refine N.condT rfl rfl ?_ | refine N.condF rfl rfl ?_ | refine N.condD rfl (fun hcd => ?_) (fun hcd => ?_) | refine N.condB rfl (fun hcd => ?_) (fun hcd => ?_) | refine N.condU rfl ?_ ?_)
    | (show AK _ _ _ _ _ _ _; first | refine N.seq ?_ | refine N.block ?_ | refine N.skip ?_ | refine N.exit ?_ | refine N.ret ?_)
    | (show RK _ _ _ _ _ _ _; first | refine N.seqN ?_ | refine N.blkN ?_ | refine N.blkE rfl ?_ | refine N.blkX (by decide) ?_ | refine N.seqX ?_ | refine N.lpX ?_ | refine N.cuN ?_ | refine N.cuE rfl ?_ | refine N.cuX (by decide) ?_ | refine N.cuR ?_ | refine N.seqR ?_ | refine N.blkR ?_ | refine N.lpR ?_ | refine N.lpN ?_ | refine N.nil ?_)
    | (show WOpsT _ _ _ _ _ _; first | refine T.min2 rfl rfl rfl ?_ | refine T.max2 rfl rfl rfl ?_ | refine T.ext rfl rfl ?_ | refine T.lenc ?_ | refine T.eqnP rfl rfl ⟨rfl, by decide⟩ ?_ | refine T.eqnN rfl ?_ | refine T.eqnU rfl ?_ | refine T.lens rfl ?_ | refine T.i2s rfl ?_ | refine T.s2b rfl ?_ | refine T.slcs rfl rfl rfl (by omega) ?_ | refine T.capN rfl ?_ | refine T.slcN rfl rfl rfl ?_ | refine T.neg rfl ?_ | refine T.xorn rfl ?_ | refine T.notD rfl ?_ | refine T.not rfl ?_ | refine T.eqb0 rfl rfl ?_ | refine T.eqb1 rfl rfl ?_ | refine T.cvt rfl ?_ | refine T.fad rfl rfl rfl ?_ | refine T.fadd rfl ?_ | refine T.nilc rfl rfl rfl ?_ | refine T.nilcd rfl ?_ | refine T.nilcf rfl ?_ | refine T.nilci rfl ?_ | refine T.st rfl rfl rfl ⟨rfl, rfl⟩ rfl (Nat.le_of_ble_eq_true rfl) ?_ | refine T.fld rfl rfl ?_ | refine T.new rfl ⟨rfl, by decide⟩ ?_ | refine T.zero (by decide) ?_ | refine T.build rfl ?_ | refine T.len rfl rfl rfl ?_ | refine T.lenS rfl ?_ | refine T.lenN rfl ?_ | refine T.mkf ?_ | refine T.mki ?_ | refine T.mksl rfl rfl (by decide) ?_ | refine T.copy rfl rfl rfl ⟨rfl, rfl⟩ ?_ | refine T.ixa rfl rfl (by omega) rfl ?_ | refine T.bsl rfl (by decide) ?_ | refine T.slc rfl rfl rfl rfl ⟨rfl, rfl⟩ (by omega) ?_ | refine T.slcS rfl rfl rfl rfl (by omega) ?_)
    | refine hQ _ _ _ rfl ?_
    | refine hQN _ _ _ rfl ?_)
  exact WS.tup2 rfl rfl rfl
theorem sub8 (a b c : Int) (ha : 0 ≤ a ∧ a < 256) (hb : 0 ≤ b ∧ b < 256) (hc : c = 0 ∨ c = 1) : FnE Try.prog 160 [I a, I b, I c, I 8] [] (.tup [I ((a - b - c) % 256), I (if a - b - c < 0 then 1 else 0)]) [] := by
  refine N.fn Try.func160 k160 (Nat.le_of_ble_eq_true rfl) q160 fun Q hQ hQN => ?_
  rw [c160]
  have e1 : c % 2 = c := by omega
  have e2 : IntKind.wrap .i64 (1 * 2 ^ min 8 IntKind.i64.bits) = 256 := rfl
  by_cases h : a - b - c < 0
  · rw [if_pos h] at hQ hQN
    repeat' (first
      | rw [bits1]
      | rw [e1]
      | rw [e2]
      | refine N.regS fun K hK => ?_
      | refine N.dregS fun K hK => ?_
      | refine N.regN fun K hK => ?_
      | refine N.dregN fun K hK => ?_
      | simp only [T.mv, AO.ev, put, lk, enter, reduceIte, Nat.reduceEqDiff, Nat.reduceAdd, Nat.reduceMul, Nat.reduceSub, ren_c, ren_tup, ren_agg, ren_sl, List.map, Int.reduceNeg, Int.toNat_zero, Nat.zero_add, Nat.add_zero, List.length_cons, List.length_nil, List.nil_append, List.cons_append, List.set_cons_zero, List.set_cons_succ, Int.reduceToNat, List.take_zero, upto, ren_psl, ren_ptr, List.getElem?_cons_zero, List.getElem?_cons_succ, renB, cells_ren, bcells_ren, setAll, List.append_nil, List.take_succ_cons, List.drop_succ_cons, List.drop_zero, List.take_nil, List.drop_nil, List.map_cons, List.map_nil, decide_eq_true_eq, Bool.false_eq_true, true_iff, iff_true, false_iff, iff_false]
      | (refine T.nil ?_; (first | refine hK _ _ _ (by rfl) ?_ | refine hK _ _ _ ?_); simp only [keep, List.map, lk, reduceIte, Nat.reduceEqDiff, enter]; clear hK; clear K)
      | (show WOpsT _ (⟨_, .call _ _, none⟩ :: _) _ _ _ _; first | refine T.call0 e92 rfl (width8) ?_ | refine T.call0 e35 rfl (low_in a 8 8 rfl (by decide) ha) ?_ | refine T.call0 e35 rfl (low_in b 8 8 rfl (by decide) hb) ?_)
      | (show WOpsT _ (⟨_, .ld _ _, none⟩ :: _) _ _ _ _; first | refine T.ld rfl rfl rfl rfl rfl ?_ | refine T.ldd rfl rfl ?_ | refine T.ldn rfl rfl rfl rfl (Nat.le_of_ble_eq_true rfl) ?_ | refine T.lddn rfl (Nat.le_of_ble_eq_true rfl) ?_)
      | (show WOpsT _ (⟨_, .idx _ _ _ _, none⟩ :: _) _ _ _ _; first | refine T.idx rfl rfl rfl ⟨rfl, rfl⟩ (by omega) ?_ | refine T.idxs rfl rfl rfl (by omega) rfl ?_ | refine T.idxa rfl rfl rfl rfl (by omega) ?_ | refine T.idxd rfl rfl (by omega) ?_)
      | (show WOpsT _ (⟨_, .bin _ _ _, none⟩ :: _) _ _ _ _; first | refine T.add rfl rfl (by omega) (by omega) ?_ | refine T.sub rfl rfl (by omega) (by omega) ?_ | refine T.mul rfl rfl (by omega) (by omega) ?_ | refine T.rem rfl rfl (by omega) ?_ | refine T.quo rfl rfl (by omega) ?_ | refine T.shl rfl rfl (by omega) ?_ | refine T.shr rfl rfl (by omega) ?_ | refine T.bin rfl rfl rfl ?_)
      | (show WOpsT _ (⟨_, _, some (_, true)⟩ :: _) _ _ _ _; first | refine T.goT rfl (by omega) ?_ | refine T.paT rfl (by omega) ?_ | refine T.go rfl rfl ?_ | refine T.pass rfl rfl ?_ | refine T.pU rfl ?_ | refine T.gT rfl (fun hgd => ?_) (fun hgd => ?_))
      | (show WOpsT _ (⟨_, _, some (_, false)⟩ :: _) _ _ _ _; first | refine T.goF rfl (by omega) ?_ | refine T.paF rfl (by omega) ?_ | refine T.go rfl rfl ?_ | refine T.pass rfl rfl ?_ | refine T.pU rfl ?_ | refine T.gF rfl (fun hgd => ?_) (fun hgd => ?_))
      | (show WOpsT _ (⟨_, .pick _ _ _, none⟩ :: _) _ _ _ _; first | refine T.pkT rfl (by omega) ?_ | refine T.pkF rfl (by omega) ?_ | refine T.pickT rfl rfl ?_ | refine T.pickF rfl rfl ?_ | refine T.pickB rfl rfl rfl ?_ | refine T.pkD rfl (fun hgd => ?_) (fun hgd => ?_))
      | (show AKW _ _ _ _ _ _ _; first | refine N.now ?_)
      | (show UK _ _ _ _ _ _ _ _; first | refine N.round ?_)
      | (show UC _ _ _ _ _ _ _ _; first | refine N.ucN ?_)
      | (show AK _ _ (.cond _ _ _) _ _ _ _; first | refine N.cT rfl (by omega) ?_ | refine N.cF rfl (by omega) ?_ | refine N.condT rfl rfl ?_ | refine N.condF rfl rfl ?_ | refine N.condD rfl (fun hcd => ?_) (fun hcd => ?_) | refine N.condB rfl (fun hcd => ?_) (fun hcd => ?_) | refine N.condU rfl ?_ ?_)
      | (show AK _ _ _ _ _ _ _; first | refine N.seq ?_ | refine N.block ?_ | refine N.skip ?_ | refine N.exit ?_ | refine N.ret ?_)
      | (show RK _ _ _ _ _ _ _; first | refine N.seqN ?_ | refine N.blkN ?_ | refine N.blkE rfl ?_ | refine N.blkX (by decide) ?_ | refine N.seqX ?_ | refine N.lpX ?_ | refine N.cuN ?_ | refine N.cuE rfl ?_ | refine N.cuX (by decide) ?_ | refine N.cuR ?_ | refine N.seqR ?_ | refine N.blkR ?_ | refine N.lpR ?_ | refine N.lpN ?_ | refine N.nil ?_)
      | (show WOpsT _ _ _ _ _ _; first | refine T.min2 rfl rfl rfl ?_ | refine T.max2 rfl rfl rfl ?_ | refine T.ext rfl rfl ?_ | refine T.lenc ?_ | refine T.eqnP rfl rfl ⟨rfl, by decide⟩ ?_ | refine T.eqnN rfl ?_ | refine T.eqnU rfl ?_ | refine T.lens rfl ?_ | refine T.i2s rfl ?_ | refine T.s2b rfl ?_ | refine T.slcs rfl rfl rfl (by omega) ?_ | refine T.capN rfl ?_ | refine T.slcN rfl rfl rfl ?_ | refine T.neg rfl ?_ | refine T.xorn rfl ?_ | refine T.notD rfl ?_ | refine T.not rfl ?_ | refine T.eqb0 rfl rfl ?_ | refine T.eqb1 rfl rfl ?_ | refine T.cvt rfl ?_ | refine T.fad rfl rfl rfl ?_ | refine T.fadd rfl ?_ | refine T.nilc rfl rfl rfl ?_ | refine T.nilcd rfl ?_ | refine T.nilcf rfl ?_ | refine T.nilci rfl ?_ | refine T.st rfl rfl rfl ⟨rfl, rfl⟩ rfl (Nat.le_of_ble_eq_true rfl) ?_ | refine T.fld rfl rfl ?_ | refine T.new rfl ⟨rfl, by decide⟩ ?_ | refine T.zero (by decide) ?_ | refine T.build rfl ?_ | refine T.len rfl rfl rfl ?_ | refine T.lenS rfl ?_ | refine T.lenN rfl ?_ | refine T.mkf ?_ | refine T.mki ?_ | refine T.mksl rfl rfl (by decide) ?_ | refine T.copy rfl rfl rfl ⟨rfl, rfl⟩ ?_ | refine T.ixa rfl rfl (by omega) rfl ?_ | refine T.bsl rfl (by decide) ?_ | refine T.slc rfl rfl rfl rfl ⟨rfl, rfl⟩ (by omega) ?_ | refine T.slcS rfl rfl rfl rfl (by omega) ?_)
      | refine hQ _ _ _ rfl ?_
      | refine hQN _ _ _ rfl ?_)
    exact WS.tup2 rfl (by congr 1; omega) rfl
  · rw [if_neg h] at hQ hQN
    repeat' (first
      | rw [bits1]
      | rw [e1]
      | rw [e2]
      | refine N.regS fun K hK => ?_
      | refine N.dregS fun K hK => ?_
      | refine N.regN fun K hK => ?_
      | refine N.dregN fun K hK => ?_
      | simp only [T.mv, AO.ev, put, lk, enter, reduceIte, Nat.reduceEqDiff, Nat.reduceAdd, Nat.reduceMul, Nat.reduceSub, ren_c, ren_tup, ren_agg, ren_sl, List.map, Int.reduceNeg, Int.toNat_zero, Nat.zero_add, Nat.add_zero, List.length_cons, List.length_nil, List.nil_append, List.cons_append, List.set_cons_zero, List.set_cons_succ, Int.reduceToNat, List.take_zero, upto, ren_psl, ren_ptr, List.getElem?_cons_zero, List.getElem?_cons_succ, renB, cells_ren, bcells_ren, setAll, List.append_nil, List.take_succ_cons, List.drop_succ_cons, List.drop_zero, List.take_nil, List.drop_nil, List.map_cons, List.map_nil, decide_eq_true_eq, Bool.false_eq_true, true_iff, iff_true, false_iff, iff_false]
      | (refine T.nil ?_; (first | refine hK _ _ _ (by rfl) ?_ | refine hK _ _ _ ?_); simp only [keep, List.map, lk, reduceIte, Nat.reduceEqDiff, enter]; clear hK; clear K)
      | (show WOpsT _ (⟨_, .call _ _, none⟩ :: _) _ _ _ _; first | refine T.call0 e92 rfl (width8) ?_ | refine T.call0 e35 rfl (low_in a 8 8 rfl (by decide) ha) ?_ | refine T.call0 e35 rfl (low_in b 8 8 rfl (by decide) hb) ?_)
      | (show WOpsT _ (⟨_, .ld _ _, none⟩ :: _) _ _ _ _; first | refine T.ld rfl rfl rfl rfl rfl ?_ | refine T.ldd rfl rfl ?_ | refine T.ldn rfl rfl rfl rfl (Nat.le_of_ble_eq_true rfl) ?_ | refine T.lddn rfl (Nat.le_of_ble_eq_true rfl) ?_)
      | (show WOpsT _ (⟨_, .idx _ _ _ _, none⟩ :: _) _ _ _ _; first | refine T.idx rfl rfl rfl ⟨rfl, rfl⟩ (by omega) ?_ | refine T.idxs rfl rfl rfl (by omega) rfl ?_ | refine T.idxa rfl rfl rfl rfl (by omega) ?_ | refine T.idxd rfl rfl (by omega) ?_)
      | (show WOpsT _ (⟨_, .bin _ _ _, none⟩ :: _) _ _ _ _; first | refine T.add rfl rfl (by omega) (by omega) ?_ | refine T.sub rfl rfl (by omega) (by omega) ?_ | refine T.mul rfl rfl (by omega) (by omega) ?_ | refine T.rem rfl rfl (by omega) ?_ | refine T.quo rfl rfl (by omega) ?_ | refine T.shl rfl rfl (by omega) ?_ | refine T.shr rfl rfl (by omega) ?_ | refine T.bin rfl rfl rfl ?_)
      | (show WOpsT _ (⟨_, _, some (_, true)⟩ :: _) _ _ _ _; first | refine T.goT rfl (by omega) ?_ | refine T.paT rfl (by omega) ?_ | refine T.go rfl rfl ?_ | refine T.pass rfl rfl ?_ | refine T.pU rfl ?_ | refine T.gT rfl (fun hgd => ?_) (fun hgd => ?_))
      | (show WOpsT _ (⟨_, _, some (_, false)⟩ :: _) _ _ _ _; first | refine T.goF rfl (by omega) ?_ | refine T.paF rfl (by omega) ?_ | refine T.go rfl rfl ?_ | refine T.pass rfl rfl ?_ | refine T.pU rfl ?_ | refine T.gF rfl (fun hgd => ?_) (fun hgd => ?_))
      | (show WOpsT _ (⟨_, .pick _ _ _, none⟩ :: _) _ _ _ _; first | refine T.pkT rfl (by omega) ?_ | refine T.pkF rfl (by omega) ?_ | refine T.pickT rfl rfl ?_ | refine T.pickF rfl rfl ?_ | refine T.pickB rfl rfl rfl ?_ | refine T.pkD rfl (fun hgd => ?_) (fun hgd => ?_))
      | (show AKW _ _ _ _ _ _ _; first | refine N.now ?_)
      | (show UK _ _ _ _ _ _ _ _; first | refine N.round ?_)
      | (show UC _ _ _ _ _ _ _ _; first | refine N.ucN ?_)
      | (show AK _ _ (.cond _ _ _) _ _ _ _; first | refine N.cT rfl (by omega) ?_ | refine N.cF rfl (by omega) ?_ | refine N.condT rfl rfl ?_ | refine N.condF rfl rfl ?_ | refine N.condD rfl (fun hcd => ?_) (fun hcd => ?_) | refine N.condB rfl (fun hcd => ?_) (fun hcd => ?_) | refine N.condU rfl ?_ ?_)
      | (show AK _ _ _ _ _ _ _; first | refine N.seq ?_ | refine N.block ?_ | refine N.skip ?_ | refine N.exit ?_ | refine N.ret ?_)
      | (show RK _ _ _ _ _ _ _; first | refine N.seqN ?_ | refine N.blkN ?_ | refine N.blkE rfl ?_ | refine N.blkX (by decide) ?_ | refine N.seqX ?_ | refine N.lpX ?_ | refine N.cuN ?_ | refine N.cuE rfl ?_ | refine N.cuX (by decide) ?_ | refine N.cuR ?_ | refine N.seqR ?_ | refine N.blkR ?_ | refine N.lpR ?_ | refine N.lpN ?_ | refine N.nil ?_)
      | (show WOpsT _ _ _ _ _ _; first | refine T.min2 rfl rfl rfl ?_ | refine T.max2 rfl rfl rfl ?_ | refine T.ext rfl rfl ?_ | refine T.lenc ?_ | refine T.eqnP rfl rfl ⟨rfl, by decide⟩ ?_ | refine T.eqnN rfl ?_ | refine T.eqnU rfl ?_ | refine T.lens rfl ?_ | refine T.i2s rfl ?_ | refine T.s2b rfl ?_ | refine T.slcs rfl rfl rfl (by omega) ?_ | refine T.capN rfl ?_ | refine T.slcN rfl rfl rfl ?_ | refine T.neg rfl ?_ | refine T.xorn rfl ?_ | refine T.notD rfl ?_ | refine T.not rfl ?_ | refine T.eqb0 rfl rfl ?_ | refine T.eqb1 rfl rfl ?_ | refine T.cvt rfl ?_ | refine T.fad rfl rfl rfl ?_ | refine T.fadd rfl ?_ | refine T.nilc rfl rfl rfl ?_ | refine T.nilcd rfl ?_ | refine T.nilcf rfl ?_ | refine T.nilci rfl ?_ | refine T.st rfl rfl rfl ⟨rfl, rfl⟩ rfl (Nat.le_of_ble_eq_true rfl) ?_ | refine T.fld rfl rfl ?_ | refine T.new rfl ⟨rfl, by decide⟩ ?_ | refine T.zero (by decide) ?_ | refine T.build rfl ?_ | refine T.len rfl rfl rfl ?_ | refine T.lenS rfl ?_ | refine T.lenN rfl ?_ | refine T.mkf ?_ | refine T.mki ?_ | refine T.mksl rfl rfl (by decide) ?_ | refine T.copy rfl rfl rfl ⟨rfl, rfl⟩ ?_ | refine T.ixa rfl rfl (by omega) rfl ?_ | refine T.bsl rfl (by decide) ?_ | refine T.slc rfl rfl rfl rfl ⟨rfl, rfl⟩ (by omega) ?_ | refine T.slcS rfl rfl rfl rfl (by omega) ?_)
      | refine hQ _ _ _ rfl ?_
      | refine hQN _ _ _ rfl ?_)
    exact WS.tup2 rfl (by congr 1; omega) rfl
theorem or_rol (v c : Int) (hv : 0 ≤ v ∧ v < 256) (hc : c = 0 ∨ c = 1) : bits .or .i64 (IntKind.wrap .i64 (v * 2 ^ min 1 IntKind.i64.bits)) c = 2 * v + c := by
  rcases hc with rfl | rfl
  · exact byte_ind (p := fun v => bits .or .i64 (IntKind.wrap .i64 (v * 2 ^ min 1 IntKind.i64.bits)) 0 = 2 * v + 0) (by decide +kernel) v hv
  · exact byte_ind (p := fun v => bits .or .i64 (IntKind.wrap .i64 (v * 2 ^ min 1 IntKind.i64.bits)) 1 = 2 * v + 1) (by decide +kernel) v hv
theorem or_ror (v c : Int) (hv : 0 ≤ v ∧ v < 256) (hc : c = 0 ∨ c = 1) : bits .or .i64 v (IntKind.wrap .i64 (c * 2 ^ min 8 IntKind.i64.bits)) = v + c * 256 := by
  rcases hc with rfl | rfl
  · exact byte_ind (p := fun v => bits .or .i64 v (IntKind.wrap .i64 (0 * 2 ^ min 8 IntKind.i64.bits)) = v + 0 * 256) (by decide +kernel) v hv
  · exact byte_ind (p := fun v => bits .or .i64 v (IntKind.wrap .i64 (1 * 2 ^ min 8 IntKind.i64.bits)) = v + 1 * 256) (by decide +kernel) v hv
theorem rol8 (v c : Int) (hc : c = 0 ∨ c = 1) : FnE Try.prog 161 [I v, I c, I 8] [] (.tup [I ((2 * (v % 256) + c) % 256), I ((2 * (v % 256) + c) / 256)]) [] := by
  refine N.fn Try.func161 k161 (Nat.le_of_ble_eq_true rfl) q161 fun Q hQ hQN => ?_
  rw [c161]
  have e1 : c % 2 = c := by omega
  have hl := low_lit v 8 8 rfl (by decide)
  rw [show v % 2 ^ 8 = v % 256 from rfl] at hl
  obtain ⟨u, hu⟩ : ∃ u, v % 256 = u := ⟨_, rfl⟩
  rw [hu] at hl hQ hQN
  have hv : 0 ≤ u ∧ u < 256 := by omega
  have e2 : (2 * u + c) / 2 ^ min 8 IntKind.i64.bits = (2 * u + c) / 256 := rfl
  repeat' (first
    | rw [bits1]
    | rw [e1]
    | rw [or_rol u c hv hc]
    | rw [e2]
    | refine N.regS fun K hK => ?_
    | refine N.dregS fun K hK => ?_
    | refine N.regN fun K hK => ?_
    | refine N.dregN fun K hK => ?_
    | simp only [T.mv, AO.ev, put, lk, enter, reduceIte, Nat.reduceEqDiff, Nat.reduceAdd, Nat.reduceMul, Nat.reduceSub, ren_c, ren_tup, ren_agg, ren_sl, List.map, Int.reduceNeg, Int.toNat_zero, Nat.zero_add, Nat.add_zero, List.length_cons, List.length_nil, List.nil_append, List.cons_append, List.set_cons_zero, List.set_cons_succ, Int.reduceToNat, List.take_zero, upto, ren_psl, ren_ptr, List.getElem?_cons_zero, List.getElem?_cons_succ, renB, cells_ren, bcells_ren, setAll, List.append_nil, List.take_succ_cons, List.drop_succ_cons, List.drop_zero, List.take_nil, List.drop_nil, List.map_cons, List.map_nil, decide_eq_true_eq, Bool.false_eq_true, true_iff, iff_true, false_iff, iff_false]
    | (refine T.nil ?_; (first | refine hK _ _ _ (by rfl) ?_ | refine hK _ _ _ ?_); simp only [keep, List.map, lk, reduceIte, Nat.reduceEqDiff, enter]; clear hK; clear K)
    | (show WOpsT _ (⟨_, .call _ _, none⟩ :: _) _ _ _ _; first | refine T.call0 e92 rfl (width8) ?_ | refine T.call0 e35 rfl (hl) ?_ | refine T.call0 e35 rfl (low_lit (2 * u + c) 8 8 rfl (by decide)) ?_)
    | (show WOpsT _ (⟨_, .ld _ _, none⟩ :: _) _ _ _ _; first | refine T.ld rfl rfl rfl rfl rfl ?_ | refine T.ldd rfl rfl ?_ | refine T.ldn rfl rfl rfl rfl (Nat.le_of_ble_eq_true rfl) ?_ | refine T.lddn rfl (Nat.le_of_ble_eq_true rfl) ?_)
    | (show WOpsT _ (⟨_, .idx _ _ _ _, none⟩ :: _) _ _ _ _; first | refine T.idx rfl rfl rfl ⟨rfl, rfl⟩ (by omega) ?_ | refine T.idxs rfl rfl rfl (by omega) rfl ?_ | refine T.idxa rfl rfl rfl rfl (by omega) ?_ | refine T.idxd rfl rfl (by omega) ?_)
    | (show WOpsT _ (⟨_, .bin _ _ _, none⟩ :: _) _ _ _ _; first | refine T.add rfl rfl (by omega) (by omega) ?_ | refine T.sub rfl rfl (by omega) (by omega) ?_ | refine T.mul rfl rfl (by omega) (by omega) ?_ | refine T.rem rfl rfl (by omega) ?_ | refine T.quo rfl rfl (by omega) ?_ | refine T.shl rfl rfl (by omega) ?_ | refine T.shr rfl rfl (by omega) ?_ | refine T.bin rfl rfl rfl ?_)
    | (show WOpsT _ (⟨_, _, some (_, true)⟩ :: _) _ _ _ _; first | refine T.goT rfl (by omega) ?_ | refine T.paT rfl (by omega) ?_ | refine T.go rfl rfl ?_ | refine T.pass rfl rfl ?_ | refine T.pU rfl ?_ | refine T.gT rfl (fun hgd => ?_) (fun hgd => ?_))
    | (show WOpsT _ (⟨_, _, some (_, false)⟩ :: _) _ _ _ _; first | refine T.goF rfl (by omega) ?_ | refine T.paF rfl (by omega) ?_ | refine T.go rfl rfl ?_ | refine T.pass rfl rfl ?_ | refine T.pU rfl ?_ | refine T.gF rfl (fun hgd => ?_) (fun hgd => ?_))
    | (show WOpsT _ (⟨_, .pick _ _ _, none⟩ :: _) _ _ _ _; first | refine T.pkT rfl (by omega) ?_ | refine T.pkF rfl (by omega) ?_ | refine T.pickT rfl rfl ?_ | refine T.pickF rfl rfl ?_ | refine T.pickB rfl rfl rfl ?_ | refine T.pkD rfl (fun hgd => ?_) (fun hgd => ?_))
    | (show AKW _ _ _ _ _ _ _; first | refine N.now ?_)
    | (show UK _ _ _ _ _ _ _ _; first | refine N.round ?_)
    | (show UC _ _ _ _ _ _ _ _; first | refine N.ucN ?_)
    | (show AK _ _ (.cond _ _ _) _ _ _ _; first | refine N.cT rfl (by omega) ?_ | refine N.cF rfl (by omega) ?_ | refine N.condT rfl rfl ?_ | refine N.condF rfl rfl ?_ | refine N.condD rfl (fun hcd => ?_) (fun hcd => ?_) | refine N.condB rfl (fun hcd => ?_) (fun hcd => ?_) | refine N.condU rfl ?_ ?_)
    | (show AK _ _ _ _ _ _ _; first | refine N.seq ?_ | refine N.block ?_ | refine N.skip ?_ | refine N.exit ?_ | refine N.ret ?_)
    | (show RK _ _ _ _ _ _ _; first | refine N.seqN ?_ | refine N.blkN ?_ | refine N.blkE rfl ?_ | refine N.blkX (by decide) ?_ | refine N.seqX ?_ | refine N.lpX ?_ | refine N.cuN ?_ | refine N.cuE rfl ?_ | refine N.cuX (by decide) ?_ | refine N.cuR ?_ | refine N.seqR ?_ | refine N.blkR ?_ | refine N.lpR ?_ | refine N.lpN ?_ | refine N.nil ?_)
    | (show WOpsT _ _ _ _ _ _; first | refine T.min2 rfl rfl rfl ?_ | refine T.max2 rfl rfl rfl ?_ | refine T.ext rfl rfl ?_ | refine T.lenc ?_ | refine T.eqnP rfl rfl ⟨rfl, by decide⟩ ?_ | refine T.eqnN rfl ?_ | refine T.eqnU rfl ?_ | refine T.lens rfl ?_ | refine T.i2s rfl ?_ | refine T.s2b rfl ?_ | refine T.slcs rfl rfl rfl (by omega) ?_ | refine T.capN rfl ?_ | refine T.slcN rfl rfl rfl ?_ | refine T.neg rfl ?_ | refine T.xorn rfl ?_ | refine T.notD rfl ?_ | refine T.not rfl ?_ | refine T.eqb0 rfl rfl ?_ | refine T.eqb1 rfl rfl ?_ | refine T.cvt rfl ?_ | refine T.fad rfl rfl rfl ?_ | refine T.fadd rfl ?_ | refine T.nilc rfl rfl rfl ?_ | refine T.nilcd rfl ?_ | refine T.nilcf rfl ?_ | refine T.nilci rfl ?_ | refine T.st rfl rfl rfl ⟨rfl, rfl⟩ rfl (Nat.le_of_ble_eq_true rfl) ?_ | refine T.fld rfl rfl ?_ | refine T.new rfl ⟨rfl, by decide⟩ ?_ | refine T.zero (by decide) ?_ | refine T.build rfl ?_ | refine T.len rfl rfl rfl ?_ | refine T.lenS rfl ?_ | refine T.lenN rfl ?_ | refine T.mkf ?_ | refine T.mki ?_ | refine T.mksl rfl rfl (by decide) ?_ | refine T.copy rfl rfl rfl ⟨rfl, rfl⟩ ?_ | refine T.ixa rfl rfl (by omega) rfl ?_ | refine T.bsl rfl (by decide) ?_ | refine T.slc rfl rfl rfl rfl ⟨rfl, rfl⟩ (by omega) ?_ | refine T.slcS rfl rfl rfl rfl (by omega) ?_)
    | refine hQ _ _ _ rfl ?_
    | refine hQN _ _ _ rfl ?_)
  exact WS.tup2 rfl rfl rfl
theorem ror8 (v c : Int) (hc : c = 0 ∨ c = 1) : FnE Try.prog 162 [I v, I c, I 8] [] (.tup [I ((v % 256 + c * 256) / 2), I ((v % 256 + c * 256) % 2)]) [] := by
  refine N.fn Try.func162 k162 (Nat.le_of_ble_eq_true rfl) q162 fun Q hQ hQN => ?_
  rw [c162]
  have e1 : c % 2 = c := by omega
  have hl := low_lit v 8 8 rfl (by decide)
  rw [show v % 2 ^ 8 = v % 256 from rfl] at hl
  obtain ⟨u, hu⟩ : ∃ u, v % 256 = u := ⟨_, rfl⟩
  rw [hu] at hl hQ hQN
  have hv : 0 ≤ u ∧ u < 256 := by omega
  have e2 : (u + c * 256) / 2 ^ min 1 IntKind.i64.bits = (u + c * 256) / 2 := rfl
  repeat' (first
    | rw [bits1]
    | rw [e1]
    | rw [or_ror u c hv hc]
    | rw [e2]
    | refine N.regS fun K hK => ?_
    | refine N.dregS fun K hK => ?_
    | refine N.regN fun K hK => ?_
    | refine N.dregN fun K hK => ?_
    | simp only [T.mv, AO.ev, put, lk, enter, reduceIte, Nat.reduceEqDiff, Nat.reduceAdd, Nat.reduceMul, Nat.reduceSub, ren_c, ren_tup, ren_agg, ren_sl, List.map, Int.reduceNeg, Int.toNat_zero, Nat.zero_add, Nat.add_zero, List.length_cons, List.length_nil, List.nil_append, List.cons_append, List.set_cons_zero, List.set_cons_succ, Int.reduceToNat, List.take_zero, upto, ren_psl, ren_ptr, List.getElem?_cons_zero, List.getElem?_cons_succ, renB, cells_ren, bcells_ren, setAll, List.append_nil, List.take_succ_cons, List.drop_succ_cons, List.drop_zero, List.take_nil, List.drop_nil, List.map_cons, List.map_nil, decide_eq_true_eq, Bool.false_eq_true, true_iff, iff_true, false_iff, iff_false]
    | (refine T.nil ?_; (first | refine hK _ _ _ (by rfl) ?_ | refine hK _ _ _ ?_); simp only [keep, List.map, lk, reduceIte, Nat.reduceEqDiff, enter]; clear hK; clear K)
    | (show WOpsT _ (⟨_, .call _ _, none⟩ :: _) _ _ _ _; first | refine T.call0 e92 rfl (width8) ?_ | refine T.call0 e35 rfl (hl) ?_)
    | (show WOpsT _ (⟨_, .ld _ _, none⟩ :: _) _ _ _ _; first | refine T.ld rfl rfl rfl rfl rfl ?_ | refine T.ldd rfl rfl ?_ | refine T.ldn rfl rfl rfl rfl (Nat.le_of_ble_eq_true rfl) ?_ | refine T.lddn rfl (Nat.le_of_ble_eq_true rfl) ?_)
    | (show WOpsT _ (⟨_, .idx _ _ _ _, none⟩ :: _) _ _ _ _; first | refine T.idx rfl rfl rfl ⟨rfl, rfl⟩ (by omega) ?_ | refine T.idxs rfl rfl rfl (by omega) rfl ?_ | refine T.idxa rfl rfl rfl rfl (by omega) ?_ | refine T.idxd rfl rfl (by omega) ?_)
    | (show WOpsT _ (⟨_, .bin _ _ _, none⟩ :: _) _ _ _ _; first | refine T.add rfl rfl (by omega) (by omega) ?_ | refine T.sub rfl rfl (by omega) (by omega) ?_ | refine T.mul rfl rfl (by omega) (by omega) ?_ | refine T.rem rfl rfl (by omega) ?_ | refine T.quo rfl rfl (by omega) ?_ | refine T.shl rfl rfl (by omega) ?_ | refine T.shr rfl rfl (by omega) ?_ | refine T.bin rfl rfl rfl ?_)
    | (show WOpsT _ (⟨_, _, some (_, true)⟩ :: _) _ _ _ _; first | refine T.goT rfl (by omega) ?_ | refine T.paT rfl (by omega) ?_ | refine T.go rfl rfl ?_ | refine T.pass rfl rfl ?_ | refine T.pU rfl ?_ | refine T.gT rfl (fun hgd => ?_) (fun hgd => ?_))
    | (show WOpsT _ (⟨_, _, some (_, false)⟩ :: _) _ _ _ _; first | refine T.goF rfl (by omega) ?_ | refine T.paF rfl (by omega) ?_ | refine T.go rfl rfl ?_ | refine T.pass rfl rfl ?_ | refine T.pU rfl ?_ | refine T.gF rfl (fun hgd => ?_) (fun hgd => ?_))
    | (show WOpsT _ (⟨_, .pick _ _ _, none⟩ :: _) _ _ _ _; first | refine T.pkT rfl (by omega) ?_ | refine T.pkF rfl (by omega) ?_ | refine T.pickT rfl rfl ?_ | refine T.pickF rfl rfl ?_ | refine T.pickB rfl rfl rfl ?_ | refine T.pkD rfl (fun hgd => ?_) (fun hgd => ?_))
    | (show AKW _ _ _ _ _ _ _; first | refine N.now ?_)
    | (show UK _ _ _ _ _ _ _ _; first | refine N.round ?_)
    | (show UC _ _ _ _ _ _ _ _; first | refine N.ucN ?_)
    | (show AK _ _ (.cond _ _ _) _ _ _ _; first | refine N.cT rfl (by omega) ?_ | refine N.cF rfl (by omega) ?_ | refine N.condT rfl rfl ?_ | refine N.condF rfl rfl ?_ | refine N.condD rfl (fun hcd => ?_) (fun hcd => ?_) | refine N.condB rfl (fun hcd => ?_) (fun hcd => ?_) | refine N.condU rfl ?_ ?_)
    | (show AK _ _ _ _ _ _ _; first | refine N.seq ?_ | refine N.block ?_ | refine N.skip ?_ | refine N.exit ?_ | refine N.ret ?_)
    | (show RK _ _ _ _ _ _ _; first | refine N.seqN ?_ | refine N.blkN ?_ | refine N.blkE rfl ?_ | refine N.blkX (by decide) ?_ | refine N.seqX ?_ | refine N.lpX ?_ | refine N.cuN ?_ | refine N.cuE rfl ?_ | refine N.cuX (by decide) ?_ | refine N.cuR ?_ | refine N.seqR ?_ | refine N.blkR ?_ | refine N.lpR ?_ | refine N.lpN ?_ | refine N.nil ?_)
    | (show WOpsT _ _ _ _ _ _; first | refine T.min2 rfl rfl rfl ?_ | refine T.max2 rfl rfl rfl ?_ | refine T.ext rfl rfl ?_ | refine T.lenc ?_ | refine T.eqnP rfl rfl ⟨rfl, by decide⟩ ?_ | refine T.eqnN rfl ?_ | refine T.eqnU rfl ?_ | refine T.lens rfl ?_ | refine T.i2s rfl ?_ | refine T.s2b rfl ?_ | refine T.slcs rfl rfl rfl (by omega) ?_ | refine T.capN rfl ?_ | refine T.slcN rfl rfl rfl ?_ | refine T.neg rfl ?_ | refine T.xorn rfl ?_ | refine T.notD rfl ?_ | refine T.not rfl ?_ | refine T.eqb0 rfl rfl ?_ | refine T.eqb1 rfl rfl ?_ | refine T.cvt rfl ?_ | refine T.fad rfl rfl rfl ?_ | refine T.fadd rfl ?_ | refine T.nilc rfl rfl rfl ?_ | refine T.nilcd rfl ?_ | refine T.nilcf rfl ?_ | refine T.nilci rfl ?_ | refine T.st rfl rfl rfl ⟨rfl, rfl⟩ rfl (Nat.le_of_ble_eq_true rfl) ?_ | refine T.fld rfl rfl ?_ | refine T.new rfl ⟨rfl, by decide⟩ ?_ | refine T.zero (by decide) ?_ | refine T.build rfl ?_ | refine T.len rfl rfl rfl ?_ | refine T.lenS rfl ?_ | refine T.lenN rfl ?_ | refine T.mkf ?_ | refine T.mki ?_ | refine T.mksl rfl rfl (by decide) ?_ | refine T.copy rfl rfl rfl ⟨rfl, rfl⟩ ?_ | refine T.ixa rfl rfl (by omega) rfl ?_ | refine T.bsl rfl (by decide) ?_ | refine T.slc rfl rfl rfl rfl ⟨rfl, rfl⟩ (by omega) ?_ | refine T.slcS rfl rfl rfl rfl (by omega) ?_)
    | refine hQ _ _ _ rfl ?_
    | refine hQN _ _ _ rfl ?_)
  exact WS.tup2 rfl rfl rfl
/-- A byte as a signed number. -/
def sgn8 (v : Int) : Int := if 128 ≤ v % 256 then v % 256 - 256 else v % 256
theorem signed8 (v : Int) : FnE Try.prog 111 [I v, I 8] [] (I (sgn8 v)) [] := by
  refine N.fn Try.func111 k111 (Nat.le_of_ble_eq_true rfl) q111 fun Q hQ hQN => ?_
  rw [c111]
  have e1 : v % 2 ^ 8 / 2 ^ min 7 IntKind.i64.bits = v % 256 / 128 := rfl
  have e2 : IntKind.wrap .i64 (1 * 2 ^ min 8 IntKind.i64.bits) = 256 := rfl
  repeat' (first
    | rw [e1]
    | rw [e2]
    | rw [show (8 : Int) - 1 = 7 by decide]
    | refine N.regS fun K hK => ?_
    | refine N.dregS fun K hK => ?_
    | refine N.regN fun K hK => ?_
    | refine N.dregN fun K hK => ?_
    | simp only [T.mv, AO.ev, put, lk, enter, reduceIte, Nat.reduceEqDiff, Nat.reduceAdd, Nat.reduceMul, Nat.reduceSub, ren_c, ren_tup, ren_agg, ren_sl, List.map, Int.reduceNeg, Int.toNat_zero, Nat.zero_add, Nat.add_zero, List.length_cons, List.length_nil, List.nil_append, List.cons_append, List.set_cons_zero, List.set_cons_succ, Int.reduceToNat, List.take_zero, upto, ren_psl, ren_ptr, List.getElem?_cons_zero, List.getElem?_cons_succ, renB, cells_ren, bcells_ren, setAll, List.append_nil, List.take_succ_cons, List.drop_succ_cons, List.drop_zero, List.take_nil, List.drop_nil, List.map_cons, List.map_nil, decide_eq_true_eq, Bool.false_eq_true, true_iff, iff_true, false_iff, iff_false]
    | (refine T.nil ?_; (first | refine hK _ _ _ (by rfl) ?_ | refine hK _ _ _ ?_); simp only [keep, List.map, lk, reduceIte, Nat.reduceEqDiff, enter]; clear hK; clear K)
    | (show WOpsT _ (⟨_, .call _ _, none⟩ :: _) _ _ _ _; first | refine T.call0 e92 rfl (width8) ?_ | refine T.call0 e35 rfl (low_lit v 8 8 rfl (by decide)) ?_)
    | (show WOpsT _ (⟨_, .ld _ _, none⟩ :: _) _ _ _ _; first | refine T.ld rfl rfl rfl rfl rfl ?_ | refine T.ldd rfl rfl ?_ | refine T.ldn rfl rfl rfl rfl (Nat.le_of_ble_eq_true rfl) ?_ | refine T.lddn rfl (Nat.le_of_ble_eq_true rfl) ?_)
    | (show WOpsT _ (⟨_, .idx _ _ _ _, none⟩ :: _) _ _ _ _; first | refine T.idx rfl rfl rfl ⟨rfl, rfl⟩ (by omega) ?_ | refine T.idxs rfl rfl rfl (by omega) rfl ?_ | refine T.idxa rfl rfl rfl rfl (by omega) ?_ | refine T.idxd rfl rfl (by omega) ?_)
    | (show WOpsT _ (⟨_, .bin _ _ _, none⟩ :: _) _ _ _ _; first | refine T.add rfl rfl (by omega) (by omega) ?_ | refine T.sub rfl rfl (by omega) (by omega) ?_ | refine T.mul rfl rfl (by omega) (by omega) ?_ | refine T.rem rfl rfl (by omega) ?_ | refine T.quo rfl rfl (by omega) ?_ | refine T.shl rfl rfl (by omega) ?_ | refine T.shr rfl rfl (by omega) ?_ | refine T.bin rfl rfl rfl ?_)
    | (show WOpsT _ (⟨_, _, some (_, true)⟩ :: _) _ _ _ _; first | refine T.goT rfl (by omega) ?_ | refine T.paT rfl (by omega) ?_ | refine T.go rfl rfl ?_ | refine T.pass rfl rfl ?_ | refine T.pU rfl ?_ | refine T.gT rfl (fun hgd => ?_) (fun hgd => ?_))
    | (show WOpsT _ (⟨_, _, some (_, false)⟩ :: _) _ _ _ _; first | refine T.goF rfl (by omega) ?_ | refine T.paF rfl (by omega) ?_ | refine T.go rfl rfl ?_ | refine T.pass rfl rfl ?_ | refine T.pU rfl ?_ | refine T.gF rfl (fun hgd => ?_) (fun hgd => ?_))
    | (show WOpsT _ (⟨_, .pick _ _ _, none⟩ :: _) _ _ _ _; first | refine T.pkT rfl (by omega) ?_ | refine T.pkF rfl (by omega) ?_ | refine T.pickT rfl rfl ?_ | refine T.pickF rfl rfl ?_ | refine T.pickB rfl rfl rfl ?_ | refine T.pkD rfl (fun hgd => ?_) (fun hgd => ?_))
    | (show AKW _ _ _ _ _ _ _; first | refine N.now ?_)
    | (show UK _ _ _ _ _ _ _ _; first | refine N.round ?_)
    | (show UC _ _ _ _ _ _ _ _; first | refine N.ucN ?_)
    | (show AK _ _ (.cond _ _ _) _ _ _ _; first | refine N.cT rfl (by omega) ?_ | refine N.cF rfl (by omega) ?_ | refine N.condT rfl rfl ?_ | refine N.condF rfl rfl ?_ | refine N.condD rfl (fun hcd => ?_) (fun hcd => ?_) | refine N.condB rfl (fun hcd => ?_) (fun hcd => ?_) | refine N.condU rfl ?_ ?_)
    | (show AK _ _ _ _ _ _ _; first | refine N.seq ?_ | refine N.block ?_ | refine N.skip ?_ | refine N.exit ?_ | refine N.ret ?_)
    | (show RK _ _ _ _ _ _ _; first | refine N.seqN ?_ | refine N.blkN ?_ | refine N.blkE rfl ?_ | refine N.blkX (by decide) ?_ | refine N.seqX ?_ | refine N.lpX ?_ | refine N.cuN ?_ | refine N.cuE rfl ?_ | refine N.cuX (by decide) ?_ | refine N.cuR ?_ | refine N.seqR ?_ | refine N.blkR ?_ | refine N.lpR ?_ | refine N.lpN ?_ | refine N.nil ?_)
    | (show WOpsT _ _ _ _ _ _; first | refine T.min2 rfl rfl rfl ?_ | refine T.max2 rfl rfl rfl ?_ | refine T.ext rfl rfl ?_ | refine T.lenc ?_ | refine T.eqnP rfl rfl ⟨rfl, by decide⟩ ?_ | refine T.eqnN rfl ?_ | refine T.eqnU rfl ?_ | refine T.lens rfl ?_ | refine T.i2s rfl ?_ | refine T.s2b rfl ?_ | refine T.slcs rfl rfl rfl (by omega) ?_ | refine T.capN rfl ?_ | refine T.slcN rfl rfl rfl ?_ | refine T.neg rfl ?_ | refine T.xorn rfl ?_ | refine T.notD rfl ?_ | refine T.not rfl ?_ | refine T.eqb0 rfl rfl ?_ | refine T.eqb1 rfl rfl ?_ | refine T.cvt rfl ?_ | refine T.fad rfl rfl rfl ?_ | refine T.fadd rfl ?_ | refine T.nilc rfl rfl rfl ?_ | refine T.nilcd rfl ?_ | refine T.nilcf rfl ?_ | refine T.nilci rfl ?_ | refine T.st rfl rfl rfl ⟨rfl, rfl⟩ rfl (Nat.le_of_ble_eq_true rfl) ?_ | refine T.fld rfl rfl ?_ | refine T.new rfl ⟨rfl, by decide⟩ ?_ | refine T.zero (by decide) ?_ | refine T.build rfl ?_ | refine T.len rfl rfl rfl ?_ | refine T.lenS rfl ?_ | refine T.lenN rfl ?_ | refine T.mkf ?_ | refine T.mki ?_ | refine T.mksl rfl rfl (by decide) ?_ | refine T.copy rfl rfl rfl ⟨rfl, rfl⟩ ?_ | refine T.ixa rfl rfl (by omega) rfl ?_ | refine T.bsl rfl (by decide) ?_ | refine T.slc rfl rfl rfl rfl ⟨rfl, rfl⟩ (by omega) ?_ | refine T.slcS rfl rfl rfl rfl (by omega) ?_)
    | refine hQ _ _ _ rfl ?_
    | refine hQN _ _ _ rfl ?_)
  all_goals (refine WS.c rfl ?_; unfold sgn8; congr 1; omega)
/-- A flag set or cleared. -/
def fl (p m : Int) (on : Bool) : Int := if on then bits .or .i64 (bits .andNot .i64 p m) m else bits .andNot .i64 p m
theorem fl_byte (p m : Int) (on : Bool) (hp : 0 ≤ p ∧ p < 256) (hm : m = 1 ∨ m = 2 ∨ m = 4 ∨ m = 128) : 0 ≤ fl p m on ∧ fl p m on < 256 := by
  rcases hm with rfl | rfl | rfl | rfl <;> cases on
  · exact byte_ind (p := fun p => 0 ≤ fl p 1 false ∧ fl p 1 false < 256) (by decide +kernel) p hp
  · exact byte_ind (p := fun p => 0 ≤ fl p 1 true ∧ fl p 1 true < 256) (by decide +kernel) p hp
  · exact byte_ind (p := fun p => 0 ≤ fl p 2 false ∧ fl p 2 false < 256) (by decide +kernel) p hp
  · exact byte_ind (p := fun p => 0 ≤ fl p 2 true ∧ fl p 2 true < 256) (by decide +kernel) p hp
  · exact byte_ind (p := fun p => 0 ≤ fl p 4 false ∧ fl p 4 false < 256) (by decide +kernel) p hp
  · exact byte_ind (p := fun p => 0 ≤ fl p 4 true ∧ fl p 4 true < 256) (by decide +kernel) p hp
  · exact byte_ind (p := fun p => 0 ≤ fl p 128 false ∧ fl p 128 false < 256) (by decide +kernel) p hp
  · exact byte_ind (p := fun p => 0 ≤ fl p 128 true ∧ fl p 128 true < 256) (by decide +kernel) p hp
/-- What each flag is behind a flag was set. -/
theorem fl_get (p m : Int) (on : Bool) (hp : 0 ≤ p ∧ p < 256) (hm : m = 1 ∨ m = 2 ∨ m = 4 ∨ m = 128) : bits .and .i64 (fl p m on) m = if on then m else 0 := by
  rcases hm with rfl | rfl | rfl | rfl <;> cases on
  · exact byte_ind (p := fun p => bits .and .i64 (fl p 1 false) 1 = 0) (by decide +kernel) p hp
  · exact byte_ind (p := fun p => bits .and .i64 (fl p 1 true) 1 = 1) (by decide +kernel) p hp
  · exact byte_ind (p := fun p => bits .and .i64 (fl p 2 false) 2 = 0) (by decide +kernel) p hp
  · exact byte_ind (p := fun p => bits .and .i64 (fl p 2 true) 2 = 2) (by decide +kernel) p hp
  · exact byte_ind (p := fun p => bits .and .i64 (fl p 4 false) 4 = 0) (by decide +kernel) p hp
  · exact byte_ind (p := fun p => bits .and .i64 (fl p 4 true) 4 = 4) (by decide +kernel) p hp
  · exact byte_ind (p := fun p => bits .and .i64 (fl p 128 false) 128 = 0) (by decide +kernel) p hp
  · exact byte_ind (p := fun p => bits .and .i64 (fl p 128 true) 128 = 128) (by decide +kernel) p hp
theorem fl_other (p m q : Int) (on : Bool) (hp : 0 ≤ p ∧ p < 256) (hm : m = 1 ∨ m = 2 ∨ m = 4 ∨ m = 128) (hq : q = 1 ∨ q = 2 ∨ q = 4 ∨ q = 128) (hne : m ≠ q) : bits .and .i64 (fl p m on) q = bits .and .i64 p q := by
  have key : (List.range 256).all (fun n => decide (∀ m ∈ [(1 : Int), 2, 4, 128], ∀ q ∈ [(1 : Int), 2, 4, 128], m ≠ q → ∀ on ∈ [true, false], bits .and .i64 (fl (n : Int) m on) q = bits .and .i64 (n : Int) q)) = true := by decide +kernel
  exact byte_ind (p := fun p => ∀ m ∈ [(1 : Int), 2, 4, 128], ∀ q ∈ [(1 : Int), 2, 4, 128], m ≠ q → ∀ on ∈ [true, false], bits .and .i64 (fl p m on) q = bits .and .i64 p q) key p hp m (by simp; omega) q (by simp; omega) hne on (by cases on <;> simp)
end Go.Proofs.Ytjmmompbmjhkpaa.Calc
