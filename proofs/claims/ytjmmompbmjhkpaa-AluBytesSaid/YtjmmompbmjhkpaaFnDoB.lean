/- The contract of alu's Do, step by step. No condition. -/
import Derived.Test.YtjmmompbmjhkpaaFnDoS
namespace Go.Proofs.Ytjmmompbmjhkpaa.Calc
open Go Code
set_option linter.unusedSimpArgs false
set_option linter.unusedVariables false
set_option maxRecDepth 20000
set_option maxHeartbeats 8000000
attribute [local irreducible] WOpsT AW AK RK AKW UK UC
theorem do12_ok (t f n : Int) (r : Nat → Int) : FnE Try.prog 54 [.agg [I 12, I t, I f, I n], .agg (ri r)] [] (.tup [.agg (ri (doR 12 t f n r).1), .c (.bool (doR 12 t f n r).2)]) [] := by
  have iT := index_ok t
  have iF := index_ok f
  have kF := Fit_ok r
  have hRf := fitR_fits r
  have hs : doR 12 t f n r = (fitR (midR 12 (ixR t) (ixR f) n (fitR r)), false) := rfl
  rw [hs]
  obtain ⟨q, hq⟩ : ∃ q, fitR r = q := ⟨_, rfl⟩
  rw [hq] at kF hRf ⊢
  have hT := ixR_lt t
  have hF := ixR_lt f
  obtain ⟨a, ha⟩ : ∃ a, ixR t = a := ⟨_, rfl⟩
  obtain ⟨b, hb⟩ : ∃ b, ixR f = b := ⟨_, rfl⟩
  rw [ha] at iT hT ⊢
  rw [hb] at iF hF ⊢
  have rT := hRf a hT
  have rF := hRf b hF
  have eT : (a : Int).toNat * 1 = a := by omega
  have eF : (b : Int).toNat * 1 = b := by omega
  have hm : midR 12 a b n q = shiftR 12 a q := by simp [midR]
  rw [hm]
  refine N.fn Try.func54 k54 (Nat.le_of_ble_eq_true rfl) q54 fun Q hQ hQN => ?_
  rw [c54]
  repeat' (first
    | rw [ri_ren]
    | rw [ri_spl0]
    | rw [ri_splz]
    | (show WOpsT _ (⟨_, .ld _ _, none⟩ :: _) _ _ _ _; refine T.ld rfl rfl rfl rfl (ri_get _ _ (by omega)) ?_)
    | rw [eT]
    | rw [eF]
    | refine N.regS fun K hK => ?_
    | refine N.dregS fun K hK => ?_
    | refine N.regN fun K hK => ?_
    | refine N.dregN fun K hK => ?_
    | simp only [T.mv, AO.ev, put, lk, enter, reduceIte, Nat.reduceEqDiff, Nat.reduceAdd, Nat.reduceMul, Nat.reduceSub, ren_c, ren_tup, ren_agg, ren_sl, List.map, Int.reduceNeg, Int.toNat_zero, Nat.zero_add, Nat.add_zero, List.length_cons, List.length_nil, List.nil_append, List.cons_append, List.set_cons_zero, List.set_cons_succ, Int.reduceToNat, List.take_zero, upto, ren_psl, ren_ptr, List.getElem?_cons_zero, List.getElem?_cons_succ, renB, cells_ren, bcells_ren, setAll, List.append_nil, List.take_succ_cons, List.drop_succ_cons, List.drop_zero, List.take_nil, List.drop_nil, List.map_cons, List.map_nil, decide_eq_true_eq, Bool.false_eq_true, true_iff, iff_true, false_iff, iff_false]
    | (refine T.nil ?_; (first | refine hK _ _ _ (by rfl) ?_ | refine hK _ _ _ ?_); simp only [keep, List.map, lk, reduceIte, Nat.reduceEqDiff, enter]; clear hK; clear K)
    | (show WOpsT _ (⟨_, .call _ _, none⟩ :: _) _ _ _ _; first | (show WOpsT _ (⟨_, .call 105 _, none⟩ :: _) _ _ _ _; refine T.call0 e105 rfl (iT) ?_) | (show WOpsT _ (⟨_, .call 105 _, none⟩ :: _) _ _ _ _; refine T.call0 e105 rfl (iF) ?_) | (show WOpsT _ (⟨_, .call 57 _, none⟩ :: _) _ _ _ _; refine T.call0 e57 rfl (kF) ?_) | (show WOpsT _ (⟨_, .call 57 _, none⟩ :: _) _ _ _ _; refine T.call0 e57 rfl (Fit_ok _) ?_) | (show WOpsT _ (⟨_, .call 109 _, none⟩ :: _) _ _ _ _; refine T.call0 e109 rfl (shift_ok 12 a _ hT) ?_))
    | (show WOpsT _ (⟨_, .ld _ _, none⟩ :: _) _ _ _ _; first | refine T.ld rfl rfl rfl rfl rfl ?_ | refine T.ldd rfl rfl ?_ | refine T.ldn rfl rfl rfl rfl (Nat.le_of_ble_eq_true rfl) ?_ | refine T.lddn rfl (Nat.le_of_ble_eq_true rfl) ?_)
    | (show WOpsT _ (⟨_, .idx _ _ _ _, none⟩ :: _) _ _ _ _; first | refine T.idx rfl rfl rfl ⟨rfl, rfl⟩ (by omega) ?_ | refine T.idxs rfl rfl rfl (by omega) rfl ?_ | refine T.idxa rfl rfl rfl rfl (by omega) ?_ | refine T.idxd rfl rfl (by omega) ?_)
    | (show WOpsT _ (⟨_, .bin _ _ _, none⟩ :: _) _ _ _ _; first | refine T.add rfl rfl (by omega) (by omega) ?_ | refine T.sub rfl rfl (by omega) (by omega) ?_ | refine T.mul rfl rfl (by omega) (by omega) ?_ | refine T.rem rfl rfl (by omega) ?_ | refine T.quo rfl rfl (by omega) ?_ | refine T.shl rfl rfl (by omega) ?_ | refine T.shr rfl rfl (by omega) ?_ | refine T.bin rfl rfl rfl ?_)
    | (show WOpsT _ (⟨_, _, some (_, true)⟩ :: _) _ _ _ _; first | refine T.goT rfl (by omega) ?_ | refine T.paT rfl (by omega) ?_ | refine T.go rfl rfl ?_ | refine T.pass rfl rfl ?_ | refine T.pU rfl ?_ | refine T.gT rfl (fun hgd => ?_) (fun hgd => ?_))
    | (show WOpsT _ (⟨_, _, some (_, false)⟩ :: _) _ _ _ _; first | refine T.goF rfl (by omega) ?_ | refine T.paF rfl (by omega) ?_ | refine T.go rfl rfl ?_ | refine T.pass rfl rfl ?_ | refine T.pU rfl ?_ | refine T.gF rfl (fun hgd => ?_) (fun hgd => ?_))
    | (show WOpsT _ (⟨_, .pick _ _ _, none⟩ :: _) _ _ _ _; first | refine T.pkT rfl (by omega) ?_ | refine T.pkF rfl (by omega) ?_ | refine T.pickT rfl rfl ?_ | refine T.pickF rfl rfl ?_ | refine T.pickB rfl rfl rfl ?_ | refine T.pkD rfl (fun hgd => ?_) (fun hgd => ?_))
    | (show AKW _ _ _ _ _ _ _; first | refine N.now ?_)
    | (show UK _ _ _ _ _ _ _ _; first | refine N.round ?_)
    | (show UC _ _ _ _ _ _ _ _; first | refine N.ucN ?_)
    | (show AK _ _ (.cond _ _ _) _ _ _ _; first | refine N.cT rfl (by omega) ?_ | refine N.cF rfl (by omega) ?_ | refine N.condT rfl rfl ?_ | refine N.condF rfl rfl ?_ | refine N.condD rfl (fun hcd => ?_) (fun hcd => ?_) | refine N.condB rfl (fun hcd => ?_) (fun hcd => ?_) | refine N.condU rfl ?_ ?_)
    | (show AK _ _ _ _ _ _ _; first | refine N.seq ?_ | refine N.block ?_ | refine N.skip ?_ | refine N.exit ?_ | refine N.ret ?_)
    | (show RK _ _ _ _ _ _ _; first | refine N.seqN ?_ | refine N.blkN ?_ | refine N.blkE rfl ?_ | refine N.blkX (by decide) ?_ | refine N.seqX ?_ | refine N.lpX ?_ | refine N.cuN ?_ | refine N.cuE rfl ?_ | refine N.cuX (by decide) ?_ | refine N.cuR ?_ | refine N.seqR ?_ | refine N.blkR ?_ | refine N.lpR ?_ | refine N.lpN ?_ | refine N.nil ?_)
    | (show WOpsT _ _ _ _ _ _; first | refine T.min2 rfl rfl rfl ?_ | refine T.max2 rfl rfl rfl ?_ | refine T.ext rfl rfl ?_ | refine T.lenc ?_ | refine T.eqnP rfl rfl ⟨rfl, by decide⟩ ?_ | refine T.eqnN rfl ?_ | refine T.eqnU rfl ?_ | refine T.lens rfl ?_ | refine T.i2s rfl ?_ | refine T.s2b rfl ?_ | refine T.slcs rfl rfl rfl (by omega) ?_ | refine T.capN rfl ?_ | refine T.slcN rfl rfl rfl ?_ | refine T.neg rfl ?_ | refine T.xorn rfl ?_ | refine T.notD rfl ?_ | refine T.not rfl ?_ | refine T.eqb0 rfl rfl ?_ | refine T.eqb1 rfl rfl ?_ | refine T.cvt rfl ?_ | refine T.fad rfl rfl rfl ?_ | refine T.fadd rfl ?_ | refine T.nilc rfl rfl rfl ?_ | refine T.nilcd rfl ?_ | refine T.nilcf rfl ?_ | refine T.nilci rfl ?_ | refine T.st rfl rfl rfl ⟨rfl, rfl⟩ rfl (Nat.le_of_ble_eq_true rfl) ?_ | refine T.fld rfl rfl ?_ | refine T.new rfl ⟨rfl, by decide⟩ ?_ | refine T.zero (by decide) ?_ | refine T.build rfl ?_ | refine T.len rfl rfl rfl ?_ | refine T.lenS rfl ?_ | refine T.lenN rfl ?_ | refine T.mkf ?_ | refine T.mki ?_ | refine T.mksl rfl rfl (by decide) ?_ | refine T.copy rfl rfl rfl ⟨rfl, rfl⟩ ?_ | refine T.ixa rfl rfl (by omega) rfl ?_ | refine T.bsl rfl (by decide) ?_ | refine T.slc rfl rfl rfl rfl ⟨rfl, rfl⟩ (by omega) ?_ | refine T.slcS rfl rfl rfl rfl (by omega) ?_)
    | refine hQ _ _ _ rfl ?_
    | refine hQN _ _ _ rfl ?_)
  exact WS.drop (n := 0) rfl rfl
theorem do13_ok (t f n : Int) (r : Nat → Int) : FnE Try.prog 54 [.agg [I 13, I t, I f, I n], .agg (ri r)] [] (.tup [.agg (ri (doR 13 t f n r).1), .c (.bool (doR 13 t f n r).2)]) [] := by
  have iT := index_ok t
  have iF := index_ok f
  have kF := Fit_ok r
  have hRf := fitR_fits r
  have hs : doR 13 t f n r = (fitR (midR 13 (ixR t) (ixR f) n (fitR r)), false) := rfl
  rw [hs]
  obtain ⟨q, hq⟩ : ∃ q, fitR r = q := ⟨_, rfl⟩
  rw [hq] at kF hRf ⊢
  have hT := ixR_lt t
  have hF := ixR_lt f
  obtain ⟨a, ha⟩ : ∃ a, ixR t = a := ⟨_, rfl⟩
  obtain ⟨b, hb⟩ : ∃ b, ixR f = b := ⟨_, rfl⟩
  rw [ha] at iT hT ⊢
  rw [hb] at iF hF ⊢
  have rT := hRf a hT
  have rF := hRf b hF
  have eT : (a : Int).toNat * 1 = a := by omega
  have eF : (b : Int).toNat * 1 = b := by omega
  have hm : midR 13 a b n q = shiftR 13 a q := by simp [midR]
  rw [hm]
  refine N.fn Try.func54 k54 (Nat.le_of_ble_eq_true rfl) q54 fun Q hQ hQN => ?_
  rw [c54]
  repeat' (first
    | rw [ri_ren]
    | rw [ri_spl0]
    | rw [ri_splz]
    | (show WOpsT _ (⟨_, .ld _ _, none⟩ :: _) _ _ _ _; refine T.ld rfl rfl rfl rfl (ri_get _ _ (by omega)) ?_)
    | rw [eT]
    | rw [eF]
    | refine N.regS fun K hK => ?_
    | refine N.dregS fun K hK => ?_
    | refine N.regN fun K hK => ?_
    | refine N.dregN fun K hK => ?_
    | simp only [T.mv, AO.ev, put, lk, enter, reduceIte, Nat.reduceEqDiff, Nat.reduceAdd, Nat.reduceMul, Nat.reduceSub, ren_c, ren_tup, ren_agg, ren_sl, List.map, Int.reduceNeg, Int.toNat_zero, Nat.zero_add, Nat.add_zero, List.length_cons, List.length_nil, List.nil_append, List.cons_append, List.set_cons_zero, List.set_cons_succ, Int.reduceToNat, List.take_zero, upto, ren_psl, ren_ptr, List.getElem?_cons_zero, List.getElem?_cons_succ, renB, cells_ren, bcells_ren, setAll, List.append_nil, List.take_succ_cons, List.drop_succ_cons, List.drop_zero, List.take_nil, List.drop_nil, List.map_cons, List.map_nil, decide_eq_true_eq, Bool.false_eq_true, true_iff, iff_true, false_iff, iff_false]
    | (refine T.nil ?_; (first | refine hK _ _ _ (by rfl) ?_ | refine hK _ _ _ ?_); simp only [keep, List.map, lk, reduceIte, Nat.reduceEqDiff, enter]; clear hK; clear K)
    | (show WOpsT _ (⟨_, .call _ _, none⟩ :: _) _ _ _ _; first | (show WOpsT _ (⟨_, .call 105 _, none⟩ :: _) _ _ _ _; refine T.call0 e105 rfl (iT) ?_) | (show WOpsT _ (⟨_, .call 105 _, none⟩ :: _) _ _ _ _; refine T.call0 e105 rfl (iF) ?_) | (show WOpsT _ (⟨_, .call 57 _, none⟩ :: _) _ _ _ _; refine T.call0 e57 rfl (kF) ?_) | (show WOpsT _ (⟨_, .call 57 _, none⟩ :: _) _ _ _ _; refine T.call0 e57 rfl (Fit_ok _) ?_) | (show WOpsT _ (⟨_, .call 109 _, none⟩ :: _) _ _ _ _; refine T.call0 e109 rfl (shift_ok 13 a _ hT) ?_))
    | (show WOpsT _ (⟨_, .ld _ _, none⟩ :: _) _ _ _ _; first | refine T.ld rfl rfl rfl rfl rfl ?_ | refine T.ldd rfl rfl ?_ | refine T.ldn rfl rfl rfl rfl (Nat.le_of_ble_eq_true rfl) ?_ | refine T.lddn rfl (Nat.le_of_ble_eq_true rfl) ?_)
    | (show WOpsT _ (⟨_, .idx _ _ _ _, none⟩ :: _) _ _ _ _; first | refine T.idx rfl rfl rfl ⟨rfl, rfl⟩ (by omega) ?_ | refine T.idxs rfl rfl rfl (by omega) rfl ?_ | refine T.idxa rfl rfl rfl rfl (by omega) ?_ | refine T.idxd rfl rfl (by omega) ?_)
    | (show WOpsT _ (⟨_, .bin _ _ _, none⟩ :: _) _ _ _ _; first | refine T.add rfl rfl (by omega) (by omega) ?_ | refine T.sub rfl rfl (by omega) (by omega) ?_ | refine T.mul rfl rfl (by omega) (by omega) ?_ | refine T.rem rfl rfl (by omega) ?_ | refine T.quo rfl rfl (by omega) ?_ | refine T.shl rfl rfl (by omega) ?_ | refine T.shr rfl rfl (by omega) ?_ | refine T.bin rfl rfl rfl ?_)
    | (show WOpsT _ (⟨_, _, some (_, true)⟩ :: _) _ _ _ _; first | refine T.goT rfl (by omega) ?_ | refine T.paT rfl (by omega) ?_ | refine T.go rfl rfl ?_ | refine T.pass rfl rfl ?_ | refine T.pU rfl ?_ | refine T.gT rfl (fun hgd => ?_) (fun hgd => ?_))
    | (show WOpsT _ (⟨_, _, some (_, false)⟩ :: _) _ _ _ _; first | refine T.goF rfl (by omega) ?_ | refine T.paF rfl (by omega) ?_ | refine T.go rfl rfl ?_ | refine T.pass rfl rfl ?_ | refine T.pU rfl ?_ | refine T.gF rfl (fun hgd => ?_) (fun hgd => ?_))
    | (show WOpsT _ (⟨_, .pick _ _ _, none⟩ :: _) _ _ _ _; first | refine T.pkT rfl (by omega) ?_ | refine T.pkF rfl (by omega) ?_ | refine T.pickT rfl rfl ?_ | refine T.pickF rfl rfl ?_ | refine T.pickB rfl rfl rfl ?_ | refine T.pkD rfl (fun hgd => ?_) (fun hgd => ?_))
    | (show AKW _ _ _ _ _ _ _; first | refine N.now ?_)
    | (show UK _ _ _ _ _ _ _ _; first | refine N.round ?_)
    | (show UC _ _ _ _ _ _ _ _; first | refine N.ucN ?_)
    | (show AK _ _ (.cond _ _ _) _ _ _ _; first | refine N.cT rfl (by omega) ?_ | refine N.cF rfl (by omega) ?_ | refine N.condT rfl rfl ?_ | refine N.condF rfl rfl ?_ | refine N.condD rfl (fun hcd => ?_) (fun hcd => ?_) | refine N.condB rfl (fun hcd => ?_) (fun hcd => ?_) | refine N.condU rfl ?_ ?_)
    | (show AK _ _ _ _ _ _ _; first | refine N.seq ?_ | refine N.block ?_ | refine N.skip ?_ | refine N.exit ?_ | refine N.ret ?_)
    | (show RK _ _ _ _ _ _ _; first | refine N.seqN ?_ | refine N.blkN ?_ | refine N.blkE rfl ?_ | refine N.blkX (by decide) ?_ | refine N.seqX ?_ | refine N.lpX ?_ | refine N.cuN ?_ | refine N.cuE rfl ?_ | refine N.cuX (by decide) ?_ | refine N.cuR ?_ | refine N.seqR ?_ | refine N.blkR ?_ | refine N.lpR ?_ | refine N.lpN ?_ | refine N.nil ?_)
    | (show WOpsT _ _ _ _ _ _; first | refine T.min2 rfl rfl rfl ?_ | refine T.max2 rfl rfl rfl ?_ | refine T.ext rfl rfl ?_ | refine T.lenc ?_ | refine T.eqnP rfl rfl ⟨rfl, by decide⟩ ?_ | refine T.eqnN rfl ?_ | refine T.eqnU rfl ?_ | refine T.lens rfl ?_ | refine T.i2s rfl ?_ | refine T.s2b rfl ?_ | refine T.slcs rfl rfl rfl (by omega) ?_ | refine T.capN rfl ?_ | refine T.slcN rfl rfl rfl ?_ | refine T.neg rfl ?_ | refine T.xorn rfl ?_ | refine T.notD rfl ?_ | refine T.not rfl ?_ | refine T.eqb0 rfl rfl ?_ | refine T.eqb1 rfl rfl ?_ | refine T.cvt rfl ?_ | refine T.fad rfl rfl rfl ?_ | refine T.fadd rfl ?_ | refine T.nilc rfl rfl rfl ?_ | refine T.nilcd rfl ?_ | refine T.nilcf rfl ?_ | refine T.nilci rfl ?_ | refine T.st rfl rfl rfl ⟨rfl, rfl⟩ rfl (Nat.le_of_ble_eq_true rfl) ?_ | refine T.fld rfl rfl ?_ | refine T.new rfl ⟨rfl, by decide⟩ ?_ | refine T.zero (by decide) ?_ | refine T.build rfl ?_ | refine T.len rfl rfl rfl ?_ | refine T.lenS rfl ?_ | refine T.lenN rfl ?_ | refine T.mkf ?_ | refine T.mki ?_ | refine T.mksl rfl rfl (by decide) ?_ | refine T.copy rfl rfl rfl ⟨rfl, rfl⟩ ?_ | refine T.ixa rfl rfl (by omega) rfl ?_ | refine T.bsl rfl (by decide) ?_ | refine T.slc rfl rfl rfl rfl ⟨rfl, rfl⟩ (by omega) ?_ | refine T.slcS rfl rfl rfl rfl (by omega) ?_)
    | refine hQ _ _ _ rfl ?_
    | refine hQN _ _ _ rfl ?_)
  exact WS.drop (n := 0) rfl rfl
theorem do14_ok (t f n : Int) (r : Nat → Int) : FnE Try.prog 54 [.agg [I 14, I t, I f, I n], .agg (ri r)] [] (.tup [.agg (ri (doR 14 t f n r).1), .c (.bool (doR 14 t f n r).2)]) [] := by
  have iT := index_ok t
  have iF := index_ok f
  have kF := Fit_ok r
  have hRf := fitR_fits r
  have hs : doR 14 t f n r = (fitR (midR 14 (ixR t) (ixR f) n (fitR r)), false) := rfl
  rw [hs]
  obtain ⟨q, hq⟩ : ∃ q, fitR r = q := ⟨_, rfl⟩
  rw [hq] at kF hRf ⊢
  have hT := ixR_lt t
  have hF := ixR_lt f
  obtain ⟨a, ha⟩ : ∃ a, ixR t = a := ⟨_, rfl⟩
  obtain ⟨b, hb⟩ : ∃ b, ixR f = b := ⟨_, rfl⟩
  rw [ha] at iT hT ⊢
  rw [hb] at iF hF ⊢
  have rT := hRf a hT
  have rF := hRf b hF
  have eT : (a : Int).toNat * 1 = a := by omega
  have eF : (b : Int).toNat * 1 = b := by omega
  have hm : midR 14 a b n q = shiftR 14 a q := by simp [midR]
  rw [hm]
  refine N.fn Try.func54 k54 (Nat.le_of_ble_eq_true rfl) q54 fun Q hQ hQN => ?_
  rw [c54]
  repeat' (first
    | rw [ri_ren]
    | rw [ri_spl0]
    | rw [ri_splz]
    | (show WOpsT _ (⟨_, .ld _ _, none⟩ :: _) _ _ _ _; refine T.ld rfl rfl rfl rfl (ri_get _ _ (by omega)) ?_)
    | rw [eT]
    | rw [eF]
    | refine N.regS fun K hK => ?_
    | refine N.dregS fun K hK => ?_
    | refine N.regN fun K hK => ?_
    | refine N.dregN fun K hK => ?_
    | simp only [T.mv, AO.ev, put, lk, enter, reduceIte, Nat.reduceEqDiff, Nat.reduceAdd, Nat.reduceMul, Nat.reduceSub, ren_c, ren_tup, ren_agg, ren_sl, List.map, Int.reduceNeg, Int.toNat_zero, Nat.zero_add, Nat.add_zero, List.length_cons, List.length_nil, List.nil_append, List.cons_append, List.set_cons_zero, List.set_cons_succ, Int.reduceToNat, List.take_zero, upto, ren_psl, ren_ptr, List.getElem?_cons_zero, List.getElem?_cons_succ, renB, cells_ren, bcells_ren, setAll, List.append_nil, List.take_succ_cons, List.drop_succ_cons, List.drop_zero, List.take_nil, List.drop_nil, List.map_cons, List.map_nil, decide_eq_true_eq, Bool.false_eq_true, true_iff, iff_true, false_iff, iff_false]
    | (refine T.nil ?_; (first | refine hK _ _ _ (by rfl) ?_ | refine hK _ _ _ ?_); simp only [keep, List.map, lk, reduceIte, Nat.reduceEqDiff, enter]; clear hK; clear K)
    | (show WOpsT _ (⟨_, .call _ _, none⟩ :: _) _ _ _ _; first | (show WOpsT _ (⟨_, .call 105 _, none⟩ :: _) _ _ _ _; refine T.call0 e105 rfl (iT) ?_) | (show WOpsT _ (⟨_, .call 105 _, none⟩ :: _) _ _ _ _; refine T.call0 e105 rfl (iF) ?_) | (show WOpsT _ (⟨_, .call 57 _, none⟩ :: _) _ _ _ _; refine T.call0 e57 rfl (kF) ?_) | (show WOpsT _ (⟨_, .call 57 _, none⟩ :: _) _ _ _ _; refine T.call0 e57 rfl (Fit_ok _) ?_) | (show WOpsT _ (⟨_, .call 109 _, none⟩ :: _) _ _ _ _; refine T.call0 e109 rfl (shift_ok 14 a _ hT) ?_))
    | (show WOpsT _ (⟨_, .ld _ _, none⟩ :: _) _ _ _ _; first | refine T.ld rfl rfl rfl rfl rfl ?_ | refine T.ldd rfl rfl ?_ | refine T.ldn rfl rfl rfl rfl (Nat.le_of_ble_eq_true rfl) ?_ | refine T.lddn rfl (Nat.le_of_ble_eq_true rfl) ?_)
    | (show WOpsT _ (⟨_, .idx _ _ _ _, none⟩ :: _) _ _ _ _; first | refine T.idx rfl rfl rfl ⟨rfl, rfl⟩ (by omega) ?_ | refine T.idxs rfl rfl rfl (by omega) rfl ?_ | refine T.idxa rfl rfl rfl rfl (by omega) ?_ | refine T.idxd rfl rfl (by omega) ?_)
    | (show WOpsT _ (⟨_, .bin _ _ _, none⟩ :: _) _ _ _ _; first | refine T.add rfl rfl (by omega) (by omega) ?_ | refine T.sub rfl rfl (by omega) (by omega) ?_ | refine T.mul rfl rfl (by omega) (by omega) ?_ | refine T.rem rfl rfl (by omega) ?_ | refine T.quo rfl rfl (by omega) ?_ | refine T.shl rfl rfl (by omega) ?_ | refine T.shr rfl rfl (by omega) ?_ | refine T.bin rfl rfl rfl ?_)
    | (show WOpsT _ (⟨_, _, some (_, true)⟩ :: _) _ _ _ _; first | refine T.goT rfl (by omega) ?_ | refine T.paT rfl (by omega) ?_ | refine T.go rfl rfl ?_ | refine T.pass rfl rfl ?_ | refine T.pU rfl ?_ | refine T.gT rfl (fun hgd => ?_) (fun hgd => ?_))
    | (show WOpsT _ (⟨_, _, some (_, false)⟩ :: _) _ _ _ _; first | refine T.goF rfl (by omega) ?_ | refine T.paF rfl (by omega) ?_ | refine T.go rfl rfl ?_ | refine T.pass rfl rfl ?_ | refine T.pU rfl ?_ | refine T.gF rfl (fun hgd => ?_) (fun hgd => ?_))
    | (show WOpsT _ (⟨_, .pick _ _ _, none⟩ :: _) _ _ _ _; first | refine T.pkT rfl (by omega) ?_ | refine T.pkF rfl (by omega) ?_ | refine T.pickT rfl rfl ?_ | refine T.pickF rfl rfl ?_ | refine T.pickB rfl rfl rfl ?_ | refine T.pkD rfl (fun hgd => ?_) (fun hgd => ?_))
    | (show AKW _ _ _ _ _ _ _; first | refine N.now ?_)
    | (show UK _ _ _ _ _ _ _ _; first | refine N.round ?_)
    | (show UC _ _ _ _ _ _ _ _; first | refine N.ucN ?_)
    | (show AK _ _ (.cond _ _ _) _ _ _ _; first | refine N.cT rfl (by omega) ?_ | refine N.cF rfl (by omega) ?_ | refine N.condT rfl rfl ?_ | refine N.condF rfl rfl ?_ | refine N.condD rfl (fun hcd => ?_) (fun hcd => ?_) | refine N.condB rfl (fun hcd => ?_) (fun hcd => ?_) | refine N.condU rfl ?_ ?_)
    | (show AK _ _ _ _ _ _ _; first | refine N.seq ?_ | refine N.block ?_ | refine N.skip ?_ | refine N.exit ?_ | refine N.ret ?_)
    | (show RK _ _ _ _ _ _ _; first | refine N.seqN ?_ | refine N.blkN ?_ | refine N.blkE rfl ?_ | refine N.blkX (by decide) ?_ | refine N.seqX ?_ | refine N.lpX ?_ | refine N.cuN ?_ | refine N.cuE rfl ?_ | refine N.cuX (by decide) ?_ | refine N.cuR ?_ | refine N.seqR ?_ | refine N.blkR ?_ | refine N.lpR ?_ | refine N.lpN ?_ | refine N.nil ?_)
    | (show WOpsT _ _ _ _ _ _; first | refine T.min2 rfl rfl rfl ?_ | refine T.max2 rfl rfl rfl ?_ | refine T.ext rfl rfl ?_ | refine T.lenc ?_ | refine T.eqnP rfl rfl ⟨rfl, by decide⟩ ?_ | refine T.eqnN rfl ?_ | refine T.eqnU rfl ?_ | refine T.lens rfl ?_ | refine T.i2s rfl ?_ | refine T.s2b rfl ?_ | refine T.slcs rfl rfl rfl (by omega) ?_ | refine T.capN rfl ?_ | refine T.slcN rfl rfl rfl ?_ | refine T.neg rfl ?_ | refine T.xorn rfl ?_ | refine T.notD rfl ?_ | refine T.not rfl ?_ | refine T.eqb0 rfl rfl ?_ | refine T.eqb1 rfl rfl ?_ | refine T.cvt rfl ?_ | refine T.fad rfl rfl rfl ?_ | refine T.fadd rfl ?_ | refine T.nilc rfl rfl rfl ?_ | refine T.nilcd rfl ?_ | refine T.nilcf rfl ?_ | refine T.nilci rfl ?_ | refine T.st rfl rfl rfl ⟨rfl, rfl⟩ rfl (Nat.le_of_ble_eq_true rfl) ?_ | refine T.fld rfl rfl ?_ | refine T.new rfl ⟨rfl, by decide⟩ ?_ | refine T.zero (by decide) ?_ | refine T.build rfl ?_ | refine T.len rfl rfl rfl ?_ | refine T.lenS rfl ?_ | refine T.lenN rfl ?_ | refine T.mkf ?_ | refine T.mki ?_ | refine T.mksl rfl rfl (by decide) ?_ | refine T.copy rfl rfl rfl ⟨rfl, rfl⟩ ?_ | refine T.ixa rfl rfl (by omega) rfl ?_ | refine T.bsl rfl (by decide) ?_ | refine T.slc rfl rfl rfl rfl ⟨rfl, rfl⟩ (by omega) ?_ | refine T.slcS rfl rfl rfl rfl (by omega) ?_)
    | refine hQ _ _ _ rfl ?_
    | refine hQN _ _ _ rfl ?_)
  exact WS.drop (n := 0) rfl rfl
theorem do15_ok (t f n : Int) (r : Nat → Int) : FnE Try.prog 54 [.agg [I 15, I t, I f, I n], .agg (ri r)] [] (.tup [.agg (ri (doR 15 t f n r).1), .c (.bool (doR 15 t f n r).2)]) [] := by
  have iT := index_ok t
  have iF := index_ok f
  have kF := Fit_ok r
  have hRf := fitR_fits r
  have hs : doR 15 t f n r = (fitR (midR 15 (ixR t) (ixR f) n (fitR r)), false) := rfl
  rw [hs]
  obtain ⟨q, hq⟩ : ∃ q, fitR r = q := ⟨_, rfl⟩
  rw [hq] at kF hRf ⊢
  have hT := ixR_lt t
  have hF := ixR_lt f
  obtain ⟨a, ha⟩ : ∃ a, ixR t = a := ⟨_, rfl⟩
  obtain ⟨b, hb⟩ : ∃ b, ixR f = b := ⟨_, rfl⟩
  rw [ha] at iT hT ⊢
  rw [hb] at iF hF ⊢
  have rT := hRf a hT
  have rF := hRf b hF
  have eT : (a : Int).toNat * 1 = a := by omega
  have eF : (b : Int).toNat * 1 = b := by omega
  have hm : midR 15 a b n q = shiftR 15 a q := by simp [midR]
  rw [hm]
  refine N.fn Try.func54 k54 (Nat.le_of_ble_eq_true rfl) q54 fun Q hQ hQN => ?_
  rw [c54]
  repeat' (first
    | rw [ri_ren]
    | rw [ri_spl0]
    | rw [ri_splz]
    | (show WOpsT _ (⟨_, .ld _ _, none⟩ :: _) _ _ _ _; refine T.ld rfl rfl rfl rfl (ri_get _ _ (by omega)) ?_)
    | rw [eT]
    | rw [eF]
    | refine N.regS fun K hK => ?_
    | refine N.dregS fun K hK => ?_
    | refine N.regN fun K hK => ?_
    | refine N.dregN fun K hK => ?_
    | simp only [T.mv, AO.ev, put, lk, enter, reduceIte, Nat.reduceEqDiff, Nat.reduceAdd, Nat.reduceMul, Nat.reduceSub, ren_c, ren_tup, ren_agg, ren_sl, List.map, Int.reduceNeg, Int.toNat_zero, Nat.zero_add, Nat.add_zero, List.length_cons, List.length_nil, List.nil_append, List.cons_append, List.set_cons_zero, List.set_cons_succ, Int.reduceToNat, List.take_zero, upto, ren_psl, ren_ptr, List.getElem?_cons_zero, List.getElem?_cons_succ, renB, cells_ren, bcells_ren, setAll, List.append_nil, List.take_succ_cons, List.drop_succ_cons, List.drop_zero, List.take_nil, List.drop_nil, List.map_cons, List.map_nil, decide_eq_true_eq, Bool.false_eq_true, true_iff, iff_true, false_iff, iff_false]
    | (refine T.nil ?_; (first | refine hK _ _ _ (by rfl) ?_ | refine hK _ _ _ ?_); simp only [keep, List.map, lk, reduceIte, Nat.reduceEqDiff, enter]; clear hK; clear K)
    | (show WOpsT _ (⟨_, .call _ _, none⟩ :: _) _ _ _ _; first | (show WOpsT _ (⟨_, .call 105 _, none⟩ :: _) _ _ _ _; refine T.call0 e105 rfl (iT) ?_) | (show WOpsT _ (⟨_, .call 105 _, none⟩ :: _) _ _ _ _; refine T.call0 e105 rfl (iF) ?_) | (show WOpsT _ (⟨_, .call 57 _, none⟩ :: _) _ _ _ _; refine T.call0 e57 rfl (kF) ?_) | (show WOpsT _ (⟨_, .call 57 _, none⟩ :: _) _ _ _ _; refine T.call0 e57 rfl (Fit_ok _) ?_) | (show WOpsT _ (⟨_, .call 109 _, none⟩ :: _) _ _ _ _; refine T.call0 e109 rfl (shift_ok 15 a _ hT) ?_))
    | (show WOpsT _ (⟨_, .ld _ _, none⟩ :: _) _ _ _ _; first | refine T.ld rfl rfl rfl rfl rfl ?_ | refine T.ldd rfl rfl ?_ | refine T.ldn rfl rfl rfl rfl (Nat.le_of_ble_eq_true rfl) ?_ | refine T.lddn rfl (Nat.le_of_ble_eq_true rfl) ?_)
    | (show WOpsT _ (⟨_, .idx _ _ _ _, none⟩ :: _) _ _ _ _; first | refine T.idx rfl rfl rfl ⟨rfl, rfl⟩ (by omega) ?_ | refine T.idxs rfl rfl rfl (by omega) rfl ?_ | refine T.idxa rfl rfl rfl rfl (by omega) ?_ | refine T.idxd rfl rfl (by omega) ?_)
    | (show WOpsT _ (⟨_, .bin _ _ _, none⟩ :: _) _ _ _ _; first | refine T.add rfl rfl (by omega) (by omega) ?_ | refine T.sub rfl rfl (by omega) (by omega) ?_ | refine T.mul rfl rfl (by omega) (by omega) ?_ | refine T.rem rfl rfl (by omega) ?_ | refine T.quo rfl rfl (by omega) ?_ | refine T.shl rfl rfl (by omega) ?_ | refine T.shr rfl rfl (by omega) ?_ | refine T.bin rfl rfl rfl ?_)
    | (show WOpsT _ (⟨_, _, some (_, true)⟩ :: _) _ _ _ _; first | refine T.goT rfl (by omega) ?_ | refine T.paT rfl (by omega) ?_ | refine T.go rfl rfl ?_ | refine T.pass rfl rfl ?_ | refine T.pU rfl ?_ | refine T.gT rfl (fun hgd => ?_) (fun hgd => ?_))
    | (show WOpsT _ (⟨_, _, some (_, false)⟩ :: _) _ _ _ _; first | refine T.goF rfl (by omega) ?_ | refine T.paF rfl (by omega) ?_ | refine T.go rfl rfl ?_ | refine T.pass rfl rfl ?_ | refine T.pU rfl ?_ | refine T.gF rfl (fun hgd => ?_) (fun hgd => ?_))
    | (show WOpsT _ (⟨_, .pick _ _ _, none⟩ :: _) _ _ _ _; first | refine T.pkT rfl (by omega) ?_ | refine T.pkF rfl (by omega) ?_ | refine T.pickT rfl rfl ?_ | refine T.pickF rfl rfl ?_ | refine T.pickB rfl rfl rfl ?_ | refine T.pkD rfl (fun hgd => ?_) (fun hgd => ?_))
    | (show AKW _ _ _ _ _ _ _; first | refine N.now ?_)
    | (show UK _ _ _ _ _ _ _ _; first | refine N.round ?_)
    | (show UC _ _ _ _ _ _ _ _; first | refine N.ucN ?_)
    | (show AK _ _ (.cond _ _ _) _ _ _ _; first | refine N.cT rfl (by omega) ?_ | refine N.cF rfl (by omega) ?_ | refine N.condT rfl rfl ?_ | refine N.condF rfl rfl ?_ | refine N.condD rfl (fun hcd => ?_) (fun hcd => ?_) | refine N.condB rfl (fun hcd => ?_) (fun hcd => ?_) | refine N.condU rfl ?_ ?_)
    | (show AK _ _ _ _ _ _ _; first | refine N.seq ?_ | refine N.block ?_ | refine N.skip ?_ | refine N.exit ?_ | refine N.ret ?_)
    | (show RK _ _ _ _ _ _ _; first | refine N.seqN ?_ | refine N.blkN ?_ | refine N.blkE rfl ?_ | refine N.blkX (by decide) ?_ | refine N.seqX ?_ | refine N.lpX ?_ | refine N.cuN ?_ | refine N.cuE rfl ?_ | refine N.cuX (by decide) ?_ | refine N.cuR ?_ | refine N.seqR ?_ | refine N.blkR ?_ | refine N.lpR ?_ | refine N.lpN ?_ | refine N.nil ?_)
    | (show WOpsT _ _ _ _ _ _; first | refine T.min2 rfl rfl rfl ?_ | refine T.max2 rfl rfl rfl ?_ | refine T.ext rfl rfl ?_ | refine T.lenc ?_ | refine T.eqnP rfl rfl ⟨rfl, by decide⟩ ?_ | refine T.eqnN rfl ?_ | refine T.eqnU rfl ?_ | refine T.lens rfl ?_ | refine T.i2s rfl ?_ | refine T.s2b rfl ?_ | refine T.slcs rfl rfl rfl (by omega) ?_ | refine T.capN rfl ?_ | refine T.slcN rfl rfl rfl ?_ | refine T.neg rfl ?_ | refine T.xorn rfl ?_ | refine T.notD rfl ?_ | refine T.not rfl ?_ | refine T.eqb0 rfl rfl ?_ | refine T.eqb1 rfl rfl ?_ | refine T.cvt rfl ?_ | refine T.fad rfl rfl rfl ?_ | refine T.fadd rfl ?_ | refine T.nilc rfl rfl rfl ?_ | refine T.nilcd rfl ?_ | refine T.nilcf rfl ?_ | refine T.nilci rfl ?_ | refine T.st rfl rfl rfl ⟨rfl, rfl⟩ rfl (Nat.le_of_ble_eq_true rfl) ?_ | refine T.fld rfl rfl ?_ | refine T.new rfl ⟨rfl, by decide⟩ ?_ | refine T.zero (by decide) ?_ | refine T.build rfl ?_ | refine T.len rfl rfl rfl ?_ | refine T.lenS rfl ?_ | refine T.lenN rfl ?_ | refine T.mkf ?_ | refine T.mki ?_ | refine T.mksl rfl rfl (by decide) ?_ | refine T.copy rfl rfl rfl ⟨rfl, rfl⟩ ?_ | refine T.ixa rfl rfl (by omega) rfl ?_ | refine T.bsl rfl (by decide) ?_ | refine T.slc rfl rfl rfl rfl ⟨rfl, rfl⟩ (by omega) ?_ | refine T.slcS rfl rfl rfl rfl (by omega) ?_)
    | refine hQ _ _ _ rfl ?_
    | refine hQN _ _ _ rfl ?_)
  exact WS.drop (n := 0) rfl rfl
theorem do16_ok (t f n : Int) (r : Nat → Int) : FnE Try.prog 54 [.agg [I 16, I t, I f, I n], .agg (ri r)] [] (.tup [.agg (ri (doR 16 t f n r).1), .c (.bool (doR 16 t f n r).2)]) [] := by
  have iT := index_ok t
  have iF := index_ok f
  have kF := Fit_ok r
  have hRf := fitR_fits r
  have hs : doR 16 t f n r = (fitR (midR 16 (ixR t) (ixR f) n (fitR r)), false) := rfl
  rw [hs]
  obtain ⟨q, hq⟩ : ∃ q, fitR r = q := ⟨_, rfl⟩
  rw [hq] at kF hRf ⊢
  have hT := ixR_lt t
  have hF := ixR_lt f
  obtain ⟨a, ha⟩ : ∃ a, ixR t = a := ⟨_, rfl⟩
  obtain ⟨b, hb⟩ : ∃ b, ixR f = b := ⟨_, rfl⟩
  rw [ha] at iT hT ⊢
  rw [hb] at iF hF ⊢
  have rT := hRf a hT
  have rF := hRf b hF
  have eT : (a : Int).toNat * 1 = a := by omega
  have eF : (b : Int).toNat * 1 = b := by omega
  have hm : midR 16 a b n q = flagR q (n % 256) true := by simp [midR]
  rw [hm]
  refine N.fn Try.func54 k54 (Nat.le_of_ble_eq_true rfl) q54 fun Q hQ hQN => ?_
  rw [c54]
  repeat' (first
    | rw [ri_ren]
    | rw [ri_spl0]
    | rw [ri_splz]
    | (show WOpsT _ (⟨_, .ld _ _, none⟩ :: _) _ _ _ _; refine T.ld rfl rfl rfl rfl (ri_get _ _ (by omega)) ?_)
    | rw [eT]
    | rw [eF]
    | refine N.regS fun K hK => ?_
    | refine N.dregS fun K hK => ?_
    | refine N.regN fun K hK => ?_
    | refine N.dregN fun K hK => ?_
    | simp only [T.mv, AO.ev, put, lk, enter, reduceIte, Nat.reduceEqDiff, Nat.reduceAdd, Nat.reduceMul, Nat.reduceSub, ren_c, ren_tup, ren_agg, ren_sl, List.map, Int.reduceNeg, Int.toNat_zero, Nat.zero_add, Nat.add_zero, List.length_cons, List.length_nil, List.nil_append, List.cons_append, List.set_cons_zero, List.set_cons_succ, Int.reduceToNat, List.take_zero, upto, ren_psl, ren_ptr, List.getElem?_cons_zero, List.getElem?_cons_succ, renB, cells_ren, bcells_ren, setAll, List.append_nil, List.take_succ_cons, List.drop_succ_cons, List.drop_zero, List.take_nil, List.drop_nil, List.map_cons, List.map_nil, decide_eq_true_eq, Bool.false_eq_true, true_iff, iff_true, false_iff, iff_false]
    | (refine T.nil ?_; (first | refine hK _ _ _ (by rfl) ?_ | refine hK _ _ _ ?_); simp only [keep, List.map, lk, reduceIte, Nat.reduceEqDiff, enter]; clear hK; clear K)
    | (show WOpsT _ (⟨_, .call _ _, none⟩ :: _) _ _ _ _; first | (show WOpsT _ (⟨_, .call 105 _, none⟩ :: _) _ _ _ _; refine T.call0 e105 rfl (iT) ?_) | (show WOpsT _ (⟨_, .call 105 _, none⟩ :: _) _ _ _ _; refine T.call0 e105 rfl (iF) ?_) | (show WOpsT _ (⟨_, .call 57 _, none⟩ :: _) _ _ _ _; refine T.call0 e57 rfl (kF) ?_) | (show WOpsT _ (⟨_, .call 57 _, none⟩ :: _) _ _ _ _; refine T.call0 e57 rfl (Fit_ok _) ?_) | (show WOpsT _ (⟨_, .call 35 _, none⟩ :: _) _ _ _ _; refine T.call0 e35 rfl (low8 _) ?_) | (show WOpsT _ (⟨_, .call 110 _, none⟩ :: _) _ _ _ _; refine T.call0 e110 rfl (flag_ok _ _ _) ?_))
    | (show WOpsT _ (⟨_, .ld _ _, none⟩ :: _) _ _ _ _; first | refine T.ld rfl rfl rfl rfl rfl ?_ | refine T.ldd rfl rfl ?_ | refine T.ldn rfl rfl rfl rfl (Nat.le_of_ble_eq_true rfl) ?_ | refine T.lddn rfl (Nat.le_of_ble_eq_true rfl) ?_)
    | (show WOpsT _ (⟨_, .idx _ _ _ _, none⟩ :: _) _ _ _ _; first | refine T.idx rfl rfl rfl ⟨rfl, rfl⟩ (by omega) ?_ | refine T.idxs rfl rfl rfl (by omega) rfl ?_ | refine T.idxa rfl rfl rfl rfl (by omega) ?_ | refine T.idxd rfl rfl (by omega) ?_)
    | (show WOpsT _ (⟨_, .bin _ _ _, none⟩ :: _) _ _ _ _; first | refine T.add rfl rfl (by omega) (by omega) ?_ | refine T.sub rfl rfl (by omega) (by omega) ?_ | refine T.mul rfl rfl (by omega) (by omega) ?_ | refine T.rem rfl rfl (by omega) ?_ | refine T.quo rfl rfl (by omega) ?_ | refine T.shl rfl rfl (by omega) ?_ | refine T.shr rfl rfl (by omega) ?_ | refine T.bin rfl rfl rfl ?_)
    | (show WOpsT _ (⟨_, _, some (_, true)⟩ :: _) _ _ _ _; first | refine T.goT rfl (by omega) ?_ | refine T.paT rfl (by omega) ?_ | refine T.go rfl rfl ?_ | refine T.pass rfl rfl ?_ | refine T.pU rfl ?_ | refine T.gT rfl (fun hgd => ?_) (fun hgd => ?_))
    | (show WOpsT _ (⟨_, _, some (_, false)⟩ :: _) _ _ _ _; first | refine T.goF rfl (by omega) ?_ | refine T.paF rfl (by omega) ?_ | refine T.go rfl rfl ?_ | refine T.pass rfl rfl ?_ | refine T.pU rfl ?_ | refine T.gF rfl (fun hgd => ?_) (fun hgd => ?_))
    | (show WOpsT _ (⟨_, .pick _ _ _, none⟩ :: _) _ _ _ _; first | refine T.pkT rfl (by omega) ?_ | refine T.pkF rfl (by omega) ?_ | refine T.pickT rfl rfl ?_ | refine T.pickF rfl rfl ?_ | refine T.pickB rfl rfl rfl ?_ | refine T.pkD rfl (fun hgd => ?_) (fun hgd => ?_))
    | (show AKW _ _ _ _ _ _ _; first | refine N.now ?_)
    | (show UK _ _ _ _ _ _ _ _; first | refine N.round ?_)
    | (show UC _ _ _ _ _ _ _ _; first | refine N.ucN ?_)
    | (show AK _ _ (.cond _ _ _) _ _ _ _; first | refine N.cT rfl (by omega) ?_ | refine N.cF rfl (by omega) ?_ | refine N.condT rfl rfl ?_ | refine N.condF rfl rfl ?_ | refine N.condD rfl (fun hcd => ?_) (fun hcd => ?_) | refine N.condB rfl (fun hcd => ?_) (fun hcd => ?_) | refine N.condU rfl ?_ ?_)
    | (show AK _ _ _ _ _ _ _; first | refine N.seq ?_ | refine N.block ?_ | refine N.skip ?_ | refine N.exit ?_ | refine N.ret ?_)
    | (show RK _ _ _ _ _ _ _; first | refine N.seqN ?_ | refine N.blkN ?_ | refine N.blkE rfl ?_ | refine N.blkX (by decide) ?_ | refine N.seqX ?_ | refine N.lpX ?_ | refine N.cuN ?_ | refine N.cuE rfl ?_ | refine N.cuX (by decide) ?_ | refine N.cuR ?_ | refine N.seqR ?_ | refine N.blkR ?_ | refine N.lpR ?_ | refine N.lpN ?_ | refine N.nil ?_)
    | (show WOpsT _ _ _ _ _ _; first | refine T.min2 rfl rfl rfl ?_ | refine T.max2 rfl rfl rfl ?_ | refine T.ext rfl rfl ?_ | refine T.lenc ?_ | refine T.eqnP rfl rfl ⟨rfl, by decide⟩ ?_ | refine T.eqnN rfl ?_ | refine T.eqnU rfl ?_ | refine T.lens rfl ?_ | refine T.i2s rfl ?_ | refine T.s2b rfl ?_ | refine T.slcs rfl rfl rfl (by omega) ?_ | refine T.capN rfl ?_ | refine T.slcN rfl rfl rfl ?_ | refine T.neg rfl ?_ | refine T.xorn rfl ?_ | refine T.notD rfl ?_ | refine T.not rfl ?_ | refine T.eqb0 rfl rfl ?_ | refine T.eqb1 rfl rfl ?_ | refine T.cvt rfl ?_ | refine T.fad rfl rfl rfl ?_ | refine T.fadd rfl ?_ | refine T.nilc rfl rfl rfl ?_ | refine T.nilcd rfl ?_ | refine T.nilcf rfl ?_ | refine T.nilci rfl ?_ | refine T.st rfl rfl rfl ⟨rfl, rfl⟩ rfl (Nat.le_of_ble_eq_true rfl) ?_ | refine T.fld rfl rfl ?_ | refine T.new rfl ⟨rfl, by decide⟩ ?_ | refine T.zero (by decide) ?_ | refine T.build rfl ?_ | refine T.len rfl rfl rfl ?_ | refine T.lenS rfl ?_ | refine T.lenN rfl ?_ | refine T.mkf ?_ | refine T.mki ?_ | refine T.mksl rfl rfl (by decide) ?_ | refine T.copy rfl rfl rfl ⟨rfl, rfl⟩ ?_ | refine T.ixa rfl rfl (by omega) rfl ?_ | refine T.bsl rfl (by decide) ?_ | refine T.slc rfl rfl rfl rfl ⟨rfl, rfl⟩ (by omega) ?_ | refine T.slcS rfl rfl rfl rfl (by omega) ?_)
    | refine hQ _ _ _ rfl ?_
    | refine hQN _ _ _ rfl ?_)
  exact WS.drop (n := 0) rfl rfl
theorem do17_ok (t f n : Int) (r : Nat → Int) : FnE Try.prog 54 [.agg [I 17, I t, I f, I n], .agg (ri r)] [] (.tup [.agg (ri (doR 17 t f n r).1), .c (.bool (doR 17 t f n r).2)]) [] := by
  have iT := index_ok t
  have iF := index_ok f
  have kF := Fit_ok r
  have hRf := fitR_fits r
  have hs : doR 17 t f n r = (fitR (midR 17 (ixR t) (ixR f) n (fitR r)), false) := rfl
  rw [hs]
  obtain ⟨q, hq⟩ : ∃ q, fitR r = q := ⟨_, rfl⟩
  rw [hq] at kF hRf ⊢
  have hT := ixR_lt t
  have hF := ixR_lt f
  obtain ⟨a, ha⟩ : ∃ a, ixR t = a := ⟨_, rfl⟩
  obtain ⟨b, hb⟩ : ∃ b, ixR f = b := ⟨_, rfl⟩
  rw [ha] at iT hT ⊢
  rw [hb] at iF hF ⊢
  have rT := hRf a hT
  have rF := hRf b hF
  have eT : (a : Int).toNat * 1 = a := by omega
  have eF : (b : Int).toNat * 1 = b := by omega
  have hm : midR 17 a b n q = flagR q (n % 256) false := by simp [midR]
  rw [hm]
  refine N.fn Try.func54 k54 (Nat.le_of_ble_eq_true rfl) q54 fun Q hQ hQN => ?_
  rw [c54]
  repeat' (first
    | rw [ri_ren]
    | rw [ri_spl0]
    | rw [ri_splz]
    | (show WOpsT _ (⟨_, .ld _ _, none⟩ :: _) _ _ _ _; refine T.ld rfl rfl rfl rfl (ri_get _ _ (by omega)) ?_)
    | rw [eT]
    | rw [eF]
    | refine N.regS fun K hK => ?_
    | refine N.dregS fun K hK => ?_
    | refine N.regN fun K hK => ?_
    | refine N.dregN fun K hK => ?_
    | simp only [T.mv, AO.ev, put, lk, enter, reduceIte, Nat.reduceEqDiff, Nat.reduceAdd, Nat.reduceMul, Nat.reduceSub, ren_c, ren_tup, ren_agg, ren_sl, List.map, Int.reduceNeg, Int.toNat_zero, Nat.zero_add, Nat.add_zero, List.length_cons, List.length_nil, List.nil_append, List.cons_append, List.set_cons_zero, List.set_cons_succ, Int.reduceToNat, List.take_zero, upto, ren_psl, ren_ptr, List.getElem?_cons_zero, List.getElem?_cons_succ, renB, cells_ren, bcells_ren, setAll, List.append_nil, List.take_succ_cons, List.drop_succ_cons, List.drop_zero, List.take_nil, List.drop_nil, List.map_cons, List.map_nil, decide_eq_true_eq, Bool.false_eq_true, true_iff, iff_true, false_iff, iff_false]
    | (refine T.nil ?_; (first | refine hK _ _ _ (by rfl) ?_ | refine hK _ _ _ ?_); simp only [keep, List.map, lk, reduceIte, Nat.reduceEqDiff, enter]; clear hK; clear K)
    | (show WOpsT _ (⟨_, .call _ _, none⟩ :: _) _ _ _ _; first | (show WOpsT _ (⟨_, .call 105 _, none⟩ :: _) _ _ _ _; refine T.call0 e105 rfl (iT) ?_) | (show WOpsT _ (⟨_, .call 105 _, none⟩ :: _) _ _ _ _; refine T.call0 e105 rfl (iF) ?_) | (show WOpsT _ (⟨_, .call 57 _, none⟩ :: _) _ _ _ _; refine T.call0 e57 rfl (kF) ?_) | (show WOpsT _ (⟨_, .call 57 _, none⟩ :: _) _ _ _ _; refine T.call0 e57 rfl (Fit_ok _) ?_) | (show WOpsT _ (⟨_, .call 35 _, none⟩ :: _) _ _ _ _; refine T.call0 e35 rfl (low8 _) ?_) | (show WOpsT _ (⟨_, .call 110 _, none⟩ :: _) _ _ _ _; refine T.call0 e110 rfl (flag_ok _ _ _) ?_))
    | (show WOpsT _ (⟨_, .ld _ _, none⟩ :: _) _ _ _ _; first | refine T.ld rfl rfl rfl rfl rfl ?_ | refine T.ldd rfl rfl ?_ | refine T.ldn rfl rfl rfl rfl (Nat.le_of_ble_eq_true rfl) ?_ | refine T.lddn rfl (Nat.le_of_ble_eq_true rfl) ?_)
    | (show WOpsT _ (⟨_, .idx _ _ _ _, none⟩ :: _) _ _ _ _; first | refine T.idx rfl rfl rfl ⟨rfl, rfl⟩ (by omega) ?_ | refine T.idxs rfl rfl rfl (by omega) rfl ?_ | refine T.idxa rfl rfl rfl rfl (by omega) ?_ | refine T.idxd rfl rfl (by omega) ?_)
    | (show WOpsT _ (⟨_, .bin _ _ _, none⟩ :: _) _ _ _ _; first | refine T.add rfl rfl (by omega) (by omega) ?_ | refine T.sub rfl rfl (by omega) (by omega) ?_ | refine T.mul rfl rfl (by omega) (by omega) ?_ | refine T.rem rfl rfl (by omega) ?_ | refine T.quo rfl rfl (by omega) ?_ | refine T.shl rfl rfl (by omega) ?_ | refine T.shr rfl rfl (by omega) ?_ | refine T.bin rfl rfl rfl ?_)
    | (show WOpsT _ (⟨_, _, some (_, true)⟩ :: _) _ _ _ _; first | refine T.goT rfl (by omega) ?_ | refine T.paT rfl (by omega) ?_ | refine T.go rfl rfl ?_ | refine T.pass rfl rfl ?_ | refine T.pU rfl ?_ | refine T.gT rfl (fun hgd => ?_) (fun hgd => ?_))
    | (show WOpsT _ (⟨_, _, some (_, false)⟩ :: _) _ _ _ _; first | refine T.goF rfl (by omega) ?_ | refine T.paF rfl (by omega) ?_ | refine T.go rfl rfl ?_ | refine T.pass rfl rfl ?_ | refine T.pU rfl ?_ | refine T.gF rfl (fun hgd => ?_) (fun hgd => ?_))
    | (show WOpsT _ (⟨_, .pick _ _ _, none⟩ :: _) _ _ _ _; first | refine T.pkT rfl (by omega) ?_ | refine T.pkF rfl (by omega) ?_ | refine T.pickT rfl rfl ?_ | refine T.pickF rfl rfl ?_ | refine T.pickB rfl rfl rfl ?_ | refine T.pkD rfl (fun hgd => ?_) (fun hgd => ?_))
    | (show AKW _ _ _ _ _ _ _; first | refine N.now ?_)
    | (show UK _ _ _ _ _ _ _ _; first | refine N.round ?_)
    | (show UC _ _ _ _ _ _ _ _; first | refine N.ucN ?_)
    | (show AK _ _ (.cond _ _ _) _ _ _ _; first | refine N.cT rfl (by omega) ?_ | refine N.cF rfl (by omega) ?_ | refine N.condT rfl rfl ?_ | refine N.condF rfl rfl ?_ | refine N.condD rfl (fun hcd => ?_) (fun hcd => ?_) | refine N.condB rfl (fun hcd => ?_) (fun hcd => ?_) | refine N.condU rfl ?_ ?_)
    | (show AK _ _ _ _ _ _ _; first | refine N.seq ?_ | refine N.block ?_ | refine N.skip ?_ | refine N.exit ?_ | refine N.ret ?_)
    | (show RK _ _ _ _ _ _ _; first | refine N.seqN ?_ | refine N.blkN ?_ | refine N.blkE rfl ?_ | refine N.blkX (by decide) ?_ | refine N.seqX ?_ | refine N.lpX ?_ | refine N.cuN ?_ | refine N.cuE rfl ?_ | refine N.cuX (by decide) ?_ | refine N.cuR ?_ | refine N.seqR ?_ | refine N.blkR ?_ | refine N.lpR ?_ | refine N.lpN ?_ | refine N.nil ?_)
    | (show WOpsT _ _ _ _ _ _; first | refine T.min2 rfl rfl rfl ?_ | refine T.max2 rfl rfl rfl ?_ | refine T.ext rfl rfl ?_ | refine T.lenc ?_ | refine T.eqnP rfl rfl ⟨rfl, by decide⟩ ?_ | refine T.eqnN rfl ?_ | refine T.eqnU rfl ?_ | refine T.lens rfl ?_ | refine T.i2s rfl ?_ | refine T.s2b rfl ?_ | refine T.slcs rfl rfl rfl (by omega) ?_ | refine T.capN rfl ?_ | refine T.slcN rfl rfl rfl ?_ | refine T.neg rfl ?_ | refine T.xorn rfl ?_ | refine T.notD rfl ?_ | refine T.not rfl ?_ | refine T.eqb0 rfl rfl ?_ | refine T.eqb1 rfl rfl ?_ | refine T.cvt rfl ?_ | refine T.fad rfl rfl rfl ?_ | refine T.fadd rfl ?_ | refine T.nilc rfl rfl rfl ?_ | refine T.nilcd rfl ?_ | refine T.nilcf rfl ?_ | refine T.nilci rfl ?_ | refine T.st rfl rfl rfl ⟨rfl, rfl⟩ rfl (Nat.le_of_ble_eq_true rfl) ?_ | refine T.fld rfl rfl ?_ | refine T.new rfl ⟨rfl, by decide⟩ ?_ | refine T.zero (by decide) ?_ | refine T.build rfl ?_ | refine T.len rfl rfl rfl ?_ | refine T.lenS rfl ?_ | refine T.lenN rfl ?_ | refine T.mkf ?_ | refine T.mki ?_ | refine T.mksl rfl rfl (by decide) ?_ | refine T.copy rfl rfl rfl ⟨rfl, rfl⟩ ?_ | refine T.ixa rfl rfl (by omega) rfl ?_ | refine T.bsl rfl (by decide) ?_ | refine T.slc rfl rfl rfl rfl ⟨rfl, rfl⟩ (by omega) ?_ | refine T.slcS rfl rfl rfl rfl (by omega) ?_)
    | refine hQ _ _ _ rfl ?_
    | refine hQN _ _ _ rfl ?_)
  exact WS.drop (n := 0) rfl rfl
theorem do18_ok (t f n : Int) (r : Nat → Int) : FnE Try.prog 54 [.agg [I 18, I t, I f, I n], .agg (ri r)] [] (.tup [.agg (ri (doR 18 t f n r).1), .c (.bool (doR 18 t f n r).2)]) [] := by
  have iT := index_ok t
  have iF := index_ok f
  have kF := Fit_ok r
  have hRf := fitR_fits r
  have hs : doR 18 t f n r = (fitR (midR 18 (ixR t) (ixR f) n (fitR r)), false) := rfl
  rw [hs]
  obtain ⟨q, hq⟩ : ∃ q, fitR r = q := ⟨_, rfl⟩
  rw [hq] at kF hRf ⊢
  have hT := ixR_lt t
  have hF := ixR_lt f
  obtain ⟨a, ha⟩ : ∃ a, ixR t = a := ⟨_, rfl⟩
  obtain ⟨b, hb⟩ : ∃ b, ixR f = b := ⟨_, rfl⟩
  rw [ha] at iT hT ⊢
  rw [hb] at iF hF ⊢
  have rT := hRf a hT
  have rF := hRf b hF
  have eT : (a : Int).toNat * 1 = a := by omega
  have eF : (b : Int).toNat * 1 = b := by omega
  refine N.fn Try.func54 k54 (Nat.le_of_ble_eq_true rfl) q54 fun Q hQ hQN => ?_
  rw [c54]
  repeat' (first
    | rw [ri_ren]
    | rw [ri_spl0]
    | rw [ri_splz]
    | (show WOpsT _ (⟨_, .ld _ _, none⟩ :: _) _ _ _ _; refine T.ld rfl rfl rfl rfl (ri_get _ _ (by omega)) ?_)
    | rw [eT]
    | rw [eF]
    | (show WOpsT _ (⟨_, .st _ _ _, none⟩ :: _) _ _ _ _; refine T.st rfl rfl rfl ⟨rfl, rfl⟩ rfl (show _ ≤ 9 by omega) ?_)
    | rw [ri_spl _ _ _ hT]
    | refine N.regS fun K hK => ?_
    | refine N.dregS fun K hK => ?_
    | refine N.regN fun K hK => ?_
    | refine N.dregN fun K hK => ?_
    | simp only [T.mv, AO.ev, put, lk, enter, reduceIte, Nat.reduceEqDiff, Nat.reduceAdd, Nat.reduceMul, Nat.reduceSub, ren_c, ren_tup, ren_agg, ren_sl, List.map, Int.reduceNeg, Int.toNat_zero, Nat.zero_add, Nat.add_zero, List.length_cons, List.length_nil, List.nil_append, List.cons_append, List.set_cons_zero, List.set_cons_succ, Int.reduceToNat, List.take_zero, upto, ren_psl, ren_ptr, List.getElem?_cons_zero, List.getElem?_cons_succ, renB, cells_ren, bcells_ren, setAll, List.append_nil, List.take_succ_cons, List.drop_succ_cons, List.drop_zero, List.take_nil, List.drop_nil, List.map_cons, List.map_nil, decide_eq_true_eq, Bool.false_eq_true, true_iff, iff_true, false_iff, iff_false]
    | (refine T.nil ?_; (first | refine hK _ _ _ (by rfl) ?_ | refine hK _ _ _ ?_); simp only [keep, List.map, lk, reduceIte, Nat.reduceEqDiff, enter]; clear hK; clear K)
    | (show WOpsT _ (⟨_, .call _ _, none⟩ :: _) _ _ _ _; first | (show WOpsT _ (⟨_, .call 105 _, none⟩ :: _) _ _ _ _; refine T.call0 e105 rfl (iT) ?_) | (show WOpsT _ (⟨_, .call 105 _, none⟩ :: _) _ _ _ _; refine T.call0 e105 rfl (iF) ?_) | (show WOpsT _ (⟨_, .call 57 _, none⟩ :: _) _ _ _ _; refine T.call0 e57 rfl (kF) ?_) | (show WOpsT _ (⟨_, .call 57 _, none⟩ :: _) _ _ _ _; refine T.call0 e57 rfl (Fit_ok _) ?_) | (show WOpsT _ (⟨_, .call 95 _, none⟩ :: _) _ _ _ _; refine T.call0 e95 rfl (put_ok _ _ 0 8 (by decide)) ?_))
    | (show WOpsT _ (⟨_, .ld _ _, none⟩ :: _) _ _ _ _; first | refine T.ld rfl rfl rfl rfl rfl ?_ | refine T.ldd rfl rfl ?_ | refine T.ldn rfl rfl rfl rfl (Nat.le_of_ble_eq_true rfl) ?_ | refine T.lddn rfl (Nat.le_of_ble_eq_true rfl) ?_)
    | (show WOpsT _ (⟨_, .idx _ _ _ _, none⟩ :: _) _ _ _ _; first | refine T.idx rfl rfl rfl ⟨rfl, rfl⟩ (by omega) ?_ | refine T.idxs rfl rfl rfl (by omega) rfl ?_ | refine T.idxa rfl rfl rfl rfl (by omega) ?_ | refine T.idxd rfl rfl (by omega) ?_)
    | (show WOpsT _ (⟨_, .bin _ _ _, none⟩ :: _) _ _ _ _; first | refine T.add rfl rfl (by omega) (by omega) ?_ | refine T.sub rfl rfl (by omega) (by omega) ?_ | refine T.mul rfl rfl (by omega) (by omega) ?_ | refine T.rem rfl rfl (by omega) ?_ | refine T.quo rfl rfl (by omega) ?_ | refine T.shl rfl rfl (by omega) ?_ | refine T.shr rfl rfl (by omega) ?_ | refine T.bin rfl rfl rfl ?_)
    | (show WOpsT _ (⟨_, _, some (_, true)⟩ :: _) _ _ _ _; first | refine T.goT rfl (by omega) ?_ | refine T.paT rfl (by omega) ?_ | refine T.go rfl rfl ?_ | refine T.pass rfl rfl ?_ | refine T.pU rfl ?_ | refine T.gT rfl (fun hgd => ?_) (fun hgd => ?_))
    | (show WOpsT _ (⟨_, _, some (_, false)⟩ :: _) _ _ _ _; first | refine T.goF rfl (by omega) ?_ | refine T.paF rfl (by omega) ?_ | refine T.go rfl rfl ?_ | refine T.pass rfl rfl ?_ | refine T.pU rfl ?_ | refine T.gF rfl (fun hgd => ?_) (fun hgd => ?_))
    | (show WOpsT _ (⟨_, .pick _ _ _, none⟩ :: _) _ _ _ _; first | refine T.pkT rfl (by omega) ?_ | refine T.pkF rfl (by omega) ?_ | refine T.pickT rfl rfl ?_ | refine T.pickF rfl rfl ?_ | refine T.pickB rfl rfl rfl ?_ | refine T.pkD rfl (fun hgd => ?_) (fun hgd => ?_))
    | (show AKW _ _ _ _ _ _ _; first | refine N.now ?_)
    | (show UK _ _ _ _ _ _ _ _; first | refine N.round ?_)
    | (show UC _ _ _ _ _ _ _ _; first | refine N.ucN ?_)
    | (show AK _ _ (.cond _ _ _) _ _ _ _; first | refine N.cT rfl (by omega) ?_ | refine N.cF rfl (by omega) ?_ | refine N.condT rfl rfl ?_ | refine N.condF rfl rfl ?_ | refine N.condD rfl (fun hcd => ?_) (fun hcd => ?_) | refine N.condB rfl (fun hcd => ?_) (fun hcd => ?_) | refine N.condU rfl ?_ ?_)
    | (show AK _ _ _ _ _ _ _; first | refine N.seq ?_ | refine N.block ?_ | refine N.skip ?_ | refine N.exit ?_ | refine N.ret ?_)
    | (show RK _ _ _ _ _ _ _; first | refine N.seqN ?_ | refine N.blkN ?_ | refine N.blkE rfl ?_ | refine N.blkX (by decide) ?_ | refine N.seqX ?_ | refine N.lpX ?_ | refine N.cuN ?_ | refine N.cuE rfl ?_ | refine N.cuX (by decide) ?_ | refine N.cuR ?_ | refine N.seqR ?_ | refine N.blkR ?_ | refine N.lpR ?_ | refine N.lpN ?_ | refine N.nil ?_)
    | (show WOpsT _ _ _ _ _ _; first | refine T.min2 rfl rfl rfl ?_ | refine T.max2 rfl rfl rfl ?_ | refine T.ext rfl rfl ?_ | refine T.lenc ?_ | refine T.eqnP rfl rfl ⟨rfl, by decide⟩ ?_ | refine T.eqnN rfl ?_ | refine T.eqnU rfl ?_ | refine T.lens rfl ?_ | refine T.i2s rfl ?_ | refine T.s2b rfl ?_ | refine T.slcs rfl rfl rfl (by omega) ?_ | refine T.capN rfl ?_ | refine T.slcN rfl rfl rfl ?_ | refine T.neg rfl ?_ | refine T.xorn rfl ?_ | refine T.notD rfl ?_ | refine T.not rfl ?_ | refine T.eqb0 rfl rfl ?_ | refine T.eqb1 rfl rfl ?_ | refine T.cvt rfl ?_ | refine T.fad rfl rfl rfl ?_ | refine T.fadd rfl ?_ | refine T.nilc rfl rfl rfl ?_ | refine T.nilcd rfl ?_ | refine T.nilcf rfl ?_ | refine T.nilci rfl ?_ | refine T.st rfl rfl rfl ⟨rfl, rfl⟩ rfl (Nat.le_of_ble_eq_true rfl) ?_ | refine T.fld rfl rfl ?_ | refine T.new rfl ⟨rfl, by decide⟩ ?_ | refine T.zero (by decide) ?_ | refine T.build rfl ?_ | refine T.len rfl rfl rfl ?_ | refine T.lenS rfl ?_ | refine T.lenN rfl ?_ | refine T.mkf ?_ | refine T.mki ?_ | refine T.mksl rfl rfl (by decide) ?_ | refine T.copy rfl rfl rfl ⟨rfl, rfl⟩ ?_ | refine T.ixa rfl rfl (by omega) rfl ?_ | refine T.bsl rfl (by decide) ?_ | refine T.slc rfl rfl rfl rfl ⟨rfl, rfl⟩ (by omega) ?_ | refine T.slcS rfl rfl rfl rfl (by omega) ?_)
    | refine hQ _ _ _ rfl ?_
    | refine hQN _ _ _ rfl ?_)
  exact WS.drop (n := 0) rfl rfl
theorem do19_ok (t f n : Int) (r : Nat → Int) : FnE Try.prog 54 [.agg [I 19, I t, I f, I n], .agg (ri r)] [] (.tup [.agg (ri (doR 19 t f n r).1), .c (.bool (doR 19 t f n r).2)]) [] := by
  have iT := index_ok t
  have iF := index_ok f
  have kF := Fit_ok r
  have hRf := fitR_fits r
  have hs : doR 19 t f n r = (fitR (midR 19 (ixR t) (ixR f) n (fitR r)), false) := rfl
  rw [hs]
  obtain ⟨q, hq⟩ : ∃ q, fitR r = q := ⟨_, rfl⟩
  rw [hq] at kF hRf ⊢
  have hT := ixR_lt t
  have hF := ixR_lt f
  obtain ⟨a, ha⟩ : ∃ a, ixR t = a := ⟨_, rfl⟩
  obtain ⟨b, hb⟩ : ∃ b, ixR f = b := ⟨_, rfl⟩
  rw [ha] at iT hT ⊢
  rw [hb] at iF hF ⊢
  have rT := hRf a hT
  have rF := hRf b hF
  have eT : (a : Int).toNat * 1 = a := by omega
  have eF : (b : Int).toNat * 1 = b := by omega
  refine N.fn Try.func54 k54 (Nat.le_of_ble_eq_true rfl) q54 fun Q hQ hQN => ?_
  rw [c54]
  repeat' (first
    | rw [ri_ren]
    | rw [ri_spl0]
    | rw [ri_splz]
    | (show WOpsT _ (⟨_, .ld _ _, none⟩ :: _) _ _ _ _; refine T.ld rfl rfl rfl rfl (ri_get _ _ (by omega)) ?_)
    | rw [eT]
    | rw [eF]
    | (show WOpsT _ (⟨_, .st _ _ _, none⟩ :: _) _ _ _ _; refine T.st rfl rfl rfl ⟨rfl, rfl⟩ rfl (show _ ≤ 9 by omega) ?_)
    | rw [ri_spl _ _ _ hT]
    | refine N.regS fun K hK => ?_
    | refine N.dregS fun K hK => ?_
    | refine N.regN fun K hK => ?_
    | refine N.dregN fun K hK => ?_
    | simp only [T.mv, AO.ev, put, lk, enter, reduceIte, Nat.reduceEqDiff, Nat.reduceAdd, Nat.reduceMul, Nat.reduceSub, ren_c, ren_tup, ren_agg, ren_sl, List.map, Int.reduceNeg, Int.toNat_zero, Nat.zero_add, Nat.add_zero, List.length_cons, List.length_nil, List.nil_append, List.cons_append, List.set_cons_zero, List.set_cons_succ, Int.reduceToNat, List.take_zero, upto, ren_psl, ren_ptr, List.getElem?_cons_zero, List.getElem?_cons_succ, renB, cells_ren, bcells_ren, setAll, List.append_nil, List.take_succ_cons, List.drop_succ_cons, List.drop_zero, List.take_nil, List.drop_nil, List.map_cons, List.map_nil, decide_eq_true_eq, Bool.false_eq_true, true_iff, iff_true, false_iff, iff_false]
    | (refine T.nil ?_; (first | refine hK _ _ _ (by rfl) ?_ | refine hK _ _ _ ?_); simp only [keep, List.map, lk, reduceIte, Nat.reduceEqDiff, enter]; clear hK; clear K)
    | (show WOpsT _ (⟨_, .call _ _, none⟩ :: _) _ _ _ _; first | (show WOpsT _ (⟨_, .call 105 _, none⟩ :: _) _ _ _ _; refine T.call0 e105 rfl (iT) ?_) | (show WOpsT _ (⟨_, .call 105 _, none⟩ :: _) _ _ _ _; refine T.call0 e105 rfl (iF) ?_) | (show WOpsT _ (⟨_, .call 57 _, none⟩ :: _) _ _ _ _; refine T.call0 e57 rfl (kF) ?_) | (show WOpsT _ (⟨_, .call 57 _, none⟩ :: _) _ _ _ _; refine T.call0 e57 rfl (Fit_ok _) ?_) | (show WOpsT _ (⟨_, .call 95 _, none⟩ :: _) _ _ _ _; refine T.call0 e95 rfl (put_ok _ _ 8 8 (by decide)) ?_))
    | (show WOpsT _ (⟨_, .ld _ _, none⟩ :: _) _ _ _ _; first | refine T.ld rfl rfl rfl rfl rfl ?_ | refine T.ldd rfl rfl ?_ | refine T.ldn rfl rfl rfl rfl (Nat.le_of_ble_eq_true rfl) ?_ | refine T.lddn rfl (Nat.le_of_ble_eq_true rfl) ?_)
    | (show WOpsT _ (⟨_, .idx _ _ _ _, none⟩ :: _) _ _ _ _; first | refine T.idx rfl rfl rfl ⟨rfl, rfl⟩ (by omega) ?_ | refine T.idxs rfl rfl rfl (by omega) rfl ?_ | refine T.idxa rfl rfl rfl rfl (by omega) ?_ | refine T.idxd rfl rfl (by omega) ?_)
    | (show WOpsT _ (⟨_, .bin _ _ _, none⟩ :: _) _ _ _ _; first | refine T.add rfl rfl (by omega) (by omega) ?_ | refine T.sub rfl rfl (by omega) (by omega) ?_ | refine T.mul rfl rfl (by omega) (by omega) ?_ | refine T.rem rfl rfl (by omega) ?_ | refine T.quo rfl rfl (by omega) ?_ | refine T.shl rfl rfl (by omega) ?_ | refine T.shr rfl rfl (by omega) ?_ | refine T.bin rfl rfl rfl ?_)
    | (show WOpsT _ (⟨_, _, some (_, true)⟩ :: _) _ _ _ _; first | refine T.goT rfl (by omega) ?_ | refine T.paT rfl (by omega) ?_ | refine T.go rfl rfl ?_ | refine T.pass rfl rfl ?_ | refine T.pU rfl ?_ | refine T.gT rfl (fun hgd => ?_) (fun hgd => ?_))
    | (show WOpsT _ (⟨_, _, some (_, false)⟩ :: _) _ _ _ _; first | refine T.goF rfl (by omega) ?_ | refine T.paF rfl (by omega) ?_ | refine T.go rfl rfl ?_ | refine T.pass rfl rfl ?_ | refine T.pU rfl ?_ | refine T.gF rfl (fun hgd => ?_) (fun hgd => ?_))
    | (show WOpsT _ (⟨_, .pick _ _ _, none⟩ :: _) _ _ _ _; first | refine T.pkT rfl (by omega) ?_ | refine T.pkF rfl (by omega) ?_ | refine T.pickT rfl rfl ?_ | refine T.pickF rfl rfl ?_ | refine T.pickB rfl rfl rfl ?_ | refine T.pkD rfl (fun hgd => ?_) (fun hgd => ?_))
    | (show AKW _ _ _ _ _ _ _; first | refine N.now ?_)
    | (show UK _ _ _ _ _ _ _ _; first | refine N.round ?_)
    | (show UC _ _ _ _ _ _ _ _; first | refine N.ucN ?_)
    | (show AK _ _ (.cond _ _ _) _ _ _ _; first | refine N.cT rfl (by omega) ?_ | refine N.cF rfl (by omega) ?_ | refine N.condT rfl rfl ?_ | refine N.condF rfl rfl ?_ | refine N.condD rfl (fun hcd => ?_) (fun hcd => ?_) | refine N.condB rfl (fun hcd => ?_) (fun hcd => ?_) | refine N.condU rfl ?_ ?_)
    | (show AK _ _ _ _ _ _ _; first | refine N.seq ?_ | refine N.block ?_ | refine N.skip ?_ | refine N.exit ?_ | refine N.ret ?_)
    | (show RK _ _ _ _ _ _ _; first | refine N.seqN ?_ | refine N.blkN ?_ | refine N.blkE rfl ?_ | refine N.blkX (by decide) ?_ | refine N.seqX ?_ | refine N.lpX ?_ | refine N.cuN ?_ | refine N.cuE rfl ?_ | refine N.cuX (by decide) ?_ | refine N.cuR ?_ | refine N.seqR ?_ | refine N.blkR ?_ | refine N.lpR ?_ | refine N.lpN ?_ | refine N.nil ?_)
    | (show WOpsT _ _ _ _ _ _; first | refine T.min2 rfl rfl rfl ?_ | refine T.max2 rfl rfl rfl ?_ | refine T.ext rfl rfl ?_ | refine T.lenc ?_ | refine T.eqnP rfl rfl ⟨rfl, by decide⟩ ?_ | refine T.eqnN rfl ?_ | refine T.eqnU rfl ?_ | refine T.lens rfl ?_ | refine T.i2s rfl ?_ | refine T.s2b rfl ?_ | refine T.slcs rfl rfl rfl (by omega) ?_ | refine T.capN rfl ?_ | refine T.slcN rfl rfl rfl ?_ | refine T.neg rfl ?_ | refine T.xorn rfl ?_ | refine T.notD rfl ?_ | refine T.not rfl ?_ | refine T.eqb0 rfl rfl ?_ | refine T.eqb1 rfl rfl ?_ | refine T.cvt rfl ?_ | refine T.fad rfl rfl rfl ?_ | refine T.fadd rfl ?_ | refine T.nilc rfl rfl rfl ?_ | refine T.nilcd rfl ?_ | refine T.nilcf rfl ?_ | refine T.nilci rfl ?_ | refine T.st rfl rfl rfl ⟨rfl, rfl⟩ rfl (Nat.le_of_ble_eq_true rfl) ?_ | refine T.fld rfl rfl ?_ | refine T.new rfl ⟨rfl, by decide⟩ ?_ | refine T.zero (by decide) ?_ | refine T.build rfl ?_ | refine T.len rfl rfl rfl ?_ | refine T.lenS rfl ?_ | refine T.lenN rfl ?_ | refine T.mkf ?_ | refine T.mki ?_ | refine T.mksl rfl rfl (by decide) ?_ | refine T.copy rfl rfl rfl ⟨rfl, rfl⟩ ?_ | refine T.ixa rfl rfl (by omega) rfl ?_ | refine T.bsl rfl (by decide) ?_ | refine T.slc rfl rfl rfl rfl ⟨rfl, rfl⟩ (by omega) ?_ | refine T.slcS rfl rfl rfl rfl (by omega) ?_)
    | refine hQ _ _ _ rfl ?_
    | refine hQN _ _ _ rfl ?_)
  exact WS.drop (n := 0) rfl rfl
theorem do20_ok (t f n : Int) (r : Nat → Int) : FnE Try.prog 54 [.agg [I 20, I t, I f, I n], .agg (ri r)] [] (.tup [.agg (ri (doR 20 t f n r).1), .c (.bool (doR 20 t f n r).2)]) [] := by
  have iT := index_ok t
  have iF := index_ok f
  have kF := Fit_ok r
  have hRf := fitR_fits r
  have hs : doR 20 t f n r = (fitR (midR 20 (ixR t) (ixR f) n (fitR r)), false) := rfl
  rw [hs]
  obtain ⟨q, hq⟩ : ∃ q, fitR r = q := ⟨_, rfl⟩
  rw [hq] at kF hRf ⊢
  have hT := ixR_lt t
  have hF := ixR_lt f
  obtain ⟨a, ha⟩ : ∃ a, ixR t = a := ⟨_, rfl⟩
  obtain ⟨b, hb⟩ : ∃ b, ixR f = b := ⟨_, rfl⟩
  rw [ha] at iT hT ⊢
  rw [hb] at iF hF ⊢
  have rT := hRf a hT
  have rF := hRf b hF
  have eT : (a : Int).toNat * 1 = a := by omega
  have eF : (b : Int).toNat * 1 = b := by omega
  refine N.fn Try.func54 k54 (Nat.le_of_ble_eq_true rfl) q54 fun Q hQ hQN => ?_
  rw [c54]
  repeat' (first
    | rw [ri_ren]
    | rw [ri_spl0]
    | rw [ri_splz]
    | (show WOpsT _ (⟨_, .ld _ _, none⟩ :: _) _ _ _ _; refine T.ld rfl rfl rfl rfl (ri_get _ _ (by omega)) ?_)
    | rw [eT]
    | rw [eF]
    | (show WOpsT _ (⟨_, .st _ _ _, none⟩ :: _) _ _ _ _; refine T.st rfl rfl rfl ⟨rfl, rfl⟩ rfl (show _ ≤ 9 by omega) ?_)
    | rw [ri_spl _ _ _ hT]
    | refine N.regS fun K hK => ?_
    | refine N.dregS fun K hK => ?_
    | refine N.regN fun K hK => ?_
    | refine N.dregN fun K hK => ?_
    | simp only [T.mv, AO.ev, put, lk, enter, reduceIte, Nat.reduceEqDiff, Nat.reduceAdd, Nat.reduceMul, Nat.reduceSub, ren_c, ren_tup, ren_agg, ren_sl, List.map, Int.reduceNeg, Int.toNat_zero, Nat.zero_add, Nat.add_zero, List.length_cons, List.length_nil, List.nil_append, List.cons_append, List.set_cons_zero, List.set_cons_succ, Int.reduceToNat, List.take_zero, upto, ren_psl, ren_ptr, List.getElem?_cons_zero, List.getElem?_cons_succ, renB, cells_ren, bcells_ren, setAll, List.append_nil, List.take_succ_cons, List.drop_succ_cons, List.drop_zero, List.take_nil, List.drop_nil, List.map_cons, List.map_nil, decide_eq_true_eq, Bool.false_eq_true, true_iff, iff_true, false_iff, iff_false]
    | (refine T.nil ?_; (first | refine hK _ _ _ (by rfl) ?_ | refine hK _ _ _ ?_); simp only [keep, List.map, lk, reduceIte, Nat.reduceEqDiff, enter]; clear hK; clear K)
    | (show WOpsT _ (⟨_, .call _ _, none⟩ :: _) _ _ _ _; first | (show WOpsT _ (⟨_, .call 105 _, none⟩ :: _) _ _ _ _; refine T.call0 e105 rfl (iT) ?_) | (show WOpsT _ (⟨_, .call 105 _, none⟩ :: _) _ _ _ _; refine T.call0 e105 rfl (iF) ?_) | (show WOpsT _ (⟨_, .call 57 _, none⟩ :: _) _ _ _ _; refine T.call0 e57 rfl (kF) ?_) | (show WOpsT _ (⟨_, .call 57 _, none⟩ :: _) _ _ _ _; refine T.call0 e57 rfl (Fit_ok _) ?_) | (show WOpsT _ (⟨_, .call 99 _, none⟩ :: _) _ _ _ _; refine T.call0 e99 rfl (get_ok _ 0 8 (by decide)) ?_))
    | (show WOpsT _ (⟨_, .ld _ _, none⟩ :: _) _ _ _ _; first | refine T.ld rfl rfl rfl rfl rfl ?_ | refine T.ldd rfl rfl ?_ | refine T.ldn rfl rfl rfl rfl (Nat.le_of_ble_eq_true rfl) ?_ | refine T.lddn rfl (Nat.le_of_ble_eq_true rfl) ?_)
    | (show WOpsT _ (⟨_, .idx _ _ _ _, none⟩ :: _) _ _ _ _; first | refine T.idx rfl rfl rfl ⟨rfl, rfl⟩ (by omega) ?_ | refine T.idxs rfl rfl rfl (by omega) rfl ?_ | refine T.idxa rfl rfl rfl rfl (by omega) ?_ | refine T.idxd rfl rfl (by omega) ?_)
    | (show WOpsT _ (⟨_, .bin _ _ _, none⟩ :: _) _ _ _ _; first | refine T.add rfl rfl (by omega) (by omega) ?_ | refine T.sub rfl rfl (by omega) (by omega) ?_ | refine T.mul rfl rfl (by omega) (by omega) ?_ | refine T.rem rfl rfl (by omega) ?_ | refine T.quo rfl rfl (by omega) ?_ | refine T.shl rfl rfl (by omega) ?_ | refine T.shr rfl rfl (by omega) ?_ | refine T.bin rfl rfl rfl ?_)
    | (show WOpsT _ (⟨_, _, some (_, true)⟩ :: _) _ _ _ _; first | refine T.goT rfl (by omega) ?_ | refine T.paT rfl (by omega) ?_ | refine T.go rfl rfl ?_ | refine T.pass rfl rfl ?_ | refine T.pU rfl ?_ | refine T.gT rfl (fun hgd => ?_) (fun hgd => ?_))
    | (show WOpsT _ (⟨_, _, some (_, false)⟩ :: _) _ _ _ _; first | refine T.goF rfl (by omega) ?_ | refine T.paF rfl (by omega) ?_ | refine T.go rfl rfl ?_ | refine T.pass rfl rfl ?_ | refine T.pU rfl ?_ | refine T.gF rfl (fun hgd => ?_) (fun hgd => ?_))
    | (show WOpsT _ (⟨_, .pick _ _ _, none⟩ :: _) _ _ _ _; first | refine T.pkT rfl (by omega) ?_ | refine T.pkF rfl (by omega) ?_ | refine T.pickT rfl rfl ?_ | refine T.pickF rfl rfl ?_ | refine T.pickB rfl rfl rfl ?_ | refine T.pkD rfl (fun hgd => ?_) (fun hgd => ?_))
    | (show AKW _ _ _ _ _ _ _; first | refine N.now ?_)
    | (show UK _ _ _ _ _ _ _ _; first | refine N.round ?_)
    | (show UC _ _ _ _ _ _ _ _; first | refine N.ucN ?_)
    | (show AK _ _ (.cond _ _ _) _ _ _ _; first | refine N.cT rfl (by omega) ?_ | refine N.cF rfl (by omega) ?_ | refine N.condT rfl rfl ?_ | refine N.condF rfl rfl ?_ | refine N.condD rfl (fun hcd => ?_) (fun hcd => ?_) | refine N.condB rfl (fun hcd => ?_) (fun hcd => ?_) | refine N.condU rfl ?_ ?_)
    | (show AK _ _ _ _ _ _ _; first | refine N.seq ?_ | refine N.block ?_ | refine N.skip ?_ | refine N.exit ?_ | refine N.ret ?_)
    | (show RK _ _ _ _ _ _ _; first | refine N.seqN ?_ | refine N.blkN ?_ | refine N.blkE rfl ?_ | refine N.blkX (by decide) ?_ | refine N.seqX ?_ | refine N.lpX ?_ | refine N.cuN ?_ | refine N.cuE rfl ?_ | refine N.cuX (by decide) ?_ | refine N.cuR ?_ | refine N.seqR ?_ | refine N.blkR ?_ | refine N.lpR ?_ | refine N.lpN ?_ | refine N.nil ?_)
    | (show WOpsT _ _ _ _ _ _; first | refine T.min2 rfl rfl rfl ?_ | refine T.max2 rfl rfl rfl ?_ | refine T.ext rfl rfl ?_ | refine T.lenc ?_ | refine T.eqnP rfl rfl ⟨rfl, by decide⟩ ?_ | refine T.eqnN rfl ?_ | refine T.eqnU rfl ?_ | refine T.lens rfl ?_ | refine T.i2s rfl ?_ | refine T.s2b rfl ?_ | refine T.slcs rfl rfl rfl (by omega) ?_ | refine T.capN rfl ?_ | refine T.slcN rfl rfl rfl ?_ | refine T.neg rfl ?_ | refine T.xorn rfl ?_ | refine T.notD rfl ?_ | refine T.not rfl ?_ | refine T.eqb0 rfl rfl ?_ | refine T.eqb1 rfl rfl ?_ | refine T.cvt rfl ?_ | refine T.fad rfl rfl rfl ?_ | refine T.fadd rfl ?_ | refine T.nilc rfl rfl rfl ?_ | refine T.nilcd rfl ?_ | refine T.nilcf rfl ?_ | refine T.nilci rfl ?_ | refine T.st rfl rfl rfl ⟨rfl, rfl⟩ rfl (Nat.le_of_ble_eq_true rfl) ?_ | refine T.fld rfl rfl ?_ | refine T.new rfl ⟨rfl, by decide⟩ ?_ | refine T.zero (by decide) ?_ | refine T.build rfl ?_ | refine T.len rfl rfl rfl ?_ | refine T.lenS rfl ?_ | refine T.lenN rfl ?_ | refine T.mkf ?_ | refine T.mki ?_ | refine T.mksl rfl rfl (by decide) ?_ | refine T.copy rfl rfl rfl ⟨rfl, rfl⟩ ?_ | refine T.ixa rfl rfl (by omega) rfl ?_ | refine T.bsl rfl (by decide) ?_ | refine T.slc rfl rfl rfl rfl ⟨rfl, rfl⟩ (by omega) ?_ | refine T.slcS rfl rfl rfl rfl (by omega) ?_)
    | refine hQ _ _ _ rfl ?_
    | refine hQN _ _ _ rfl ?_)
  exact WS.drop (n := 0) rfl rfl
theorem do21_ok (t f n : Int) (r : Nat → Int) : FnE Try.prog 54 [.agg [I 21, I t, I f, I n], .agg (ri r)] [] (.tup [.agg (ri (doR 21 t f n r).1), .c (.bool (doR 21 t f n r).2)]) [] := by
  have iT := index_ok t
  have iF := index_ok f
  have kF := Fit_ok r
  have hRf := fitR_fits r
  have hs : doR 21 t f n r = (fitR (midR 21 (ixR t) (ixR f) n (fitR r)), false) := rfl
  rw [hs]
  obtain ⟨q, hq⟩ : ∃ q, fitR r = q := ⟨_, rfl⟩
  rw [hq] at kF hRf ⊢
  have hT := ixR_lt t
  have hF := ixR_lt f
  obtain ⟨a, ha⟩ : ∃ a, ixR t = a := ⟨_, rfl⟩
  obtain ⟨b, hb⟩ : ∃ b, ixR f = b := ⟨_, rfl⟩
  rw [ha] at iT hT ⊢
  rw [hb] at iF hF ⊢
  have rT := hRf a hT
  have rF := hRf b hF
  have eT : (a : Int).toNat * 1 = a := by omega
  have eF : (b : Int).toNat * 1 = b := by omega
  refine N.fn Try.func54 k54 (Nat.le_of_ble_eq_true rfl) q54 fun Q hQ hQN => ?_
  rw [c54]
  repeat' (first
    | rw [ri_ren]
    | rw [ri_spl0]
    | rw [ri_splz]
    | (show WOpsT _ (⟨_, .ld _ _, none⟩ :: _) _ _ _ _; refine T.ld rfl rfl rfl rfl (ri_get _ _ (by omega)) ?_)
    | rw [eT]
    | rw [eF]
    | (show WOpsT _ (⟨_, .st _ _ _, none⟩ :: _) _ _ _ _; refine T.st rfl rfl rfl ⟨rfl, rfl⟩ rfl (show _ ≤ 9 by omega) ?_)
    | rw [ri_spl _ _ _ hT]
    | refine N.regS fun K hK => ?_
    | refine N.dregS fun K hK => ?_
    | refine N.regN fun K hK => ?_
    | refine N.dregN fun K hK => ?_
    | simp only [T.mv, AO.ev, put, lk, enter, reduceIte, Nat.reduceEqDiff, Nat.reduceAdd, Nat.reduceMul, Nat.reduceSub, ren_c, ren_tup, ren_agg, ren_sl, List.map, Int.reduceNeg, Int.toNat_zero, Nat.zero_add, Nat.add_zero, List.length_cons, List.length_nil, List.nil_append, List.cons_append, List.set_cons_zero, List.set_cons_succ, Int.reduceToNat, List.take_zero, upto, ren_psl, ren_ptr, List.getElem?_cons_zero, List.getElem?_cons_succ, renB, cells_ren, bcells_ren, setAll, List.append_nil, List.take_succ_cons, List.drop_succ_cons, List.drop_zero, List.take_nil, List.drop_nil, List.map_cons, List.map_nil, decide_eq_true_eq, Bool.false_eq_true, true_iff, iff_true, false_iff, iff_false]
    | (refine T.nil ?_; (first | refine hK _ _ _ (by rfl) ?_ | refine hK _ _ _ ?_); simp only [keep, List.map, lk, reduceIte, Nat.reduceEqDiff, enter]; clear hK; clear K)
    | (show WOpsT _ (⟨_, .call _ _, none⟩ :: _) _ _ _ _; first | (show WOpsT _ (⟨_, .call 105 _, none⟩ :: _) _ _ _ _; refine T.call0 e105 rfl (iT) ?_) | (show WOpsT _ (⟨_, .call 105 _, none⟩ :: _) _ _ _ _; refine T.call0 e105 rfl (iF) ?_) | (show WOpsT _ (⟨_, .call 57 _, none⟩ :: _) _ _ _ _; refine T.call0 e57 rfl (kF) ?_) | (show WOpsT _ (⟨_, .call 57 _, none⟩ :: _) _ _ _ _; refine T.call0 e57 rfl (Fit_ok _) ?_) | (show WOpsT _ (⟨_, .call 99 _, none⟩ :: _) _ _ _ _; refine T.call0 e99 rfl (get_ok _ 8 8 (by decide)) ?_))
    | (show WOpsT _ (⟨_, .ld _ _, none⟩ :: _) _ _ _ _; first | refine T.ld rfl rfl rfl rfl rfl ?_ | refine T.ldd rfl rfl ?_ | refine T.ldn rfl rfl rfl rfl (Nat.le_of_ble_eq_true rfl) ?_ | refine T.lddn rfl (Nat.le_of_ble_eq_true rfl) ?_)
    | (show WOpsT _ (⟨_, .idx _ _ _ _, none⟩ :: _) _ _ _ _; first | refine T.idx rfl rfl rfl ⟨rfl, rfl⟩ (by omega) ?_ | refine T.idxs rfl rfl rfl (by omega) rfl ?_ | refine T.idxa rfl rfl rfl rfl (by omega) ?_ | refine T.idxd rfl rfl (by omega) ?_)
    | (show WOpsT _ (⟨_, .bin _ _ _, none⟩ :: _) _ _ _ _; first | refine T.add rfl rfl (by omega) (by omega) ?_ | refine T.sub rfl rfl (by omega) (by omega) ?_ | refine T.mul rfl rfl (by omega) (by omega) ?_ | refine T.rem rfl rfl (by omega) ?_ | refine T.quo rfl rfl (by omega) ?_ | refine T.shl rfl rfl (by omega) ?_ | refine T.shr rfl rfl (by omega) ?_ | refine T.bin rfl rfl rfl ?_)
    | (show WOpsT _ (⟨_, _, some (_, true)⟩ :: _) _ _ _ _; first | refine T.goT rfl (by omega) ?_ | refine T.paT rfl (by omega) ?_ | refine T.go rfl rfl ?_ | refine T.pass rfl rfl ?_ | refine T.pU rfl ?_ | refine T.gT rfl (fun hgd => ?_) (fun hgd => ?_))
    | (show WOpsT _ (⟨_, _, some (_, false)⟩ :: _) _ _ _ _; first | refine T.goF rfl (by omega) ?_ | refine T.paF rfl (by omega) ?_ | refine T.go rfl rfl ?_ | refine T.pass rfl rfl ?_ | refine T.pU rfl ?_ | refine T.gF rfl (fun hgd => ?_) (fun hgd => ?_))
    | (show WOpsT _ (⟨_, .pick _ _ _, none⟩ :: _) _ _ _ _; first | refine T.pkT rfl (by omega) ?_ | refine T.pkF rfl (by omega) ?_ | refine T.pickT rfl rfl ?_ | refine T.pickF rfl rfl ?_ | refine T.pickB rfl rfl rfl ?_ | refine T.pkD rfl (fun hgd => ?_) (fun hgd => ?_))
    | (show AKW _ _ _ _ _ _ _; first | refine N.now ?_)
    | (show UK _ _ _ _ _ _ _ _; first | refine N.round ?_)
    | (show UC _ _ _ _ _ _ _ _; first | refine N.ucN ?_)
    | (show AK _ _ (.cond _ _ _) _ _ _ _; first | refine N.cT rfl (by omega) ?_ | refine N.cF rfl (by omega) ?_ | refine N.condT rfl rfl ?_ | refine N.condF rfl rfl ?_ | refine N.condD rfl (fun hcd => ?_) (fun hcd => ?_) | refine N.condB rfl (fun hcd => ?_) (fun hcd => ?_) | refine N.condU rfl ?_ ?_)
    | (show AK _ _ _ _ _ _ _; first | refine N.seq ?_ | refine N.block ?_ | refine N.skip ?_ | refine N.exit ?_ | refine N.ret ?_)
    | (show RK _ _ _ _ _ _ _; first | refine N.seqN ?_ | refine N.blkN ?_ | refine N.blkE rfl ?_ | refine N.blkX (by decide) ?_ | refine N.seqX ?_ | refine N.lpX ?_ | refine N.cuN ?_ | refine N.cuE rfl ?_ | refine N.cuX (by decide) ?_ | refine N.cuR ?_ | refine N.seqR ?_ | refine N.blkR ?_ | refine N.lpR ?_ | refine N.lpN ?_ | refine N.nil ?_)
    | (show WOpsT _ _ _ _ _ _; first | refine T.min2 rfl rfl rfl ?_ | refine T.max2 rfl rfl rfl ?_ | refine T.ext rfl rfl ?_ | refine T.lenc ?_ | refine T.eqnP rfl rfl ⟨rfl, by decide⟩ ?_ | refine T.eqnN rfl ?_ | refine T.eqnU rfl ?_ | refine T.lens rfl ?_ | refine T.i2s rfl ?_ | refine T.s2b rfl ?_ | refine T.slcs rfl rfl rfl (by omega) ?_ | refine T.capN rfl ?_ | refine T.slcN rfl rfl rfl ?_ | refine T.neg rfl ?_ | refine T.xorn rfl ?_ | refine T.notD rfl ?_ | refine T.not rfl ?_ | refine T.eqb0 rfl rfl ?_ | refine T.eqb1 rfl rfl ?_ | refine T.cvt rfl ?_ | refine T.fad rfl rfl rfl ?_ | refine T.fadd rfl ?_ | refine T.nilc rfl rfl rfl ?_ | refine T.nilcd rfl ?_ | refine T.nilcf rfl ?_ | refine T.nilci rfl ?_ | refine T.st rfl rfl rfl ⟨rfl, rfl⟩ rfl (Nat.le_of_ble_eq_true rfl) ?_ | refine T.fld rfl rfl ?_ | refine T.new rfl ⟨rfl, by decide⟩ ?_ | refine T.zero (by decide) ?_ | refine T.build rfl ?_ | refine T.len rfl rfl rfl ?_ | refine T.lenS rfl ?_ | refine T.lenN rfl ?_ | refine T.mkf ?_ | refine T.mki ?_ | refine T.mksl rfl rfl (by decide) ?_ | refine T.copy rfl rfl rfl ⟨rfl, rfl⟩ ?_ | refine T.ixa rfl rfl (by omega) rfl ?_ | refine T.bsl rfl (by decide) ?_ | refine T.slc rfl rfl rfl rfl ⟨rfl, rfl⟩ (by omega) ?_ | refine T.slcS rfl rfl rfl rfl (by omega) ?_)
    | refine hQ _ _ _ rfl ?_
    | refine hQN _ _ _ rfl ?_)
  exact WS.drop (n := 0) rfl rfl
theorem do22_ok (t f n : Int) (r : Nat → Int) : FnE Try.prog 54 [.agg [I 22, I t, I f, I n], .agg (ri r)] [] (.tup [.agg (ri (doR 22 t f n r).1), .c (.bool (doR 22 t f n r).2)]) [] := by
  have iT := index_ok t
  have iF := index_ok f
  have kF := Fit_ok r
  have hRf := fitR_fits r
  have hs : doR 22 t f n r = (fitR (midR 22 (ixR t) (ixR f) n (fitR r)), false) := rfl
  rw [hs]
  obtain ⟨q, hq⟩ : ∃ q, fitR r = q := ⟨_, rfl⟩
  rw [hq] at kF hRf ⊢
  have hT := ixR_lt t
  have hF := ixR_lt f
  obtain ⟨a, ha⟩ : ∃ a, ixR t = a := ⟨_, rfl⟩
  obtain ⟨b, hb⟩ : ∃ b, ixR f = b := ⟨_, rfl⟩
  rw [ha] at iT hT ⊢
  rw [hb] at iF hF ⊢
  have rT := hRf a hT
  have rF := hRf b hF
  have eT : (a : Int).toNat * 1 = a := by omega
  have eF : (b : Int).toNat * 1 = b := by omega
  have hrt : 0 ≤ q a ∧ q a < 65536 := by split at rT <;> omega
  have hrf : 0 ≤ q b ∧ q b < 65536 := by split at rF <;> omega
  refine N.fn Try.func54 k54 (Nat.le_of_ble_eq_true rfl) q54 fun Q hQ hQN => ?_
  rw [c54]
  repeat' (first
    | rw [ri_ren]
    | rw [ri_spl0]
    | rw [ri_splz]
    | (show WOpsT _ (⟨_, .ld _ _, none⟩ :: _) _ _ _ _; refine T.ld rfl rfl rfl rfl (ri_get _ _ (by omega)) ?_)
    | rw [eT]
    | rw [eF]
    | (show WOpsT _ (⟨_, .st _ _ _, none⟩ :: _) _ _ _ _; refine T.st rfl rfl rfl ⟨rfl, rfl⟩ rfl (show _ ≤ 9 by omega) ?_)
    | rw [ri_spl _ _ _ hT]
    | refine N.regS fun K hK => ?_
    | refine N.dregS fun K hK => ?_
    | refine N.regN fun K hK => ?_
    | refine N.dregN fun K hK => ?_
    | simp only [T.mv, AO.ev, put, lk, enter, reduceIte, Nat.reduceEqDiff, Nat.reduceAdd, Nat.reduceMul, Nat.reduceSub, ren_c, ren_tup, ren_agg, ren_sl, List.map, Int.reduceNeg, Int.toNat_zero, Nat.zero_add, Nat.add_zero, List.length_cons, List.length_nil, List.nil_append, List.cons_append, List.set_cons_zero, List.set_cons_succ, Int.reduceToNat, List.take_zero, upto, ren_psl, ren_ptr, List.getElem?_cons_zero, List.getElem?_cons_succ, renB, cells_ren, bcells_ren, setAll, List.append_nil, List.take_succ_cons, List.drop_succ_cons, List.drop_zero, List.take_nil, List.drop_nil, List.map_cons, List.map_nil, decide_eq_true_eq, Bool.false_eq_true, true_iff, iff_true, false_iff, iff_false]
    | (refine T.nil ?_; (first | refine hK _ _ _ (by rfl) ?_ | refine hK _ _ _ ?_); simp only [keep, List.map, lk, reduceIte, Nat.reduceEqDiff, enter]; clear hK; clear K)
    | (show WOpsT _ (⟨_, .call _ _, none⟩ :: _) _ _ _ _; first | (show WOpsT _ (⟨_, .call 105 _, none⟩ :: _) _ _ _ _; refine T.call0 e105 rfl (iT) ?_) | (show WOpsT _ (⟨_, .call 105 _, none⟩ :: _) _ _ _ _; refine T.call0 e105 rfl (iF) ?_) | (show WOpsT _ (⟨_, .call 57 _, none⟩ :: _) _ _ _ _; refine T.call0 e57 rfl (kF) ?_) | (show WOpsT _ (⟨_, .call 57 _, none⟩ :: _) _ _ _ _; refine T.call0 e57 rfl (Fit_ok _) ?_) | (show WOpsT _ (⟨_, .call 35 _, none⟩ :: _) _ _ _ _; refine T.call0 e35 rfl (low8 _) ?_))
    | (show WOpsT _ (⟨_, .ld _ _, none⟩ :: _) _ _ _ _; first | refine T.ld rfl rfl rfl rfl rfl ?_ | refine T.ldd rfl rfl ?_ | refine T.ldn rfl rfl rfl rfl (Nat.le_of_ble_eq_true rfl) ?_ | refine T.lddn rfl (Nat.le_of_ble_eq_true rfl) ?_)
    | (show WOpsT _ (⟨_, .idx _ _ _ _, none⟩ :: _) _ _ _ _; first | refine T.idx rfl rfl rfl ⟨rfl, rfl⟩ (by omega) ?_ | refine T.idxs rfl rfl rfl (by omega) rfl ?_ | refine T.idxa rfl rfl rfl rfl (by omega) ?_ | refine T.idxd rfl rfl (by omega) ?_)
    | (show WOpsT _ (⟨_, .bin _ _ _, none⟩ :: _) _ _ _ _; first | refine T.add rfl rfl (by omega) (by omega) ?_ | refine T.sub rfl rfl (by omega) (by omega) ?_ | refine T.mul rfl rfl (by omega) (by omega) ?_ | refine T.rem rfl rfl (by omega) ?_ | refine T.quo rfl rfl (by omega) ?_ | refine T.shl rfl rfl (by omega) ?_ | refine T.shr rfl rfl (by omega) ?_ | refine T.bin rfl rfl rfl ?_)
    | (show WOpsT _ (⟨_, _, some (_, true)⟩ :: _) _ _ _ _; first | refine T.goT rfl (by omega) ?_ | refine T.paT rfl (by omega) ?_ | refine T.go rfl rfl ?_ | refine T.pass rfl rfl ?_ | refine T.pU rfl ?_ | refine T.gT rfl (fun hgd => ?_) (fun hgd => ?_))
    | (show WOpsT _ (⟨_, _, some (_, false)⟩ :: _) _ _ _ _; first | refine T.goF rfl (by omega) ?_ | refine T.paF rfl (by omega) ?_ | refine T.go rfl rfl ?_ | refine T.pass rfl rfl ?_ | refine T.pU rfl ?_ | refine T.gF rfl (fun hgd => ?_) (fun hgd => ?_))
    | (show WOpsT _ (⟨_, .pick _ _ _, none⟩ :: _) _ _ _ _; first | refine T.pkT rfl (by omega) ?_ | refine T.pkF rfl (by omega) ?_ | refine T.pickT rfl rfl ?_ | refine T.pickF rfl rfl ?_ | refine T.pickB rfl rfl rfl ?_ | refine T.pkD rfl (fun hgd => ?_) (fun hgd => ?_))
    | (show AKW _ _ _ _ _ _ _; first | refine N.now ?_)
    | (show UK _ _ _ _ _ _ _ _; first | refine N.round ?_)
    | (show UC _ _ _ _ _ _ _ _; first | refine N.ucN ?_)
    | (show AK _ _ (.cond _ _ _) _ _ _ _; first | refine N.cT rfl (by omega) ?_ | refine N.cF rfl (by omega) ?_ | refine N.condT rfl rfl ?_ | refine N.condF rfl rfl ?_ | refine N.condD rfl (fun hcd => ?_) (fun hcd => ?_) | refine N.condB rfl (fun hcd => ?_) (fun hcd => ?_) | refine N.condU rfl ?_ ?_)
    | (show AK _ _ _ _ _ _ _; first | refine N.seq ?_ | refine N.block ?_ | refine N.skip ?_ | refine N.exit ?_ | refine N.ret ?_)
    | (show RK _ _ _ _ _ _ _; first | refine N.seqN ?_ | refine N.blkN ?_ | refine N.blkE rfl ?_ | refine N.blkX (by decide) ?_ | refine N.seqX ?_ | refine N.lpX ?_ | refine N.cuN ?_ | refine N.cuE rfl ?_ | refine N.cuX (by decide) ?_ | refine N.cuR ?_ | refine N.seqR ?_ | refine N.blkR ?_ | refine N.lpR ?_ | refine N.lpN ?_ | refine N.nil ?_)
    | (show WOpsT _ _ _ _ _ _; first | refine T.min2 rfl rfl rfl ?_ | refine T.max2 rfl rfl rfl ?_ | refine T.ext rfl rfl ?_ | refine T.lenc ?_ | refine T.eqnP rfl rfl ⟨rfl, by decide⟩ ?_ | refine T.eqnN rfl ?_ | refine T.eqnU rfl ?_ | refine T.lens rfl ?_ | refine T.i2s rfl ?_ | refine T.s2b rfl ?_ | refine T.slcs rfl rfl rfl (by omega) ?_ | refine T.capN rfl ?_ | refine T.slcN rfl rfl rfl ?_ | refine T.neg rfl ?_ | refine T.xorn rfl ?_ | refine T.notD rfl ?_ | refine T.not rfl ?_ | refine T.eqb0 rfl rfl ?_ | refine T.eqb1 rfl rfl ?_ | refine T.cvt rfl ?_ | refine T.fad rfl rfl rfl ?_ | refine T.fadd rfl ?_ | refine T.nilc rfl rfl rfl ?_ | refine T.nilcd rfl ?_ | refine T.nilcf rfl ?_ | refine T.nilci rfl ?_ | refine T.st rfl rfl rfl ⟨rfl, rfl⟩ rfl (Nat.le_of_ble_eq_true rfl) ?_ | refine T.fld rfl rfl ?_ | refine T.new rfl ⟨rfl, by decide⟩ ?_ | refine T.zero (by decide) ?_ | refine T.build rfl ?_ | refine T.len rfl rfl rfl ?_ | refine T.lenS rfl ?_ | refine T.lenN rfl ?_ | refine T.mkf ?_ | refine T.mki ?_ | refine T.mksl rfl rfl (by decide) ?_ | refine T.copy rfl rfl rfl ⟨rfl, rfl⟩ ?_ | refine T.ixa rfl rfl (by omega) rfl ?_ | refine T.bsl rfl (by decide) ?_ | refine T.slc rfl rfl rfl rfl ⟨rfl, rfl⟩ (by omega) ?_ | refine T.slcS rfl rfl rfl rfl (by omega) ?_)
    | refine hQ _ _ _ rfl ?_
    | refine hQN _ _ _ rfl ?_)
  exact WS.drop (n := 0) rfl rfl
theorem do23_ok (t f n : Int) (r : Nat → Int) : FnE Try.prog 54 [.agg [I 23, I t, I f, I n], .agg (ri r)] [] (.tup [.agg (ri (doR 23 t f n r).1), .c (.bool (doR 23 t f n r).2)]) [] := by
  have iT := index_ok t
  have iF := index_ok f
  have kF := Fit_ok r
  have hRf := fitR_fits r
  have hs : doR 23 t f n r = (fitR (midR 23 (ixR t) (ixR f) n (fitR r)), false) := rfl
  rw [hs]
  obtain ⟨q, hq⟩ : ∃ q, fitR r = q := ⟨_, rfl⟩
  rw [hq] at kF hRf ⊢
  have hT := ixR_lt t
  have hF := ixR_lt f
  obtain ⟨a, ha⟩ : ∃ a, ixR t = a := ⟨_, rfl⟩
  obtain ⟨b, hb⟩ : ∃ b, ixR f = b := ⟨_, rfl⟩
  rw [ha] at iT hT ⊢
  rw [hb] at iF hF ⊢
  have rT := hRf a hT
  have rF := hRf b hF
  have eT : (a : Int).toNat * 1 = a := by omega
  have eF : (b : Int).toNat * 1 = b := by omega
  have hrt : 0 ≤ q a ∧ q a < 65536 := by split at rT <;> omega
  have hrf : 0 ≤ q b ∧ q b < 65536 := by split at rF <;> omega
  have hsg : -128 ≤ sgn8 (q b) ∧ sgn8 (q b) < 128 := by unfold sgn8; split <;> omega
  refine N.fn Try.func54 k54 (Nat.le_of_ble_eq_true rfl) q54 fun Q hQ hQN => ?_
  rw [c54]
  repeat' (first
    | rw [ri_ren]
    | rw [ri_spl0]
    | rw [ri_splz]
    | (show WOpsT _ (⟨_, .ld _ _, none⟩ :: _) _ _ _ _; refine T.ld rfl rfl rfl rfl (ri_get _ _ (by omega)) ?_)
    | rw [eT]
    | rw [eF]
    | (show WOpsT _ (⟨_, .st _ _ _, none⟩ :: _) _ _ _ _; refine T.st rfl rfl rfl ⟨rfl, rfl⟩ rfl (show _ ≤ 9 by omega) ?_)
    | rw [ri_spl _ _ _ hT]
    | refine N.regS fun K hK => ?_
    | refine N.dregS fun K hK => ?_
    | refine N.regN fun K hK => ?_
    | refine N.dregN fun K hK => ?_
    | simp only [T.mv, AO.ev, put, lk, enter, reduceIte, Nat.reduceEqDiff, Nat.reduceAdd, Nat.reduceMul, Nat.reduceSub, ren_c, ren_tup, ren_agg, ren_sl, List.map, Int.reduceNeg, Int.toNat_zero, Nat.zero_add, Nat.add_zero, List.length_cons, List.length_nil, List.nil_append, List.cons_append, List.set_cons_zero, List.set_cons_succ, Int.reduceToNat, List.take_zero, upto, ren_psl, ren_ptr, List.getElem?_cons_zero, List.getElem?_cons_succ, renB, cells_ren, bcells_ren, setAll, List.append_nil, List.take_succ_cons, List.drop_succ_cons, List.drop_zero, List.take_nil, List.drop_nil, List.map_cons, List.map_nil, decide_eq_true_eq, Bool.false_eq_true, true_iff, iff_true, false_iff, iff_false]
    | (refine T.nil ?_; (first | refine hK _ _ _ (by rfl) ?_ | refine hK _ _ _ ?_); simp only [keep, List.map, lk, reduceIte, Nat.reduceEqDiff, enter]; clear hK; clear K)
    | (show WOpsT _ (⟨_, .call _ _, none⟩ :: _) _ _ _ _; first | (show WOpsT _ (⟨_, .call 105 _, none⟩ :: _) _ _ _ _; refine T.call0 e105 rfl (iT) ?_) | (show WOpsT _ (⟨_, .call 105 _, none⟩ :: _) _ _ _ _; refine T.call0 e105 rfl (iF) ?_) | (show WOpsT _ (⟨_, .call 57 _, none⟩ :: _) _ _ _ _; refine T.call0 e57 rfl (kF) ?_) | (show WOpsT _ (⟨_, .call 57 _, none⟩ :: _) _ _ _ _; refine T.call0 e57 rfl (Fit_ok _) ?_) | (show WOpsT _ (⟨_, .call 111 _, none⟩ :: _) _ _ _ _; refine T.call0 e111 rfl (signed8 _) ?_))
    | (show WOpsT _ (⟨_, .ld _ _, none⟩ :: _) _ _ _ _; first | refine T.ld rfl rfl rfl rfl rfl ?_ | refine T.ldd rfl rfl ?_ | refine T.ldn rfl rfl rfl rfl (Nat.le_of_ble_eq_true rfl) ?_ | refine T.lddn rfl (Nat.le_of_ble_eq_true rfl) ?_)
    | (show WOpsT _ (⟨_, .idx _ _ _ _, none⟩ :: _) _ _ _ _; first | refine T.idx rfl rfl rfl ⟨rfl, rfl⟩ (by omega) ?_ | refine T.idxs rfl rfl rfl (by omega) rfl ?_ | refine T.idxa rfl rfl rfl rfl (by omega) ?_ | refine T.idxd rfl rfl (by omega) ?_)
    | (show WOpsT _ (⟨_, .bin _ _ _, none⟩ :: _) _ _ _ _; first | refine T.add rfl rfl (by omega) (by omega) ?_ | refine T.sub rfl rfl (by omega) (by omega) ?_ | refine T.mul rfl rfl (by omega) (by omega) ?_ | refine T.rem rfl rfl (by omega) ?_ | refine T.quo rfl rfl (by omega) ?_ | refine T.shl rfl rfl (by omega) ?_ | refine T.shr rfl rfl (by omega) ?_ | refine T.bin rfl rfl rfl ?_)
    | (show WOpsT _ (⟨_, _, some (_, true)⟩ :: _) _ _ _ _; first | refine T.goT rfl (by omega) ?_ | refine T.paT rfl (by omega) ?_ | refine T.go rfl rfl ?_ | refine T.pass rfl rfl ?_ | refine T.pU rfl ?_ | refine T.gT rfl (fun hgd => ?_) (fun hgd => ?_))
    | (show WOpsT _ (⟨_, _, some (_, false)⟩ :: _) _ _ _ _; first | refine T.goF rfl (by omega) ?_ | refine T.paF rfl (by omega) ?_ | refine T.go rfl rfl ?_ | refine T.pass rfl rfl ?_ | refine T.pU rfl ?_ | refine T.gF rfl (fun hgd => ?_) (fun hgd => ?_))
    | (show WOpsT _ (⟨_, .pick _ _ _, none⟩ :: _) _ _ _ _; first | refine T.pkT rfl (by omega) ?_ | refine T.pkF rfl (by omega) ?_ | refine T.pickT rfl rfl ?_ | refine T.pickF rfl rfl ?_ | refine T.pickB rfl rfl rfl ?_ | refine T.pkD rfl (fun hgd => ?_) (fun hgd => ?_))
    | (show AKW _ _ _ _ _ _ _; first | refine N.now ?_)
    | (show UK _ _ _ _ _ _ _ _; first | refine N.round ?_)
    | (show UC _ _ _ _ _ _ _ _; first | refine N.ucN ?_)
    | (show AK _ _ (.cond _ _ _) _ _ _ _; first | refine N.cT rfl (by omega) ?_ | refine N.cF rfl (by omega) ?_ | refine N.condT rfl rfl ?_ | refine N.condF rfl rfl ?_ | refine N.condD rfl (fun hcd => ?_) (fun hcd => ?_) | refine N.condB rfl (fun hcd => ?_) (fun hcd => ?_) | refine N.condU rfl ?_ ?_)
    | (show AK _ _ _ _ _ _ _; first | refine N.seq ?_ | refine N.block ?_ | refine N.skip ?_ | refine N.exit ?_ | refine N.ret ?_)
    | (show RK _ _ _ _ _ _ _; first | refine N.seqN ?_ | refine N.blkN ?_ | refine N.blkE rfl ?_ | refine N.blkX (by decide) ?_ | refine N.seqX ?_ | refine N.lpX ?_ | refine N.cuN ?_ | refine N.cuE rfl ?_ | refine N.cuX (by decide) ?_ | refine N.cuR ?_ | refine N.seqR ?_ | refine N.blkR ?_ | refine N.lpR ?_ | refine N.lpN ?_ | refine N.nil ?_)
    | (show WOpsT _ _ _ _ _ _; first | refine T.min2 rfl rfl rfl ?_ | refine T.max2 rfl rfl rfl ?_ | refine T.ext rfl rfl ?_ | refine T.lenc ?_ | refine T.eqnP rfl rfl ⟨rfl, by decide⟩ ?_ | refine T.eqnN rfl ?_ | refine T.eqnU rfl ?_ | refine T.lens rfl ?_ | refine T.i2s rfl ?_ | refine T.s2b rfl ?_ | refine T.slcs rfl rfl rfl (by omega) ?_ | refine T.capN rfl ?_ | refine T.slcN rfl rfl rfl ?_ | refine T.neg rfl ?_ | refine T.xorn rfl ?_ | refine T.notD rfl ?_ | refine T.not rfl ?_ | refine T.eqb0 rfl rfl ?_ | refine T.eqb1 rfl rfl ?_ | refine T.cvt rfl ?_ | refine T.fad rfl rfl rfl ?_ | refine T.fadd rfl ?_ | refine T.nilc rfl rfl rfl ?_ | refine T.nilcd rfl ?_ | refine T.nilcf rfl ?_ | refine T.nilci rfl ?_ | refine T.st rfl rfl rfl ⟨rfl, rfl⟩ rfl (Nat.le_of_ble_eq_true rfl) ?_ | refine T.fld rfl rfl ?_ | refine T.new rfl ⟨rfl, by decide⟩ ?_ | refine T.zero (by decide) ?_ | refine T.build rfl ?_ | refine T.len rfl rfl rfl ?_ | refine T.lenS rfl ?_ | refine T.lenN rfl ?_ | refine T.mkf ?_ | refine T.mki ?_ | refine T.mksl rfl rfl (by decide) ?_ | refine T.copy rfl rfl rfl ⟨rfl, rfl⟩ ?_ | refine T.ixa rfl rfl (by omega) rfl ?_ | refine T.bsl rfl (by decide) ?_ | refine T.slc rfl rfl rfl rfl ⟨rfl, rfl⟩ (by omega) ?_ | refine T.slcS rfl rfl rfl rfl (by omega) ?_)
    | refine hQ _ _ _ rfl ?_
    | refine hQN _ _ _ rfl ?_)
  exact WS.drop (n := 0) rfl rfl
end Go.Proofs.Ytjmmompbmjhkpaa.Calc
