/- The contracts of sound's voice, Write, Read, Out, and of SoundTurns and SoundFades: these return true. Condition: the voices' numbers fit. -/
import Derived.Test.YtjmmompbmjhkpaaFnSoundB
import Derived.Test.YtjmmompbmjhkpaaCdKSound
namespace Go.Proofs.Ytjmmompbmjhkpaa.Calc
open Go Code
set_option linter.unusedSimpArgs false
set_option linter.unusedVariables false
set_option maxRecDepth 20000
set_option maxHeartbeats 8000000
attribute [local irreducible] WOpsT AW AK RK AKW UK UC
theorem voice_ok (x y : Vo) (a : Int) (ha : 0 ≤ a ∧ a < 4) : FnE Try.prog 94 [.psl 0 1 0 12, I a] [vo2B x y] (.psl 0 1 0 6) [vo2B x y] := by
  refine N.fn Try.func94 k94 (Nat.le_of_ble_eq_true rfl) q94 fun Q hQ hQN => ?_
  rw [c94]
  have e : IntKind.wrap .i64 (a.tdiv 4) = 0 := by
    rw [Int.tdiv_eq_ediv_of_nonneg ha.1, show a / 4 = 0 by omega]; rfl
  repeat' (first
    | rw [e]
    | refine N.regS fun K hK => ?_
    | refine N.dregS fun K hK => ?_
    | refine N.regN fun K hK => ?_
    | refine N.dregN fun K hK => ?_
    | simp only [T.mv, AO.ev, put, lk, enter, reduceIte, Nat.reduceEqDiff, Nat.reduceAdd, Nat.reduceMul, Nat.reduceSub, ren_c, ren_tup, ren_agg, ren_sl, List.map, Int.reduceNeg, Int.toNat_zero, Nat.zero_add, Nat.add_zero, List.length_cons, List.length_nil, List.nil_append, List.cons_append, List.set_cons_zero, List.set_cons_succ, Int.reduceToNat, List.take_zero, upto, ren_psl, ren_ptr, List.getElem?_cons_zero, List.getElem?_cons_succ, renB, cells_ren, bcells_ren, setAll, List.take_succ_cons, List.drop_succ_cons, List.drop_zero, List.take_nil, List.drop_nil, List.map_cons, List.map_nil, decide_eq_true_eq, Bool.false_eq_true, true_iff, iff_true, false_iff, iff_false]
    | (refine T.nil ?_; (first | refine hK _ _ _ (by rfl) ?_ | refine hK _ _ _ ?_); simp only [keep, List.map, lk, reduceIte, Nat.reduceEqDiff, enter]; clear hK; clear K)
    | (show WOpsT _ (⟨_, .ld _ _, none⟩ :: _) _ _ _ _; first | refine T.ld rfl rfl rfl rfl rfl ?_ | refine T.ldd rfl rfl ?_ | refine T.ldn rfl rfl rfl rfl (Nat.le_of_ble_eq_true rfl) ?_ | refine T.lddn rfl (Nat.le_of_ble_eq_true rfl) ?_)
    | (show WOpsT _ (⟨_, .idx _ _ _ _, none⟩ :: _) _ _ _ _; first | refine T.idx rfl rfl rfl ⟨rfl, rfl⟩ (by omega) ?_ | refine T.idxs rfl rfl rfl (by omega) rfl ?_ | refine T.idxa rfl rfl rfl rfl (by omega) ?_ | refine T.idxd rfl rfl (by omega) ?_)
    | (show WOpsT _ (⟨_, .bin _ _ _, none⟩ :: _) _ _ _ _; first | refine T.add rfl rfl (by omega) (by omega) ?_ | refine T.sub rfl rfl (by omega) (by omega) ?_ | refine T.mul rfl rfl (by omega) (by omega) ?_ | refine T.rem rfl rfl (by omega) ?_ | refine T.quo rfl rfl (by omega) ?_ | refine T.shl rfl rfl (by omega) ?_ | refine T.shr rfl rfl (by omega) ?_ | refine T.bin rfl rfl rfl ?_)
    | (show WOpsT _ (⟨_, _, some (_, true)⟩ :: _) _ _ _ _; first | refine T.goT rfl (by omega) ?_ | refine T.paT rfl (by omega) ?_ | refine T.go rfl rfl ?_ | refine T.pass rfl rfl ?_ | refine T.pU rfl ?_ | refine T.gT rfl (fun hgd => ?_) (fun hgd => ?_))
    | (show WOpsT _ (⟨_, _, some (_, false)⟩ :: _) _ _ _ _; first | refine T.goF rfl (by omega) ?_ | refine T.paF rfl (by omega) ?_ | refine T.go rfl rfl ?_ | refine T.pass rfl rfl ?_ | refine T.pU rfl ?_ | refine T.gF rfl (fun hgd => ?_) (fun hgd => ?_))
    | (show WOpsT _ (⟨_, .pick _ _ _, none⟩ :: _) _ _ _ _; first | refine T.pkT rfl (by omega) ?_ | refine T.pkF rfl (by omega) ?_ | refine T.pickT rfl rfl ?_ | refine T.pickF rfl rfl ?_ | refine T.pickB rfl rfl rfl ?_ | refine T.pkD rfl (fun hgd => ?_) (fun hgd => ?_))
    | (show AKW _ _ _ _ _ _ _; first | refine N.now ?_)
    | (show UK _ _ _ _ _ _ _ _; first | refine N.round ?_)
    | (show UC _ _ _ _ _ _ _ _; first | refine N.ucN ?_)
    | (show AK _ _ (.cond _ _ _) _ _ _ _; first | refine N.cT rfl (by omega) ?_ | refine N.cF rfl (by omega) ?_ | refine N.condT rfl rfl ?_ | refine N.condF rfl rfl ?_ | refine N.condD rfl (fun hcd => ?_) (fun hcd => ?_) | refine N.condB rfl (fun hcd => ?_) (fun hcd => ?_))
    | (show AK _ _ _ _ _ _ _; first | refine N.seq ?_ | refine N.block ?_ | refine N.skip ?_ | refine N.exit ?_ | refine N.ret ?_)
    | (show RK _ _ _ _ _ _ _; first | refine N.seqN ?_ | refine N.blkN ?_ | refine N.blkE rfl ?_ | refine N.blkX (by decide) ?_ | refine N.seqX ?_ | refine N.lpX ?_ | refine N.cuN ?_ | refine N.cuE rfl ?_ | refine N.cuX (by decide) ?_ | refine N.cuR ?_ | refine N.seqR ?_ | refine N.blkR ?_ | refine N.lpR ?_ | refine N.lpN ?_ | refine N.nil ?_)
    | (show WOpsT _ _ _ _ _ _; first | refine T.min2 rfl rfl rfl ?_ | refine T.max2 rfl rfl rfl ?_ | refine T.ext rfl rfl ?_ | refine T.lenc ?_ | refine T.eqnP rfl rfl ⟨rfl, by decide⟩ ?_ | refine T.eqnN rfl ?_ | refine T.neg rfl ?_ | refine T.xorn rfl ?_ | refine T.notD rfl ?_ | refine T.not rfl ?_ | refine T.eqb0 rfl rfl ?_ | refine T.eqb1 rfl rfl ?_ | refine T.cvt rfl ?_ | refine T.fad rfl rfl rfl ?_ | refine T.fadd rfl ?_ | refine T.nilc rfl rfl rfl ?_ | refine T.nilcd rfl ?_ | refine T.st rfl rfl rfl ⟨rfl, rfl⟩ rfl (Nat.le_of_ble_eq_true rfl) ?_ | refine T.fld rfl rfl ?_ | refine T.new rfl ⟨rfl, by decide⟩ ?_ | refine T.zero (by decide) ?_ | refine T.build rfl ?_ | refine T.len rfl rfl rfl ?_ | refine T.lenS rfl ?_ | refine T.lenN rfl ?_ | refine T.mkf ?_ | refine T.mki ?_ | refine T.mksl rfl rfl (by decide) ?_ | refine T.copy rfl rfl rfl ⟨rfl, rfl⟩ ?_ | refine T.ixa rfl rfl (by omega) rfl ?_ | refine T.bsl rfl (by decide) ?_ | refine T.slc rfl rfl rfl rfl ⟨rfl, rfl⟩ (by omega) ?_ | refine T.slcS rfl rfl rfl rfl (by omega) ?_)
    | refine hQ _ _ _ rfl ?_
    | refine hQN _ _ _ rfl ?_)
  exact WS.gc [0] 1 rfl rfl .rfl
theorem snd0 (x : Vo) (v : Int) (y : Vo) (m : List Int) (hx : x.Ok) (hy : y.Ok) : FnE Try.prog 39 [dev (vo2 x y) m, I 0, I v] [] (dev (vo2 { x with p := putv x.p 0 8 v } y) []) [] := by
  refine N.fn Try.func39 k39 (Nat.le_of_ble_eq_true rfl) q39 fun Q hQ hQN => ?_
  rw [c39]
  repeat' (first
    | refine N.regS fun K hK => ?_
    | refine N.dregS fun K hK => ?_
    | refine N.regN fun K hK => ?_
    | refine N.dregN fun K hK => ?_
    | simp only [T.mv, AO.ev, put, lk, enter, reduceIte, Nat.reduceEqDiff, Nat.reduceAdd, Nat.reduceMul, Nat.reduceSub, ren_c, ren_tup, ren_agg, ren_sl, List.map, Int.reduceNeg, Int.toNat_zero, Nat.zero_add, Nat.add_zero, List.length_cons, List.length_nil, List.nil_append, List.cons_append, List.set_cons_zero, List.set_cons_succ, Int.reduceToNat, List.take_zero, upto, ren_psl, ren_ptr, List.getElem?_cons_zero, List.getElem?_cons_succ, renB, cells_ren, bcells_ren, setAll, List.take_succ_cons, List.drop_succ_cons, List.drop_zero, List.take_nil, List.drop_nil, List.map_cons, List.map_nil, decide_eq_true_eq, Bool.false_eq_true, true_iff, iff_true, false_iff, iff_false]
    | (refine T.nil ?_; (first | refine hK _ _ _ (by rfl) ?_ | refine hK _ _ _ ?_); simp only [keep, List.map, lk, reduceIte, Nat.reduceEqDiff, enter]; clear hK; clear K)
    | (show WOpsT _ (⟨_, .call _ _, none⟩ :: _) _ _ _ _; first | refine T.callN e93 rfl (sndfit x y m hx hy) (by simp) ?_ | refine T.callP [2] e94 rfl (voice_ok x y 0 (by decide)) (by first | rfl | simp [pasH, pasB, cells_pas, bcells_pas]) rfl rfl rfl ?_ | refine T.call0 e95 rfl (put_ok _ _ 0 8 (by decide)) ?_)
    | (show WOpsT _ (⟨_, .ld _ _, none⟩ :: _) _ _ _ _; first | refine T.ld rfl rfl rfl rfl rfl ?_ | refine T.ldd rfl rfl ?_ | refine T.ldn rfl rfl rfl rfl (Nat.le_of_ble_eq_true rfl) ?_ | refine T.lddn rfl (Nat.le_of_ble_eq_true rfl) ?_)
    | (show WOpsT _ (⟨_, .idx _ _ _ _, none⟩ :: _) _ _ _ _; first | refine T.idx rfl rfl rfl ⟨rfl, rfl⟩ (by omega) ?_ | refine T.idxs rfl rfl rfl (by omega) rfl ?_ | refine T.idxa rfl rfl rfl rfl (by omega) ?_ | refine T.idxd rfl rfl (by omega) ?_)
    | (show WOpsT _ (⟨_, .bin _ _ _, none⟩ :: _) _ _ _ _; first | refine T.add rfl rfl (by omega) (by omega) ?_ | refine T.sub rfl rfl (by omega) (by omega) ?_ | refine T.mul rfl rfl (by omega) (by omega) ?_ | refine T.rem rfl rfl (by omega) ?_ | refine T.quo rfl rfl (by omega) ?_ | refine T.shl rfl rfl (by omega) ?_ | refine T.shr rfl rfl (by omega) ?_ | refine T.bin rfl rfl rfl ?_)
    | (show WOpsT _ (⟨_, _, some (_, true)⟩ :: _) _ _ _ _; first | refine T.goT rfl (by omega) ?_ | refine T.paT rfl (by omega) ?_ | refine T.go rfl rfl ?_ | refine T.pass rfl rfl ?_ | refine T.pU rfl ?_ | refine T.gT rfl (fun hgd => ?_) (fun hgd => ?_))
    | (show WOpsT _ (⟨_, _, some (_, false)⟩ :: _) _ _ _ _; first | refine T.goF rfl (by omega) ?_ | refine T.paF rfl (by omega) ?_ | refine T.go rfl rfl ?_ | refine T.pass rfl rfl ?_ | refine T.pU rfl ?_ | refine T.gF rfl (fun hgd => ?_) (fun hgd => ?_))
    | (show WOpsT _ (⟨_, .pick _ _ _, none⟩ :: _) _ _ _ _; first | refine T.pkT rfl (by omega) ?_ | refine T.pkF rfl (by omega) ?_ | refine T.pickT rfl rfl ?_ | refine T.pickF rfl rfl ?_ | refine T.pickB rfl rfl rfl ?_ | refine T.pkD rfl (fun hgd => ?_) (fun hgd => ?_))
    | (show AKW _ _ _ _ _ _ _; first | refine N.now ?_)
    | (show UK _ _ _ _ _ _ _ _; first | refine N.round ?_)
    | (show UC _ _ _ _ _ _ _ _; first | refine N.ucN ?_)
    | (show AK _ _ (.cond _ _ _) _ _ _ _; first | refine N.cT rfl (by omega) ?_ | refine N.cF rfl (by omega) ?_ | refine N.condT rfl rfl ?_ | refine N.condF rfl rfl ?_ | refine N.condD rfl (fun hcd => ?_) (fun hcd => ?_) | refine N.condB rfl (fun hcd => ?_) (fun hcd => ?_))
    | (show AK _ _ _ _ _ _ _; first | refine N.seq ?_ | refine N.block ?_ | refine N.skip ?_ | refine N.exit ?_ | refine N.ret ?_)
    | (show RK _ _ _ _ _ _ _; first | refine N.seqN ?_ | refine N.blkN ?_ | refine N.blkE rfl ?_ | refine N.blkX (by decide) ?_ | refine N.seqX ?_ | refine N.lpX ?_ | refine N.cuN ?_ | refine N.cuE rfl ?_ | refine N.cuX (by decide) ?_ | refine N.cuR ?_ | refine N.seqR ?_ | refine N.blkR ?_ | refine N.lpR ?_ | refine N.lpN ?_ | refine N.nil ?_)
    | (show WOpsT _ _ _ _ _ _; first | refine T.min2 rfl rfl rfl ?_ | refine T.max2 rfl rfl rfl ?_ | refine T.ext rfl rfl ?_ | refine T.lenc ?_ | refine T.eqnP rfl rfl ⟨rfl, by decide⟩ ?_ | refine T.eqnN rfl ?_ | refine T.neg rfl ?_ | refine T.xorn rfl ?_ | refine T.notD rfl ?_ | refine T.not rfl ?_ | refine T.eqb0 rfl rfl ?_ | refine T.eqb1 rfl rfl ?_ | refine T.cvt rfl ?_ | refine T.fad rfl rfl rfl ?_ | refine T.fadd rfl ?_ | refine T.nilc rfl rfl rfl ?_ | refine T.nilcd rfl ?_ | refine T.st rfl rfl rfl ⟨rfl, rfl⟩ rfl (Nat.le_of_ble_eq_true rfl) ?_ | refine T.fld rfl rfl ?_ | refine T.new rfl ⟨rfl, by decide⟩ ?_ | refine T.zero (by decide) ?_ | refine T.build rfl ?_ | refine T.len rfl rfl rfl ?_ | refine T.lenS rfl ?_ | refine T.lenN rfl ?_ | refine T.mkf ?_ | refine T.mki ?_ | refine T.mksl rfl rfl (by decide) ?_ | refine T.copy rfl rfl rfl ⟨rfl, rfl⟩ ?_ | refine T.ixa rfl rfl (by omega) rfl ?_ | refine T.bsl rfl (by decide) ?_ | refine T.slc rfl rfl rfl rfl ⟨rfl, rfl⟩ (by omega) ?_ | refine T.slcS rfl rfl rfl rfl (by omega) ?_)
    | refine hQ _ _ _ rfl ?_
    | refine hQN _ _ _ rfl ?_)
  exact WS.devN (m := 1) rfl rfl
theorem snd1 (x : Vo) (v : Int) (y : Vo) (m : List Int) (hx : x.Ok) (hy : y.Ok) : FnE Try.prog 39 [dev (vo2 x y) m, I 1, I v] [] (dev (vo2 { x with p := putv x.p 8 4 v } y) []) [] := by
  refine N.fn Try.func39 k39 (Nat.le_of_ble_eq_true rfl) q39 fun Q hQ hQN => ?_
  rw [c39]
  repeat' (first
    | refine N.regS fun K hK => ?_
    | refine N.dregS fun K hK => ?_
    | refine N.regN fun K hK => ?_
    | refine N.dregN fun K hK => ?_
    | simp only [T.mv, AO.ev, put, lk, enter, reduceIte, Nat.reduceEqDiff, Nat.reduceAdd, Nat.reduceMul, Nat.reduceSub, ren_c, ren_tup, ren_agg, ren_sl, List.map, Int.reduceNeg, Int.toNat_zero, Nat.zero_add, Nat.add_zero, List.length_cons, List.length_nil, List.nil_append, List.cons_append, List.set_cons_zero, List.set_cons_succ, Int.reduceToNat, List.take_zero, upto, ren_psl, ren_ptr, List.getElem?_cons_zero, List.getElem?_cons_succ, renB, cells_ren, bcells_ren, setAll, List.take_succ_cons, List.drop_succ_cons, List.drop_zero, List.take_nil, List.drop_nil, List.map_cons, List.map_nil, decide_eq_true_eq, Bool.false_eq_true, true_iff, iff_true, false_iff, iff_false]
    | (refine T.nil ?_; (first | refine hK _ _ _ (by rfl) ?_ | refine hK _ _ _ ?_); simp only [keep, List.map, lk, reduceIte, Nat.reduceEqDiff, enter]; clear hK; clear K)
    | (show WOpsT _ (⟨_, .call _ _, none⟩ :: _) _ _ _ _; first | refine T.callN e93 rfl (sndfit x y m hx hy) (by simp) ?_ | refine T.callP [2] e94 rfl (voice_ok x y 1 (by decide)) (by first | rfl | simp [pasH, pasB, cells_pas, bcells_pas]) rfl rfl rfl ?_ | refine T.call0 e95 rfl (put_ok _ _ 8 4 (by decide)) ?_)
    | (show WOpsT _ (⟨_, .ld _ _, none⟩ :: _) _ _ _ _; first | refine T.ld rfl rfl rfl rfl rfl ?_ | refine T.ldd rfl rfl ?_ | refine T.ldn rfl rfl rfl rfl (Nat.le_of_ble_eq_true rfl) ?_ | refine T.lddn rfl (Nat.le_of_ble_eq_true rfl) ?_)
    | (show WOpsT _ (⟨_, .idx _ _ _ _, none⟩ :: _) _ _ _ _; first | refine T.idx rfl rfl rfl ⟨rfl, rfl⟩ (by omega) ?_ | refine T.idxs rfl rfl rfl (by omega) rfl ?_ | refine T.idxa rfl rfl rfl rfl (by omega) ?_ | refine T.idxd rfl rfl (by omega) ?_)
    | (show WOpsT _ (⟨_, .bin _ _ _, none⟩ :: _) _ _ _ _; first | refine T.add rfl rfl (by omega) (by omega) ?_ | refine T.sub rfl rfl (by omega) (by omega) ?_ | refine T.mul rfl rfl (by omega) (by omega) ?_ | refine T.rem rfl rfl (by omega) ?_ | refine T.quo rfl rfl (by omega) ?_ | refine T.shl rfl rfl (by omega) ?_ | refine T.shr rfl rfl (by omega) ?_ | refine T.bin rfl rfl rfl ?_)
    | (show WOpsT _ (⟨_, _, some (_, true)⟩ :: _) _ _ _ _; first | refine T.goT rfl (by omega) ?_ | refine T.paT rfl (by omega) ?_ | refine T.go rfl rfl ?_ | refine T.pass rfl rfl ?_ | refine T.pU rfl ?_ | refine T.gT rfl (fun hgd => ?_) (fun hgd => ?_))
    | (show WOpsT _ (⟨_, _, some (_, false)⟩ :: _) _ _ _ _; first | refine T.goF rfl (by omega) ?_ | refine T.paF rfl (by omega) ?_ | refine T.go rfl rfl ?_ | refine T.pass rfl rfl ?_ | refine T.pU rfl ?_ | refine T.gF rfl (fun hgd => ?_) (fun hgd => ?_))
    | (show WOpsT _ (⟨_, .pick _ _ _, none⟩ :: _) _ _ _ _; first | refine T.pkT rfl (by omega) ?_ | refine T.pkF rfl (by omega) ?_ | refine T.pickT rfl rfl ?_ | refine T.pickF rfl rfl ?_ | refine T.pickB rfl rfl rfl ?_ | refine T.pkD rfl (fun hgd => ?_) (fun hgd => ?_))
    | (show AKW _ _ _ _ _ _ _; first | refine N.now ?_)
    | (show UK _ _ _ _ _ _ _ _; first | refine N.round ?_)
    | (show UC _ _ _ _ _ _ _ _; first | refine N.ucN ?_)
    | (show AK _ _ (.cond _ _ _) _ _ _ _; first | refine N.cT rfl (by omega) ?_ | refine N.cF rfl (by omega) ?_ | refine N.condT rfl rfl ?_ | refine N.condF rfl rfl ?_ | refine N.condD rfl (fun hcd => ?_) (fun hcd => ?_) | refine N.condB rfl (fun hcd => ?_) (fun hcd => ?_))
    | (show AK _ _ _ _ _ _ _; first | refine N.seq ?_ | refine N.block ?_ | refine N.skip ?_ | refine N.exit ?_ | refine N.ret ?_)
    | (show RK _ _ _ _ _ _ _; first | refine N.seqN ?_ | refine N.blkN ?_ | refine N.blkE rfl ?_ | refine N.blkX (by decide) ?_ | refine N.seqX ?_ | refine N.lpX ?_ | refine N.cuN ?_ | refine N.cuE rfl ?_ | refine N.cuX (by decide) ?_ | refine N.cuR ?_ | refine N.seqR ?_ | refine N.blkR ?_ | refine N.lpR ?_ | refine N.lpN ?_ | refine N.nil ?_)
    | (show WOpsT _ _ _ _ _ _; first | refine T.min2 rfl rfl rfl ?_ | refine T.max2 rfl rfl rfl ?_ | refine T.ext rfl rfl ?_ | refine T.lenc ?_ | refine T.eqnP rfl rfl ⟨rfl, by decide⟩ ?_ | refine T.eqnN rfl ?_ | refine T.neg rfl ?_ | refine T.xorn rfl ?_ | refine T.notD rfl ?_ | refine T.not rfl ?_ | refine T.eqb0 rfl rfl ?_ | refine T.eqb1 rfl rfl ?_ | refine T.cvt rfl ?_ | refine T.fad rfl rfl rfl ?_ | refine T.fadd rfl ?_ | refine T.nilc rfl rfl rfl ?_ | refine T.nilcd rfl ?_ | refine T.st rfl rfl rfl ⟨rfl, rfl⟩ rfl (Nat.le_of_ble_eq_true rfl) ?_ | refine T.fld rfl rfl ?_ | refine T.new rfl ⟨rfl, by decide⟩ ?_ | refine T.zero (by decide) ?_ | refine T.build rfl ?_ | refine T.len rfl rfl rfl ?_ | refine T.lenS rfl ?_ | refine T.lenN rfl ?_ | refine T.mkf ?_ | refine T.mki ?_ | refine T.mksl rfl rfl (by decide) ?_ | refine T.copy rfl rfl rfl ⟨rfl, rfl⟩ ?_ | refine T.ixa rfl rfl (by omega) rfl ?_ | refine T.bsl rfl (by decide) ?_ | refine T.slc rfl rfl rfl rfl ⟨rfl, rfl⟩ (by omega) ?_ | refine T.slcS rfl rfl rfl rfl (by omega) ?_)
    | refine hQ _ _ _ rfl ?_
    | refine hQN _ _ _ rfl ?_)
  exact WS.devN (m := 1) rfl rfl
theorem snd2 (x : Vo) (v : Int) (y : Vo) (m : List Int) (hx : x.Ok) (hy : y.Ok) : FnE Try.prog 39 [dev (vo2 x y) m, I 2, I v] [] (dev (vo2 { x with v := v % 2 ^ 4, w := 0 } y) []) [] := by
  refine N.fn Try.func39 k39 (Nat.le_of_ble_eq_true rfl) q39 fun Q hQ hQN => ?_
  rw [c39]
  repeat' (first
    | refine N.regS fun K hK => ?_
    | refine N.dregS fun K hK => ?_
    | refine N.regN fun K hK => ?_
    | refine N.dregN fun K hK => ?_
    | simp only [T.mv, AO.ev, put, lk, enter, reduceIte, Nat.reduceEqDiff, Nat.reduceAdd, Nat.reduceMul, Nat.reduceSub, ren_c, ren_tup, ren_agg, ren_sl, List.map, Int.reduceNeg, Int.toNat_zero, Nat.zero_add, Nat.add_zero, List.length_cons, List.length_nil, List.nil_append, List.cons_append, List.set_cons_zero, List.set_cons_succ, Int.reduceToNat, List.take_zero, upto, ren_psl, ren_ptr, List.getElem?_cons_zero, List.getElem?_cons_succ, renB, cells_ren, bcells_ren, setAll, List.take_succ_cons, List.drop_succ_cons, List.drop_zero, List.take_nil, List.drop_nil, List.map_cons, List.map_nil, decide_eq_true_eq, Bool.false_eq_true, true_iff, iff_true, false_iff, iff_false]
    | (refine T.nil ?_; (first | refine hK _ _ _ (by rfl) ?_ | refine hK _ _ _ ?_); simp only [keep, List.map, lk, reduceIte, Nat.reduceEqDiff, enter]; clear hK; clear K)
    | (show WOpsT _ (⟨_, .call _ _, none⟩ :: _) _ _ _ _; first | refine T.callN e93 rfl (sndfit x y m hx hy) (by simp) ?_ | refine T.callP [2] e94 rfl (voice_ok x y 2 (by decide)) (by first | rfl | simp [pasH, pasB, cells_pas, bcells_pas]) rfl rfl rfl ?_ | refine T.call0 e35 rfl (low_lit _ 4 4 rfl (by decide)) ?_)
    | (show WOpsT _ (⟨_, .ld _ _, none⟩ :: _) _ _ _ _; first | refine T.ld rfl rfl rfl rfl rfl ?_ | refine T.ldd rfl rfl ?_ | refine T.ldn rfl rfl rfl rfl (Nat.le_of_ble_eq_true rfl) ?_ | refine T.lddn rfl (Nat.le_of_ble_eq_true rfl) ?_)
    | (show WOpsT _ (⟨_, .idx _ _ _ _, none⟩ :: _) _ _ _ _; first | refine T.idx rfl rfl rfl ⟨rfl, rfl⟩ (by omega) ?_ | refine T.idxs rfl rfl rfl (by omega) rfl ?_ | refine T.idxa rfl rfl rfl rfl (by omega) ?_ | refine T.idxd rfl rfl (by omega) ?_)
    | (show WOpsT _ (⟨_, .bin _ _ _, none⟩ :: _) _ _ _ _; first | refine T.add rfl rfl (by omega) (by omega) ?_ | refine T.sub rfl rfl (by omega) (by omega) ?_ | refine T.mul rfl rfl (by omega) (by omega) ?_ | refine T.rem rfl rfl (by omega) ?_ | refine T.quo rfl rfl (by omega) ?_ | refine T.shl rfl rfl (by omega) ?_ | refine T.shr rfl rfl (by omega) ?_ | refine T.bin rfl rfl rfl ?_)
    | (show WOpsT _ (⟨_, _, some (_, true)⟩ :: _) _ _ _ _; first | refine T.goT rfl (by omega) ?_ | refine T.paT rfl (by omega) ?_ | refine T.go rfl rfl ?_ | refine T.pass rfl rfl ?_ | refine T.pU rfl ?_ | refine T.gT rfl (fun hgd => ?_) (fun hgd => ?_))
    | (show WOpsT _ (⟨_, _, some (_, false)⟩ :: _) _ _ _ _; first | refine T.goF rfl (by omega) ?_ | refine T.paF rfl (by omega) ?_ | refine T.go rfl rfl ?_ | refine T.pass rfl rfl ?_ | refine T.pU rfl ?_ | refine T.gF rfl (fun hgd => ?_) (fun hgd => ?_))
    | (show WOpsT _ (⟨_, .pick _ _ _, none⟩ :: _) _ _ _ _; first | refine T.pkT rfl (by omega) ?_ | refine T.pkF rfl (by omega) ?_ | refine T.pickT rfl rfl ?_ | refine T.pickF rfl rfl ?_ | refine T.pickB rfl rfl rfl ?_ | refine T.pkD rfl (fun hgd => ?_) (fun hgd => ?_))
    | (show AKW _ _ _ _ _ _ _; first | refine N.now ?_)
    | (show UK _ _ _ _ _ _ _ _; first | refine N.round ?_)
    | (show UC _ _ _ _ _ _ _ _; first | refine N.ucN ?_)
    | (show AK _ _ (.cond _ _ _) _ _ _ _; first | refine N.cT rfl (by omega) ?_ | refine N.cF rfl (by omega) ?_ | refine N.condT rfl rfl ?_ | refine N.condF rfl rfl ?_ | refine N.condD rfl (fun hcd => ?_) (fun hcd => ?_) | refine N.condB rfl (fun hcd => ?_) (fun hcd => ?_))
    | (show AK _ _ _ _ _ _ _; first | refine N.seq ?_ | refine N.block ?_ | refine N.skip ?_ | refine N.exit ?_ | refine N.ret ?_)
    | (show RK _ _ _ _ _ _ _; first | refine N.seqN ?_ | refine N.blkN ?_ | refine N.blkE rfl ?_ | refine N.blkX (by decide) ?_ | refine N.seqX ?_ | refine N.lpX ?_ | refine N.cuN ?_ | refine N.cuE rfl ?_ | refine N.cuX (by decide) ?_ | refine N.cuR ?_ | refine N.seqR ?_ | refine N.blkR ?_ | refine N.lpR ?_ | refine N.lpN ?_ | refine N.nil ?_)
    | (show WOpsT _ _ _ _ _ _; first | refine T.min2 rfl rfl rfl ?_ | refine T.max2 rfl rfl rfl ?_ | refine T.ext rfl rfl ?_ | refine T.lenc ?_ | refine T.eqnP rfl rfl ⟨rfl, by decide⟩ ?_ | refine T.eqnN rfl ?_ | refine T.neg rfl ?_ | refine T.xorn rfl ?_ | refine T.notD rfl ?_ | refine T.not rfl ?_ | refine T.eqb0 rfl rfl ?_ | refine T.eqb1 rfl rfl ?_ | refine T.cvt rfl ?_ | refine T.fad rfl rfl rfl ?_ | refine T.fadd rfl ?_ | refine T.nilc rfl rfl rfl ?_ | refine T.nilcd rfl ?_ | refine T.st rfl rfl rfl ⟨rfl, rfl⟩ rfl (Nat.le_of_ble_eq_true rfl) ?_ | refine T.fld rfl rfl ?_ | refine T.new rfl ⟨rfl, by decide⟩ ?_ | refine T.zero (by decide) ?_ | refine T.build rfl ?_ | refine T.len rfl rfl rfl ?_ | refine T.lenS rfl ?_ | refine T.lenN rfl ?_ | refine T.mkf ?_ | refine T.mki ?_ | refine T.mksl rfl rfl (by decide) ?_ | refine T.copy rfl rfl rfl ⟨rfl, rfl⟩ ?_ | refine T.ixa rfl rfl (by omega) rfl ?_ | refine T.bsl rfl (by decide) ?_ | refine T.slc rfl rfl rfl rfl ⟨rfl, rfl⟩ (by omega) ?_ | refine T.slcS rfl rfl rfl rfl (by omega) ?_)
    | refine hQ _ _ _ rfl ?_
    | refine hQN _ _ _ rfl ?_)
  exact WS.devN (m := 1) rfl rfl
theorem snd3 (x : Vo) (v : Int) (y : Vo) (m : List Int) (hx : x.Ok) (hy : y.Ok) : FnE Try.prog 39 [dev (vo2 x y) m, I 3, I v] [] (dev (vo2 { x with r := v % 2 ^ 8 } y) []) [] := by
  refine N.fn Try.func39 k39 (Nat.le_of_ble_eq_true rfl) q39 fun Q hQ hQN => ?_
  rw [c39]
  repeat' (first
    | refine N.regS fun K hK => ?_
    | refine N.dregS fun K hK => ?_
    | refine N.regN fun K hK => ?_
    | refine N.dregN fun K hK => ?_
    | simp only [T.mv, AO.ev, put, lk, enter, reduceIte, Nat.reduceEqDiff, Nat.reduceAdd, Nat.reduceMul, Nat.reduceSub, ren_c, ren_tup, ren_agg, ren_sl, List.map, Int.reduceNeg, Int.toNat_zero, Nat.zero_add, Nat.add_zero, List.length_cons, List.length_nil, List.nil_append, List.cons_append, List.set_cons_zero, List.set_cons_succ, Int.reduceToNat, List.take_zero, upto, ren_psl, ren_ptr, List.getElem?_cons_zero, List.getElem?_cons_succ, renB, cells_ren, bcells_ren, setAll, List.take_succ_cons, List.drop_succ_cons, List.drop_zero, List.take_nil, List.drop_nil, List.map_cons, List.map_nil, decide_eq_true_eq, Bool.false_eq_true, true_iff, iff_true, false_iff, iff_false]
    | (refine T.nil ?_; (first | refine hK _ _ _ (by rfl) ?_ | refine hK _ _ _ ?_); simp only [keep, List.map, lk, reduceIte, Nat.reduceEqDiff, enter]; clear hK; clear K)
    | (show WOpsT _ (⟨_, .call _ _, none⟩ :: _) _ _ _ _; first | refine T.callN e93 rfl (sndfit x y m hx hy) (by simp) ?_ | refine T.callP [2] e94 rfl (voice_ok x y 3 (by decide)) (by first | rfl | simp [pasH, pasB, cells_pas, bcells_pas]) rfl rfl rfl ?_ | refine T.call0 e35 rfl (low_lit _ 8 8 rfl (by decide)) ?_)
    | (show WOpsT _ (⟨_, .ld _ _, none⟩ :: _) _ _ _ _; first | refine T.ld rfl rfl rfl rfl rfl ?_ | refine T.ldd rfl rfl ?_ | refine T.ldn rfl rfl rfl rfl (Nat.le_of_ble_eq_true rfl) ?_ | refine T.lddn rfl (Nat.le_of_ble_eq_true rfl) ?_)
    | (show WOpsT _ (⟨_, .idx _ _ _ _, none⟩ :: _) _ _ _ _; first | refine T.idx rfl rfl rfl ⟨rfl, rfl⟩ (by omega) ?_ | refine T.idxs rfl rfl rfl (by omega) rfl ?_ | refine T.idxa rfl rfl rfl rfl (by omega) ?_ | refine T.idxd rfl rfl (by omega) ?_)
    | (show WOpsT _ (⟨_, .bin _ _ _, none⟩ :: _) _ _ _ _; first | refine T.add rfl rfl (by omega) (by omega) ?_ | refine T.sub rfl rfl (by omega) (by omega) ?_ | refine T.mul rfl rfl (by omega) (by omega) ?_ | refine T.rem rfl rfl (by omega) ?_ | refine T.quo rfl rfl (by omega) ?_ | refine T.shl rfl rfl (by omega) ?_ | refine T.shr rfl rfl (by omega) ?_ | refine T.bin rfl rfl rfl ?_)
    | (show WOpsT _ (⟨_, _, some (_, true)⟩ :: _) _ _ _ _; first | refine T.goT rfl (by omega) ?_ | refine T.paT rfl (by omega) ?_ | refine T.go rfl rfl ?_ | refine T.pass rfl rfl ?_ | refine T.pU rfl ?_ | refine T.gT rfl (fun hgd => ?_) (fun hgd => ?_))
    | (show WOpsT _ (⟨_, _, some (_, false)⟩ :: _) _ _ _ _; first | refine T.goF rfl (by omega) ?_ | refine T.paF rfl (by omega) ?_ | refine T.go rfl rfl ?_ | refine T.pass rfl rfl ?_ | refine T.pU rfl ?_ | refine T.gF rfl (fun hgd => ?_) (fun hgd => ?_))
    | (show WOpsT _ (⟨_, .pick _ _ _, none⟩ :: _) _ _ _ _; first | refine T.pkT rfl (by omega) ?_ | refine T.pkF rfl (by omega) ?_ | refine T.pickT rfl rfl ?_ | refine T.pickF rfl rfl ?_ | refine T.pickB rfl rfl rfl ?_ | refine T.pkD rfl (fun hgd => ?_) (fun hgd => ?_))
    | (show AKW _ _ _ _ _ _ _; first | refine N.now ?_)
    | (show UK _ _ _ _ _ _ _ _; first | refine N.round ?_)
    | (show UC _ _ _ _ _ _ _ _; first | refine N.ucN ?_)
    | (show AK _ _ (.cond _ _ _) _ _ _ _; first | refine N.cT rfl (by omega) ?_ | refine N.cF rfl (by omega) ?_ | refine N.condT rfl rfl ?_ | refine N.condF rfl rfl ?_ | refine N.condD rfl (fun hcd => ?_) (fun hcd => ?_) | refine N.condB rfl (fun hcd => ?_) (fun hcd => ?_))
    | (show AK _ _ _ _ _ _ _; first | refine N.seq ?_ | refine N.block ?_ | refine N.skip ?_ | refine N.exit ?_ | refine N.ret ?_)
    | (show RK _ _ _ _ _ _ _; first | refine N.seqN ?_ | refine N.blkN ?_ | refine N.blkE rfl ?_ | refine N.blkX (by decide) ?_ | refine N.seqX ?_ | refine N.lpX ?_ | refine N.cuN ?_ | refine N.cuE rfl ?_ | refine N.cuX (by decide) ?_ | refine N.cuR ?_ | refine N.seqR ?_ | refine N.blkR ?_ | refine N.lpR ?_ | refine N.lpN ?_ | refine N.nil ?_)
    | (show WOpsT _ _ _ _ _ _; first | refine T.min2 rfl rfl rfl ?_ | refine T.max2 rfl rfl rfl ?_ | refine T.ext rfl rfl ?_ | refine T.lenc ?_ | refine T.eqnP rfl rfl ⟨rfl, by decide⟩ ?_ | refine T.eqnN rfl ?_ | refine T.neg rfl ?_ | refine T.xorn rfl ?_ | refine T.notD rfl ?_ | refine T.not rfl ?_ | refine T.eqb0 rfl rfl ?_ | refine T.eqb1 rfl rfl ?_ | refine T.cvt rfl ?_ | refine T.fad rfl rfl rfl ?_ | refine T.fadd rfl ?_ | refine T.nilc rfl rfl rfl ?_ | refine T.nilcd rfl ?_ | refine T.st rfl rfl rfl ⟨rfl, rfl⟩ rfl (Nat.le_of_ble_eq_true rfl) ?_ | refine T.fld rfl rfl ?_ | refine T.new rfl ⟨rfl, by decide⟩ ?_ | refine T.zero (by decide) ?_ | refine T.build rfl ?_ | refine T.len rfl rfl rfl ?_ | refine T.lenS rfl ?_ | refine T.lenN rfl ?_ | refine T.mkf ?_ | refine T.mki ?_ | refine T.mksl rfl rfl (by decide) ?_ | refine T.copy rfl rfl rfl ⟨rfl, rfl⟩ ?_ | refine T.ixa rfl rfl (by omega) rfl ?_ | refine T.bsl rfl (by decide) ?_ | refine T.slc rfl rfl rfl rfl ⟨rfl, rfl⟩ (by omega) ?_ | refine T.slcS rfl rfl rfl rfl (by omega) ?_)
    | refine hQ _ _ _ rfl ?_
    | refine hQN _ _ _ rfl ?_)
  exact WS.devN (m := 1) rfl rfl
theorem sndread2 (x y : Vo) (m : List Int) (hx : x.Ok) (hy : y.Ok) : FnE Try.prog 43 [dev (vo2 x y) m, I 2] [] (.tup [dev (vo2 x y) [], I x.v]) [] := by
  refine N.fn Try.func43 k43 (Nat.le_of_ble_eq_true rfl) q43 fun Q hQ hQN => ?_
  rw [c43]
  repeat' (first
    | rw [show Int.tmod 2 4 = 2 by decide]
    | refine N.regS fun K hK => ?_
    | refine N.dregS fun K hK => ?_
    | refine N.regN fun K hK => ?_
    | refine N.dregN fun K hK => ?_
    | simp only [T.mv, AO.ev, put, lk, enter, reduceIte, Nat.reduceEqDiff, Nat.reduceAdd, Nat.reduceMul, Nat.reduceSub, ren_c, ren_tup, ren_agg, ren_sl, List.map, Int.reduceNeg, Int.toNat_zero, Nat.zero_add, Nat.add_zero, List.length_cons, List.length_nil, List.nil_append, List.cons_append, List.set_cons_zero, List.set_cons_succ, Int.reduceToNat, List.take_zero, upto, ren_psl, ren_ptr, List.getElem?_cons_zero, List.getElem?_cons_succ, renB, cells_ren, bcells_ren, setAll, List.take_succ_cons, List.drop_succ_cons, List.drop_zero, List.take_nil, List.drop_nil, List.map_cons, List.map_nil, decide_eq_true_eq, Bool.false_eq_true, true_iff, iff_true, false_iff, iff_false]
    | (refine T.nil ?_; (first | refine hK _ _ _ (by rfl) ?_ | refine hK _ _ _ ?_); simp only [keep, List.map, lk, reduceIte, Nat.reduceEqDiff, enter]; clear hK; clear K)
    | (show WOpsT _ (⟨_, .call _ _, none⟩ :: _) _ _ _ _; first | refine T.callN e93 rfl (sndfit x y m hx hy) (by simp) ?_ | refine T.callP [2] e94 rfl (voice_ok x y 2 (by decide)) (by first | rfl | simp [pasH, pasB, cells_pas, bcells_pas]) rfl rfl rfl ?_ | refine T.call0 e99 rfl (get_ok _ 0 8 (by decide)) ?_ | refine T.call0 e99 rfl (get_ok _ 8 4 (by decide)) ?_)
    | (show WOpsT _ (⟨_, .ld _ _, none⟩ :: _) _ _ _ _; first | refine T.ld rfl rfl rfl rfl rfl ?_ | refine T.ldd rfl rfl ?_ | refine T.ldn rfl rfl rfl rfl (Nat.le_of_ble_eq_true rfl) ?_ | refine T.lddn rfl (Nat.le_of_ble_eq_true rfl) ?_)
    | (show WOpsT _ (⟨_, .idx _ _ _ _, none⟩ :: _) _ _ _ _; first | refine T.idx rfl rfl rfl ⟨rfl, rfl⟩ (by omega) ?_ | refine T.idxs rfl rfl rfl (by omega) rfl ?_ | refine T.idxa rfl rfl rfl rfl (by omega) ?_ | refine T.idxd rfl rfl (by omega) ?_)
    | (show WOpsT _ (⟨_, .bin _ _ _, none⟩ :: _) _ _ _ _; first | refine T.add rfl rfl (by omega) (by omega) ?_ | refine T.sub rfl rfl (by omega) (by omega) ?_ | refine T.mul rfl rfl (by omega) (by omega) ?_ | refine T.rem rfl rfl (by omega) ?_ | refine T.quo rfl rfl (by omega) ?_ | refine T.shl rfl rfl (by omega) ?_ | refine T.shr rfl rfl (by omega) ?_ | refine T.bin rfl rfl rfl ?_)
    | (show WOpsT _ (⟨_, _, some (_, true)⟩ :: _) _ _ _ _; first | refine T.goT rfl (by omega) ?_ | refine T.paT rfl (by omega) ?_ | refine T.go rfl rfl ?_ | refine T.pass rfl rfl ?_ | refine T.pU rfl ?_ | refine T.gT rfl (fun hgd => ?_) (fun hgd => ?_))
    | (show WOpsT _ (⟨_, _, some (_, false)⟩ :: _) _ _ _ _; first | refine T.goF rfl (by omega) ?_ | refine T.paF rfl (by omega) ?_ | refine T.go rfl rfl ?_ | refine T.pass rfl rfl ?_ | refine T.pU rfl ?_ | refine T.gF rfl (fun hgd => ?_) (fun hgd => ?_))
    | (show WOpsT _ (⟨_, .pick _ _ _, none⟩ :: _) _ _ _ _; first | refine T.pkT rfl (by omega) ?_ | refine T.pkF rfl (by omega) ?_ | refine T.pickT rfl rfl ?_ | refine T.pickF rfl rfl ?_ | refine T.pickB rfl rfl rfl ?_ | refine T.pkD rfl (fun hgd => ?_) (fun hgd => ?_))
    | (show AKW _ _ _ _ _ _ _; first | refine N.now ?_)
    | (show UK _ _ _ _ _ _ _ _; first | refine N.round ?_)
    | (show UC _ _ _ _ _ _ _ _; first | refine N.ucN ?_)
    | (show AK _ _ (.cond _ _ _) _ _ _ _; first | refine N.cT rfl (by omega) ?_ | refine N.cF rfl (by omega) ?_ | refine N.condT rfl rfl ?_ | refine N.condF rfl rfl ?_ | refine N.condD rfl (fun hcd => ?_) (fun hcd => ?_) | refine N.condB rfl (fun hcd => ?_) (fun hcd => ?_))
    | (show AK _ _ _ _ _ _ _; first | refine N.seq ?_ | refine N.block ?_ | refine N.skip ?_ | refine N.exit ?_ | refine N.ret ?_)
    | (show RK _ _ _ _ _ _ _; first | refine N.seqN ?_ | refine N.blkN ?_ | refine N.blkE rfl ?_ | refine N.blkX (by decide) ?_ | refine N.seqX ?_ | refine N.lpX ?_ | refine N.cuN ?_ | refine N.cuE rfl ?_ | refine N.cuX (by decide) ?_ | refine N.cuR ?_ | refine N.seqR ?_ | refine N.blkR ?_ | refine N.lpR ?_ | refine N.lpN ?_ | refine N.nil ?_)
    | (show WOpsT _ _ _ _ _ _; first | refine T.min2 rfl rfl rfl ?_ | refine T.max2 rfl rfl rfl ?_ | refine T.ext rfl rfl ?_ | refine T.lenc ?_ | refine T.eqnP rfl rfl ⟨rfl, by decide⟩ ?_ | refine T.eqnN rfl ?_ | refine T.neg rfl ?_ | refine T.xorn rfl ?_ | refine T.notD rfl ?_ | refine T.not rfl ?_ | refine T.eqb0 rfl rfl ?_ | refine T.eqb1 rfl rfl ?_ | refine T.cvt rfl ?_ | refine T.fad rfl rfl rfl ?_ | refine T.fadd rfl ?_ | refine T.nilc rfl rfl rfl ?_ | refine T.nilcd rfl ?_ | refine T.st rfl rfl rfl ⟨rfl, rfl⟩ rfl (Nat.le_of_ble_eq_true rfl) ?_ | refine T.fld rfl rfl ?_ | refine T.new rfl ⟨rfl, by decide⟩ ?_ | refine T.zero (by decide) ?_ | refine T.build rfl ?_ | refine T.len rfl rfl rfl ?_ | refine T.lenS rfl ?_ | refine T.lenN rfl ?_ | refine T.mkf ?_ | refine T.mki ?_ | refine T.mksl rfl rfl (by decide) ?_ | refine T.copy rfl rfl rfl ⟨rfl, rfl⟩ ?_ | refine T.ixa rfl rfl (by omega) rfl ?_ | refine T.bsl rfl (by decide) ?_ | refine T.slc rfl rfl rfl rfl ⟨rfl, rfl⟩ (by omega) ?_ | refine T.slcS rfl rfl rfl rfl (by omega) ?_)
    | refine hQ _ _ _ rfl ?_
    | refine hQN _ _ _ rfl ?_)
  exact WS.devN2 (m := 1) rfl rfl
theorem sndout (x y : Vo) (m : List Int) (hx : x.Ok) (hy : y.Ok) : FnE Try.prog 41 [dev (vo2 x y) m] [] (I (x.v * x.f + y.v * y.f)) [] := by
  have hx' := hx
  have hy' := hy
  unfold Vo.Ok at hx' hy'
  have b1 : 0 ≤ x.v * x.f ∧ x.v * x.f ≤ 15 := by
    have : x.f = 0 ∨ x.f = 1 := by omega
    rcases this with h | h <;> rw [h] <;> omega
  have b2 : 0 ≤ y.v * y.f ∧ y.v * y.f ≤ 15 := by
    have : y.f = 0 ∨ y.f = 1 := by omega
    rcases this with h | h <;> rw [h] <;> omega
  refine N.fn Try.func41 k41 (Nat.le_of_ble_eq_true rfl) q41 fun Q hQ hQN => ?_
  rw [c41]
  repeat' (first
    | refine N.regS fun K hK => ?_
    | refine N.dregS fun K hK => ?_
    | refine N.regN fun K hK => ?_
    | refine N.dregN fun K hK => ?_
    | simp only [T.mv, AO.ev, put, lk, enter, reduceIte, Nat.reduceEqDiff, Nat.reduceAdd, Nat.reduceMul, Nat.reduceSub, ren_c, ren_tup, ren_agg, ren_sl, List.map, Int.reduceNeg, Int.toNat_zero, Nat.zero_add, Nat.add_zero, List.length_cons, List.length_nil, List.nil_append, List.cons_append, List.set_cons_zero, List.set_cons_succ, Int.reduceToNat, List.take_zero, upto, ren_psl, ren_ptr, List.getElem?_cons_zero, List.getElem?_cons_succ, renB, cells_ren, bcells_ren, setAll, List.take_succ_cons, List.drop_succ_cons, List.drop_zero, List.take_nil, List.drop_nil, List.map_cons, List.map_nil, decide_eq_true_eq, Bool.false_eq_true, true_iff, iff_true, false_iff, iff_false]
    | (refine T.nil ?_; (first | refine hK _ _ _ (by rfl) ?_ | refine hK _ _ _ ?_); simp only [keep, List.map, lk, reduceIte, Nat.reduceEqDiff, enter]; clear hK; clear K)
    | (show WOpsT _ (⟨_, .call _ _, none⟩ :: _) _ _ _ _; first | refine T.callN e93 rfl (sndfit x y m hx hy) (by simp) ?_)
    | (show WOpsT _ (⟨_, .ld _ _, none⟩ :: _) _ _ _ _; first | refine T.ld rfl rfl rfl rfl rfl ?_ | refine T.ldd rfl rfl ?_ | refine T.ldn rfl rfl rfl rfl (Nat.le_of_ble_eq_true rfl) ?_ | refine T.lddn rfl (Nat.le_of_ble_eq_true rfl) ?_)
    | (show WOpsT _ (⟨_, .idx _ _ _ _, none⟩ :: _) _ _ _ _; first | refine T.idx rfl rfl rfl ⟨rfl, rfl⟩ (by omega) ?_ | refine T.idxs rfl rfl rfl (by omega) rfl ?_ | refine T.idxa rfl rfl rfl rfl (by omega) ?_ | refine T.idxd rfl rfl (by omega) ?_)
    | (show WOpsT _ (⟨_, .bin _ _ _, none⟩ :: _) _ _ _ _; first | refine T.add rfl rfl (by omega) (by omega) ?_ | refine T.sub rfl rfl (by omega) (by omega) ?_ | refine T.mul rfl rfl (by omega) (by omega) ?_ | refine T.rem rfl rfl (by omega) ?_ | refine T.quo rfl rfl (by omega) ?_ | refine T.shl rfl rfl (by omega) ?_ | refine T.shr rfl rfl (by omega) ?_ | refine T.bin rfl rfl rfl ?_)
    | (show WOpsT _ (⟨_, _, some (_, true)⟩ :: _) _ _ _ _; first | refine T.goT rfl (by omega) ?_ | refine T.paT rfl (by omega) ?_ | refine T.go rfl rfl ?_ | refine T.pass rfl rfl ?_ | refine T.pU rfl ?_ | refine T.gT rfl (fun hgd => ?_) (fun hgd => ?_))
    | (show WOpsT _ (⟨_, _, some (_, false)⟩ :: _) _ _ _ _; first | refine T.goF rfl (by omega) ?_ | refine T.paF rfl (by omega) ?_ | refine T.go rfl rfl ?_ | refine T.pass rfl rfl ?_ | refine T.pU rfl ?_ | refine T.gF rfl (fun hgd => ?_) (fun hgd => ?_))
    | (show WOpsT _ (⟨_, .pick _ _ _, none⟩ :: _) _ _ _ _; first | refine T.pkT rfl (by omega) ?_ | refine T.pkF rfl (by omega) ?_ | refine T.pickT rfl rfl ?_ | refine T.pickF rfl rfl ?_ | refine T.pickB rfl rfl rfl ?_ | refine T.pkD rfl (fun hgd => ?_) (fun hgd => ?_))
    | (show AKW _ _ _ _ _ _ _; first | refine N.now ?_)
    | (show UK _ _ _ _ _ _ _ _; first | refine N.round ?_)
    | (show UC _ _ _ _ _ _ _ _; first | refine N.ucN ?_)
    | (show AK _ _ (.cond _ _ _) _ _ _ _; first | refine N.cT rfl (by omega) ?_ | refine N.cF rfl (by omega) ?_ | refine N.condT rfl rfl ?_ | refine N.condF rfl rfl ?_ | refine N.condD rfl (fun hcd => ?_) (fun hcd => ?_) | refine N.condB rfl (fun hcd => ?_) (fun hcd => ?_))
    | (show AK _ _ _ _ _ _ _; first | refine N.seq ?_ | refine N.block ?_ | refine N.skip ?_ | refine N.exit ?_ | refine N.ret ?_)
    | (show RK _ _ _ _ _ _ _; first | refine N.seqN ?_ | refine N.blkN ?_ | refine N.blkE rfl ?_ | refine N.blkX (by decide) ?_ | refine N.seqX ?_ | refine N.lpX ?_ | refine N.cuN ?_ | refine N.cuE rfl ?_ | refine N.cuX (by decide) ?_ | refine N.cuR ?_ | refine N.seqR ?_ | refine N.blkR ?_ | refine N.lpR ?_ | refine N.lpN ?_ | refine N.nil ?_)
    | (show WOpsT _ _ _ _ _ _; first | refine T.min2 rfl rfl rfl ?_ | refine T.max2 rfl rfl rfl ?_ | refine T.ext rfl rfl ?_ | refine T.lenc ?_ | refine T.eqnP rfl rfl ⟨rfl, by decide⟩ ?_ | refine T.eqnN rfl ?_ | refine T.neg rfl ?_ | refine T.xorn rfl ?_ | refine T.notD rfl ?_ | refine T.not rfl ?_ | refine T.eqb0 rfl rfl ?_ | refine T.eqb1 rfl rfl ?_ | refine T.cvt rfl ?_ | refine T.fad rfl rfl rfl ?_ | refine T.fadd rfl ?_ | refine T.nilc rfl rfl rfl ?_ | refine T.nilcd rfl ?_ | refine T.st rfl rfl rfl ⟨rfl, rfl⟩ rfl (Nat.le_of_ble_eq_true rfl) ?_ | refine T.fld rfl rfl ?_ | refine T.new rfl ⟨rfl, by decide⟩ ?_ | refine T.zero (by decide) ?_ | refine T.build rfl ?_ | refine T.len rfl rfl rfl ?_ | refine T.lenS rfl ?_ | refine T.lenN rfl ?_ | refine T.mkf ?_ | refine T.mki ?_ | refine T.mksl rfl rfl (by decide) ?_ | refine T.copy rfl rfl rfl ⟨rfl, rfl⟩ ?_ | refine T.ixa rfl rfl (by omega) rfl ?_ | refine T.bsl rfl (by decide) ?_ | refine T.slc rfl rfl rfl rfl ⟨rfl, rfl⟩ (by omega) ?_ | refine T.slcS rfl rfl rfl rfl (by omega) ?_)
    | refine hQ _ _ _ rfl ?_
    | refine hQN _ _ _ rfl ?_)
  exact WS.c rfl rfl
def Vo.zero : Vo := ⟨0, 0, 0, 0, 0, 0⟩
theorem Vo.zero_ok : Vo.zero.Ok := by unfold Vo.zero Vo.Ok; decide
theorem Vo.zero_ticks (n : Nat) : Vo.ticks n Vo.zero = Vo.zero := Vo.idle_ticks _ Vo.zero_ok (by decide) n
theorem sndtick (x y : Vo) (m : List Int) (hx : x.Ok) (hy : y.Ok) : FnE Try.prog 96 [dev (vo2 x y) m] [] (dev (vo2 (Vo.ticks 1 x) (Vo.ticks 1 y)) []) [] := by
  refine N.fn Try.func96 k96 (Nat.le_of_ble_eq_true rfl) q96 fun Q hQ hQN => ?_
  rw [c96]
  have h := sndskip_ok x y 1 m hx hy
  rw [show (min (1 : Int) 10000000).toNat = 1 by decide] at h
  repeat' (first
    | refine N.regS fun K hK => ?_
    | refine N.dregS fun K hK => ?_
    | refine N.regN fun K hK => ?_
    | refine N.dregN fun K hK => ?_
    | simp only [T.mv, AO.ev, put, lk, enter, reduceIte, Nat.reduceEqDiff, Nat.reduceAdd, Nat.reduceMul, Nat.reduceSub, ren_c, ren_tup, ren_agg, ren_sl, List.map, Int.reduceNeg, Int.toNat_zero, Nat.zero_add, Nat.add_zero, List.length_cons, List.length_nil, List.nil_append, List.cons_append, List.set_cons_zero, List.set_cons_succ, Int.reduceToNat, List.take_zero, upto, ren_psl, ren_ptr, List.getElem?_cons_zero, List.getElem?_cons_succ, renB, cells_ren, bcells_ren, setAll, List.take_succ_cons, List.drop_succ_cons, List.drop_zero, List.take_nil, List.drop_nil, List.map_cons, List.map_nil, decide_eq_true_eq, Bool.false_eq_true, true_iff, iff_true, false_iff, iff_false]
    | (refine T.nil ?_; (first | refine hK _ _ _ (by rfl) ?_ | refine hK _ _ _ ?_); simp only [keep, List.map, lk, reduceIte, Nat.reduceEqDiff, enter]; clear hK; clear K)
    | (show WOpsT _ (⟨_, .call _ _, none⟩ :: _) _ _ _ _; first | refine T.call0 e42 rfl (h) ?_)
    | (show WOpsT _ (⟨_, .ld _ _, none⟩ :: _) _ _ _ _; first | refine T.ld rfl rfl rfl rfl rfl ?_ | refine T.ldd rfl rfl ?_ | refine T.ldn rfl rfl rfl rfl (Nat.le_of_ble_eq_true rfl) ?_ | refine T.lddn rfl (Nat.le_of_ble_eq_true rfl) ?_)
    | (show WOpsT _ (⟨_, .idx _ _ _ _, none⟩ :: _) _ _ _ _; first | refine T.idx rfl rfl rfl ⟨rfl, rfl⟩ (by omega) ?_ | refine T.idxs rfl rfl rfl (by omega) rfl ?_ | refine T.idxa rfl rfl rfl rfl (by omega) ?_ | refine T.idxd rfl rfl (by omega) ?_)
    | (show WOpsT _ (⟨_, .bin _ _ _, none⟩ :: _) _ _ _ _; first | refine T.add rfl rfl (by omega) (by omega) ?_ | refine T.sub rfl rfl (by omega) (by omega) ?_ | refine T.mul rfl rfl (by omega) (by omega) ?_ | refine T.rem rfl rfl (by omega) ?_ | refine T.quo rfl rfl (by omega) ?_ | refine T.shl rfl rfl (by omega) ?_ | refine T.shr rfl rfl (by omega) ?_ | refine T.bin rfl rfl rfl ?_)
    | (show WOpsT _ (⟨_, _, some (_, true)⟩ :: _) _ _ _ _; first | refine T.goT rfl (by omega) ?_ | refine T.paT rfl (by omega) ?_ | refine T.go rfl rfl ?_ | refine T.pass rfl rfl ?_ | refine T.pU rfl ?_ | refine T.gT rfl (fun hgd => ?_) (fun hgd => ?_))
    | (show WOpsT _ (⟨_, _, some (_, false)⟩ :: _) _ _ _ _; first | refine T.goF rfl (by omega) ?_ | refine T.paF rfl (by omega) ?_ | refine T.go rfl rfl ?_ | refine T.pass rfl rfl ?_ | refine T.pU rfl ?_ | refine T.gF rfl (fun hgd => ?_) (fun hgd => ?_))
    | (show WOpsT _ (⟨_, .pick _ _ _, none⟩ :: _) _ _ _ _; first | refine T.pkT rfl (by omega) ?_ | refine T.pkF rfl (by omega) ?_ | refine T.pickT rfl rfl ?_ | refine T.pickF rfl rfl ?_ | refine T.pickB rfl rfl rfl ?_ | refine T.pkD rfl (fun hgd => ?_) (fun hgd => ?_))
    | (show AKW _ _ _ _ _ _ _; first | refine N.now ?_)
    | (show UK _ _ _ _ _ _ _ _; first | refine N.round ?_)
    | (show UC _ _ _ _ _ _ _ _; first | refine N.ucN ?_)
    | (show AK _ _ (.cond _ _ _) _ _ _ _; first | refine N.cT rfl (by omega) ?_ | refine N.cF rfl (by omega) ?_ | refine N.condT rfl rfl ?_ | refine N.condF rfl rfl ?_ | refine N.condD rfl (fun hcd => ?_) (fun hcd => ?_) | refine N.condB rfl (fun hcd => ?_) (fun hcd => ?_))
    | (show AK _ _ _ _ _ _ _; first | refine N.seq ?_ | refine N.block ?_ | refine N.skip ?_ | refine N.exit ?_ | refine N.ret ?_)
    | (show RK _ _ _ _ _ _ _; first | refine N.seqN ?_ | refine N.blkN ?_ | refine N.blkE rfl ?_ | refine N.blkX (by decide) ?_ | refine N.seqX ?_ | refine N.lpX ?_ | refine N.cuN ?_ | refine N.cuE rfl ?_ | refine N.cuX (by decide) ?_ | refine N.cuR ?_ | refine N.seqR ?_ | refine N.blkR ?_ | refine N.lpR ?_ | refine N.lpN ?_ | refine N.nil ?_)
    | (show WOpsT _ _ _ _ _ _; first | refine T.min2 rfl rfl rfl ?_ | refine T.max2 rfl rfl rfl ?_ | refine T.ext rfl rfl ?_ | refine T.lenc ?_ | refine T.eqnP rfl rfl ⟨rfl, by decide⟩ ?_ | refine T.eqnN rfl ?_ | refine T.neg rfl ?_ | refine T.xorn rfl ?_ | refine T.notD rfl ?_ | refine T.not rfl ?_ | refine T.eqb0 rfl rfl ?_ | refine T.eqb1 rfl rfl ?_ | refine T.cvt rfl ?_ | refine T.fad rfl rfl rfl ?_ | refine T.fadd rfl ?_ | refine T.nilc rfl rfl rfl ?_ | refine T.nilcd rfl ?_ | refine T.st rfl rfl rfl ⟨rfl, rfl⟩ rfl (Nat.le_of_ble_eq_true rfl) ?_ | refine T.fld rfl rfl ?_ | refine T.new rfl ⟨rfl, by decide⟩ ?_ | refine T.zero (by decide) ?_ | refine T.build rfl ?_ | refine T.len rfl rfl rfl ?_ | refine T.lenS rfl ?_ | refine T.lenN rfl ?_ | refine T.mkf ?_ | refine T.mki ?_ | refine T.mksl rfl rfl (by decide) ?_ | refine T.copy rfl rfl rfl ⟨rfl, rfl⟩ ?_ | refine T.ixa rfl rfl (by omega) rfl ?_ | refine T.bsl rfl (by decide) ?_ | refine T.slc rfl rfl rfl rfl ⟨rfl, rfl⟩ (by omega) ?_ | refine T.slcS rfl rfl rfl rfl (by omega) ?_)
    | refine hQ _ _ _ rfl ?_
    | refine hQN _ _ _ rfl ?_)
  exact .of (WeakV.drop (n := 1) rfl rfl)
theorem sounds_ok : FnE Try.prog 40 [] [] (.c (.bool true)) [] := by
  refine N.fn Try.func40 k40 (Nat.le_of_ble_eq_true rfl) q40 fun Q hQ hQN => ?_
  rw [c40]
  have h1 := snd0 Vo.zero 1 Vo.zero [] Vo.zero_ok Vo.zero_ok
  rw [show ({ Vo.zero with p := putv Vo.zero.p 0 8 1 } : Vo) = ⟨1, 0, 0, 0, 0, 0⟩ by unfold Vo.zero putv; rfl] at h1
  have h2 := snd2 ⟨1, 0, 0, 0, 0, 0⟩ 15 Vo.zero [] (by unfold Vo.Ok; decide) Vo.zero_ok
  rw [show ({ (⟨1, 0, 0, 0, 0, 0⟩ : Vo) with v := 15 % 2 ^ 4, w := 0 } : Vo) = ⟨1, 15, 0, 0, 0, 0⟩ by simp] at h2
  have h3 := sndtick ⟨1, 15, 0, 0, 0, 0⟩ Vo.zero [] (by unfold Vo.Ok; decide) Vo.zero_ok
  rw [show Vo.ticks 1 ⟨1, 15, 0, 0, 0, 0⟩ = ⟨1, 15, 0, 0, 1, 0⟩ from rfl, Vo.zero_ticks] at h3
  have h4 := sndout ⟨1, 15, 0, 0, 1, 0⟩ Vo.zero [] (by unfold Vo.Ok; decide) Vo.zero_ok
  repeat' (first
    | refine N.regS fun K hK => ?_
    | refine N.dregS fun K hK => ?_
    | refine N.regN fun K hK => ?_
    | refine N.dregN fun K hK => ?_
    | simp only [T.mv, AO.ev, put, lk, enter, reduceIte, Nat.reduceEqDiff, Nat.reduceAdd, Nat.reduceMul, Nat.reduceSub, ren_c, ren_tup, ren_agg, ren_sl, List.map, Int.reduceNeg, Int.toNat_zero, Nat.zero_add, Nat.add_zero, List.length_cons, List.length_nil, List.nil_append, List.cons_append, List.set_cons_zero, List.set_cons_succ, Int.reduceToNat, List.take_zero, upto, ren_psl, ren_ptr, List.getElem?_cons_zero, List.getElem?_cons_succ, renB, cells_ren, bcells_ren, setAll, List.take_succ_cons, List.drop_succ_cons, List.drop_zero, List.take_nil, List.drop_nil, List.map_cons, List.map_nil, decide_eq_true_eq, Bool.false_eq_true, true_iff, iff_true, false_iff, iff_false]
    | (refine T.nil ?_; (first | refine hK _ _ _ (by rfl) ?_ | refine hK _ _ _ ?_); simp only [keep, List.map, lk, reduceIte, Nat.reduceEqDiff, enter]; clear hK; clear K)
    | (show WOpsT _ (⟨_, .call _ _, none⟩ :: _) _ _ _ _; first | refine T.call0 e38 rfl (sndnew_ok) ?_ | refine T.call0 e39 rfl (h1) ?_ | refine T.call0 e39 rfl (h2) ?_ | refine T.call0 e96 rfl (h3) ?_ | refine T.call0 e41 rfl (h4) ?_)
    | (show WOpsT _ (⟨_, .ld _ _, none⟩ :: _) _ _ _ _; first | refine T.ld rfl rfl rfl rfl rfl ?_ | refine T.ldd rfl rfl ?_ | refine T.ldn rfl rfl rfl rfl (Nat.le_of_ble_eq_true rfl) ?_ | refine T.lddn rfl (Nat.le_of_ble_eq_true rfl) ?_)
    | (show WOpsT _ (⟨_, .idx _ _ _ _, none⟩ :: _) _ _ _ _; first | refine T.idx rfl rfl rfl ⟨rfl, rfl⟩ (by omega) ?_ | refine T.idxs rfl rfl rfl (by omega) rfl ?_ | refine T.idxa rfl rfl rfl rfl (by omega) ?_ | refine T.idxd rfl rfl (by omega) ?_)
    | (show WOpsT _ (⟨_, .bin _ _ _, none⟩ :: _) _ _ _ _; first | refine T.add rfl rfl (by omega) (by omega) ?_ | refine T.sub rfl rfl (by omega) (by omega) ?_ | refine T.mul rfl rfl (by omega) (by omega) ?_ | refine T.rem rfl rfl (by omega) ?_ | refine T.quo rfl rfl (by omega) ?_ | refine T.shl rfl rfl (by omega) ?_ | refine T.shr rfl rfl (by omega) ?_ | refine T.bin rfl rfl rfl ?_)
    | (show WOpsT _ (⟨_, _, some (_, true)⟩ :: _) _ _ _ _; first | refine T.goT rfl (by omega) ?_ | refine T.paT rfl (by omega) ?_ | refine T.go rfl rfl ?_ | refine T.pass rfl rfl ?_ | refine T.pU rfl ?_ | refine T.gT rfl (fun hgd => ?_) (fun hgd => ?_))
    | (show WOpsT _ (⟨_, _, some (_, false)⟩ :: _) _ _ _ _; first | refine T.goF rfl (by omega) ?_ | refine T.paF rfl (by omega) ?_ | refine T.go rfl rfl ?_ | refine T.pass rfl rfl ?_ | refine T.pU rfl ?_ | refine T.gF rfl (fun hgd => ?_) (fun hgd => ?_))
    | (show WOpsT _ (⟨_, .pick _ _ _, none⟩ :: _) _ _ _ _; first | refine T.pkT rfl (by omega) ?_ | refine T.pkF rfl (by omega) ?_ | refine T.pickT rfl rfl ?_ | refine T.pickF rfl rfl ?_ | refine T.pickB rfl rfl rfl ?_ | refine T.pkD rfl (fun hgd => ?_) (fun hgd => ?_))
    | (show AKW _ _ _ _ _ _ _; first | refine N.now ?_)
    | (show UK _ _ _ _ _ _ _ _; first | refine N.round ?_)
    | (show UC _ _ _ _ _ _ _ _; first | refine N.ucN ?_)
    | (show AK _ _ (.cond _ _ _) _ _ _ _; first | refine N.cT rfl (by omega) ?_ | refine N.cF rfl (by omega) ?_ | refine N.condT rfl rfl ?_ | refine N.condF rfl rfl ?_ | refine N.condD rfl (fun hcd => ?_) (fun hcd => ?_) | refine N.condB rfl (fun hcd => ?_) (fun hcd => ?_))
    | (show AK _ _ _ _ _ _ _; first | refine N.seq ?_ | refine N.block ?_ | refine N.skip ?_ | refine N.exit ?_ | refine N.ret ?_)
    | (show RK _ _ _ _ _ _ _; first | refine N.seqN ?_ | refine N.blkN ?_ | refine N.blkE rfl ?_ | refine N.blkX (by decide) ?_ | refine N.seqX ?_ | refine N.lpX ?_ | refine N.cuN ?_ | refine N.cuE rfl ?_ | refine N.cuX (by decide) ?_ | refine N.cuR ?_ | refine N.seqR ?_ | refine N.blkR ?_ | refine N.lpR ?_ | refine N.lpN ?_ | refine N.nil ?_)
    | (show WOpsT _ _ _ _ _ _; first | refine T.min2 rfl rfl rfl ?_ | refine T.max2 rfl rfl rfl ?_ | refine T.ext rfl rfl ?_ | refine T.lenc ?_ | refine T.eqnP rfl rfl ⟨rfl, by decide⟩ ?_ | refine T.eqnN rfl ?_ | refine T.neg rfl ?_ | refine T.xorn rfl ?_ | refine T.notD rfl ?_ | refine T.not rfl ?_ | refine T.eqb0 rfl rfl ?_ | refine T.eqb1 rfl rfl ?_ | refine T.cvt rfl ?_ | refine T.fad rfl rfl rfl ?_ | refine T.fadd rfl ?_ | refine T.nilc rfl rfl rfl ?_ | refine T.nilcd rfl ?_ | refine T.st rfl rfl rfl ⟨rfl, rfl⟩ rfl (Nat.le_of_ble_eq_true rfl) ?_ | refine T.fld rfl rfl ?_ | refine T.new rfl ⟨rfl, by decide⟩ ?_ | refine T.zero (by decide) ?_ | refine T.build rfl ?_ | refine T.len rfl rfl rfl ?_ | refine T.lenS rfl ?_ | refine T.lenN rfl ?_ | refine T.mkf ?_ | refine T.mki ?_ | refine T.mksl rfl rfl (by decide) ?_ | refine T.copy rfl rfl rfl ⟨rfl, rfl⟩ ?_ | refine T.ixa rfl rfl (by omega) rfl ?_ | refine T.bsl rfl (by decide) ?_ | refine T.slc rfl rfl rfl rfl ⟨rfl, rfl⟩ (by omega) ?_ | refine T.slcS rfl rfl rfl rfl (by omega) ?_)
    | refine hQ _ _ _ rfl ?_
    | refine hQN _ _ _ rfl ?_)
  exact WS.bool rfl (by decide)
theorem fades_ok (V R : Int) : FnE Try.prog 7 [I V, I R] [] (.c (.bool true)) [] := by
  refine N.fn Try.func7 k7 (Nat.le_of_ble_eq_true rfl) q7 fun Q hQ hQN => ?_
  rw [c7]
  obtain ⟨v, hv⟩ : ∃ v, 1 + V % 15 = v := ⟨_, rfl⟩
  obtain ⟨r, hr⟩ : ∃ r, 1 + R % 40 = r := ⟨_, rfl⟩
  have hv1 : 1 ≤ v ∧ v ≤ 15 := by omega
  have hr1 : 1 ≤ r ∧ r ≤ 40 := by omega
  have B1 := below_ok V 15 (by decide) (by decide)
  have B2 := below_ok R 40 (by decide) (by decide)
  have h1 := snd3 Vo.zero r Vo.zero [] Vo.zero_ok Vo.zero_ok
  rw [show ({ Vo.zero with r := r % 2 ^ 8 } : Vo) = ⟨0, 0, r, 0, 0, 0⟩ by unfold Vo.zero; rw [show r % 2 ^ 8 = r by omega]] at h1
  have k1 : (⟨0, 0, r, 0, 0, 0⟩ : Vo).Ok := by unfold Vo.Ok; dsimp only; omega
  have h2 := snd2 ⟨0, 0, r, 0, 0, 0⟩ v Vo.zero [] k1 Vo.zero_ok
  rw [show ({ (⟨0, 0, r, 0, 0, 0⟩ : Vo) with v := v % 2 ^ 4, w := 0 } : Vo) = ⟨0, v, r, 0, 0, 0⟩ by rw [show v % 2 ^ 4 = v by omega]] at h2
  have k2 : (⟨0, v, r, 0, 0, 0⟩ : Vo).Ok := by unfold Vo.Ok; dsimp only; omega
  obtain ⟨D, hD⟩ : ∃ D, 64 * r = D := ⟨_, rfl⟩
  have hD1 : 64 ≤ D ∧ D ≤ 2560 := by omega
  obtain ⟨E, hE⟩ : ∃ E, D * v = E := ⟨_, rfl⟩
  have hE1 : D ≤ E ∧ E ≤ 38400 := by
    rw [← hE]
    have a1 := Int.mul_le_mul_of_nonneg_left hv1.1 (show 0 ≤ D by omega)
    have a2 := Int.mul_le_mul_of_nonneg_left hv1.2 (show 0 ≤ D by omega)
    omega
  have f1 := Vo.fades r (by omega) (E - 1).toNat v (by omega) (by rw [hD, hE]; omega)
  have f2 := Vo.fades r (by omega) E.toNat v (by omega) (by rw [hD, hE]; omega)
  rw [hD] at f1 f2
  have d1 : v - ((E - 1).toNat : Int) / D = 1 := by
    have : ((E - 1).toNat : Int) = D - 1 + D * (v - 1) := by rw [Int.mul_sub, hE]; omega
    rw [this, Int.add_mul_ediv_left _ _ (by omega), Int.ediv_eq_zero_of_lt (by omega) (by omega)]; omega
  have d2 : v - (E.toNat : Int) / D = 0 := by
    have : (E.toNat : Int) = D * v := by rw [hE]; omega
    rw [this, Int.mul_ediv_cancel_left _ (by omega)]; omega
  rw [d1] at f1
  rw [d2] at f2
  have s1 := sndskip_ok ⟨0, v, r, 0, 0, 0⟩ Vo.zero (E - 1) [] k2 Vo.zero_ok
  have s2 := sndskip_ok ⟨0, v, r, 0, 0, 0⟩ Vo.zero E [] k2 Vo.zero_ok
  rw [show min (E - 1) 10000000 = E - 1 by omega, Vo.zero_ticks, f1] at s1
  rw [show min E 10000000 = E by omega, Vo.zero_ticks, f2] at s2
  have t1 := Vo.ticks_ok _ k2 (E - 1).toNat
  have t2 := Vo.ticks_ok _ k2 E.toNat
  rw [f1] at t1
  rw [f2] at t2
  have r1 := sndread2 _ Vo.zero [] t1 Vo.zero_ok
  have r2 := sndread2 _ Vo.zero [] t2 Vo.zero_ok
  have hDw : IntKind.wrap .i64 (D * v) = E := by rw [hE]; exact wrap64 (by omega) (by omega)
  repeat' (first
    | rw [hv]
    | rw [hr]
    | rw [hD]
    | rw [hE]
    | refine N.regS fun K hK => ?_
    | refine N.dregS fun K hK => ?_
    | refine N.regN fun K hK => ?_
    | refine N.dregN fun K hK => ?_
    | simp only [T.mv, AO.ev, put, lk, enter, reduceIte, Nat.reduceEqDiff, Nat.reduceAdd, Nat.reduceMul, Nat.reduceSub, ren_c, ren_tup, ren_agg, ren_sl, List.map, Int.reduceNeg, Int.toNat_zero, Nat.zero_add, Nat.add_zero, List.length_cons, List.length_nil, List.nil_append, List.cons_append, List.set_cons_zero, List.set_cons_succ, Int.reduceToNat, List.take_zero, upto, ren_psl, ren_ptr, List.getElem?_cons_zero, List.getElem?_cons_succ, renB, cells_ren, bcells_ren, setAll, List.take_succ_cons, List.drop_succ_cons, List.drop_zero, List.take_nil, List.drop_nil, List.map_cons, List.map_nil, decide_eq_true_eq, Bool.false_eq_true, true_iff, iff_true, false_iff, iff_false]
    | (refine T.nil ?_; (first | refine hK _ _ _ (by rfl) ?_ | refine hK _ _ _ ?_); simp only [keep, List.map, lk, reduceIte, Nat.reduceEqDiff, enter]; clear hK; clear K)
    | (show WOpsT _ (⟨_, .call _ _, none⟩ :: _) _ _ _ _; first | refine T.call0 e29 rfl (B1) ?_ | refine T.call0 e29 rfl (B2) ?_ | refine T.call0 e38 rfl (sndnew_ok) ?_ | refine T.call0 e39 rfl (h1) ?_ | refine T.call0 e39 rfl (h2) ?_ | refine T.call0 e42 rfl (s1) ?_ | refine T.call0 e42 rfl (s2) ?_ | refine T.call0 e43 rfl (r1) ?_ | refine T.call0 e43 rfl (r2) ?_ | refine T.call0 e40 rfl (sounds_ok) ?_)
    | (show WOpsT _ (⟨_, .ld _ _, none⟩ :: _) _ _ _ _; first | refine T.ld rfl rfl rfl rfl rfl ?_ | refine T.ldd rfl rfl ?_ | refine T.ldn rfl rfl rfl rfl (Nat.le_of_ble_eq_true rfl) ?_ | refine T.lddn rfl (Nat.le_of_ble_eq_true rfl) ?_)
    | (show WOpsT _ (⟨_, .idx _ _ _ _, none⟩ :: _) _ _ _ _; first | refine T.idx rfl rfl rfl ⟨rfl, rfl⟩ (by omega) ?_ | refine T.idxs rfl rfl rfl (by omega) rfl ?_ | refine T.idxa rfl rfl rfl rfl (by omega) ?_ | refine T.idxd rfl rfl (by omega) ?_)
    | (show WOpsT _ (⟨_, .bin _ _ _, none⟩ :: _) _ _ _ _; first | refine T.add rfl rfl (by omega) (by omega) ?_ | refine T.sub rfl rfl (by omega) (by omega) ?_ | refine T.mul rfl rfl (by omega) (by omega) ?_ | refine T.rem rfl rfl (by omega) ?_ | refine T.quo rfl rfl (by omega) ?_ | refine T.shl rfl rfl (by omega) ?_ | refine T.shr rfl rfl (by omega) ?_ | refine T.bin rfl rfl rfl ?_)
    | (show WOpsT _ (⟨_, _, some (_, true)⟩ :: _) _ _ _ _; first | refine T.goT rfl (by omega) ?_ | refine T.paT rfl (by omega) ?_ | refine T.go rfl rfl ?_ | refine T.pass rfl rfl ?_ | refine T.pU rfl ?_ | refine T.gT rfl (fun hgd => ?_) (fun hgd => ?_))
    | (show WOpsT _ (⟨_, _, some (_, false)⟩ :: _) _ _ _ _; first | refine T.goF rfl (by omega) ?_ | refine T.paF rfl (by omega) ?_ | refine T.go rfl rfl ?_ | refine T.pass rfl rfl ?_ | refine T.pU rfl ?_ | refine T.gF rfl (fun hgd => ?_) (fun hgd => ?_))
    | (show WOpsT _ (⟨_, .pick _ _ _, none⟩ :: _) _ _ _ _; first | refine T.pkT rfl (by omega) ?_ | refine T.pkF rfl (by omega) ?_ | refine T.pickT rfl rfl ?_ | refine T.pickF rfl rfl ?_ | refine T.pickB rfl rfl rfl ?_ | refine T.pkD rfl (fun hgd => ?_) (fun hgd => ?_))
    | (show AKW _ _ _ _ _ _ _; first | refine N.now ?_)
    | (show UK _ _ _ _ _ _ _ _; first | refine N.round ?_)
    | (show UC _ _ _ _ _ _ _ _; first | refine N.ucN ?_)
    | (show AK _ _ (.cond _ _ _) _ _ _ _; first | refine N.cT rfl (by omega) ?_ | refine N.cF rfl (by omega) ?_ | refine N.condT rfl rfl ?_ | refine N.condF rfl rfl ?_ | refine N.condD rfl (fun hcd => ?_) (fun hcd => ?_) | refine N.condB rfl (fun hcd => ?_) (fun hcd => ?_))
    | (show AK _ _ _ _ _ _ _; first | refine N.seq ?_ | refine N.block ?_ | refine N.skip ?_ | refine N.exit ?_ | refine N.ret ?_)
    | (show RK _ _ _ _ _ _ _; first | refine N.seqN ?_ | refine N.blkN ?_ | refine N.blkE rfl ?_ | refine N.blkX (by decide) ?_ | refine N.seqX ?_ | refine N.lpX ?_ | refine N.cuN ?_ | refine N.cuE rfl ?_ | refine N.cuX (by decide) ?_ | refine N.cuR ?_ | refine N.seqR ?_ | refine N.blkR ?_ | refine N.lpR ?_ | refine N.lpN ?_ | refine N.nil ?_)
    | (show WOpsT _ _ _ _ _ _; first | refine T.min2 rfl rfl rfl ?_ | refine T.max2 rfl rfl rfl ?_ | refine T.ext rfl rfl ?_ | refine T.lenc ?_ | refine T.eqnP rfl rfl ⟨rfl, by decide⟩ ?_ | refine T.eqnN rfl ?_ | refine T.neg rfl ?_ | refine T.xorn rfl ?_ | refine T.notD rfl ?_ | refine T.not rfl ?_ | refine T.eqb0 rfl rfl ?_ | refine T.eqb1 rfl rfl ?_ | refine T.cvt rfl ?_ | refine T.fad rfl rfl rfl ?_ | refine T.fadd rfl ?_ | refine T.nilc rfl rfl rfl ?_ | refine T.nilcd rfl ?_ | refine T.st rfl rfl rfl ⟨rfl, rfl⟩ rfl (Nat.le_of_ble_eq_true rfl) ?_ | refine T.fld rfl rfl ?_ | refine T.new rfl ⟨rfl, by decide⟩ ?_ | refine T.zero (by decide) ?_ | refine T.build rfl ?_ | refine T.len rfl rfl rfl ?_ | refine T.lenS rfl ?_ | refine T.lenN rfl ?_ | refine T.mkf ?_ | refine T.mki ?_ | refine T.mksl rfl rfl (by decide) ?_ | refine T.copy rfl rfl rfl ⟨rfl, rfl⟩ ?_ | refine T.ixa rfl rfl (by omega) rfl ?_ | refine T.bsl rfl (by decide) ?_ | refine T.slc rfl rfl rfl rfl ⟨rfl, rfl⟩ (by omega) ?_ | refine T.slcS rfl rfl rfl rfl (by omega) ?_)
    | refine hQ _ _ _ rfl ?_
    | refine hQN _ _ _ rfl ?_)
  all_goals (refine WS.bool rfl ?_; simp only [decide_eq_true_eq, Bool.false_eq_true, iff_true, iff_false, true_iff, false_iff] <;> omega)
theorem sturns_ok (PP KK : Int) : FnE Try.prog 6 [I PP, I KK] [] (.c (.bool true)) [] := by
  refine N.fn Try.func6 k6 (Nat.le_of_ble_eq_true rfl) q6 fun Q hQ hQN => ?_
  rw [c6]
  obtain ⟨p, hp⟩ : ∃ p, 1 + PP % 300 = p := ⟨_, rfl⟩
  obtain ⟨k, hk⟩ : ∃ k, KK % 2000 = k := ⟨_, rfl⟩
  have hp1 : 1 ≤ p ∧ p ≤ 300 := by omega
  have hk1 : 0 ≤ k ∧ k < 2000 := by omega
  have B1 := below_ok PP 300 (by decide) (by decide)
  have B2 := below_ok KK 2000 (by decide) (by decide)
  rw [hk] at B2
  obtain ⟨e, he⟩ : ∃ e, p / 2 ^ min (8 : Int).toNat IntKind.i64.bits = e := ⟨_, rfl⟩
  have he' : e = p / 256 := by rw [← he]; rfl
  have h1 := snd0 Vo.zero p Vo.zero [] Vo.zero_ok Vo.zero_ok
  have v1 : putv 0 0 8 p = p % 256 := by unfold putv; omega
  rw [show ({ Vo.zero with p := putv Vo.zero.p 0 8 p } : Vo) = ⟨p % 256, 0, 0, 0, 0, 0⟩ by show (⟨putv 0 0 8 p, 0, 0, 0, 0, 0⟩ : Vo) = _; rw [v1]] at h1
  have k1 : (⟨p % 256, 0, 0, 0, 0, 0⟩ : Vo).Ok := by unfold Vo.Ok; dsimp only; omega
  have h2 := snd1 ⟨p % 256, 0, 0, 0, 0, 0⟩ e Vo.zero [] k1 Vo.zero_ok
  have v2 : putv (p % 256) 8 4 e = p := by unfold putv; omega
  rw [show ({ (⟨p % 256, 0, 0, 0, 0, 0⟩ : Vo) with p := putv (p % 256) 8 4 e } : Vo) = ⟨p, 0, 0, 0, 0, 0⟩ by show (⟨putv (p % 256) 8 4 e, 0, 0, 0, 0, 0⟩ : Vo) = _; rw [v2]] at h2
  have k2 : (⟨p, 0, 0, 0, 0, 0⟩ : Vo).Ok := by unfold Vo.Ok; dsimp only; omega
  have h3 := snd2 ⟨p, 0, 0, 0, 0, 0⟩ 7 Vo.zero [] k2 Vo.zero_ok
  rw [show ({ (⟨p, 0, 0, 0, 0, 0⟩ : Vo) with v := 7 % 2 ^ 4, w := 0 } : Vo) = ⟨p, 7, 0, 0, 0, 0⟩ by simp] at h3
  have k3 : (⟨p, 7, 0, 0, 0, 0⟩ : Vo).Ok := by unfold Vo.Ok; dsimp only; omega
  have h4 := snd3 ⟨p, 7, 0, 0, 0, 0⟩ 0 Vo.zero [] k3 Vo.zero_ok
  rw [show ({ (⟨p, 7, 0, 0, 0, 0⟩ : Vo) with r := 0 % 2 ^ 8 } : Vo) = ⟨p, 7, 0, 0, 0, 0⟩ by simp] at h4
  have s1 := sndskip_ok ⟨p, 7, 0, 0, 0, 0⟩ Vo.zero k [] k3 Vo.zero_ok
  have t1 := Vo.ticks_ok _ k3 k.toNat
  rw [Vo.turns p 7 (by omega), show ((k.toNat : Nat) : Int) = k by omega] at t1
  rw [show min k 10000000 = k by omega, Vo.zero_ticks, Vo.turns p 7 (by omega), show ((k.toNat : Nat) : Int) = k by omega] at s1
  have o1 := sndout _ Vo.zero [] t1 Vo.zero_ok
  have q1 : IntKind.wrap .i64 (k.tdiv p) = k / p := by
    rw [Int.tdiv_eq_ediv_of_nonneg hk1.1]
    have a1 := Int.ediv_nonneg hk1.1 (show 0 ≤ p by omega)
    have a2 := Int.ediv_le_self p hk1.1
    exact wrap64 (by omega) (by omega)
  have q2 : (k / p).tmod 2 = k / p % 2 := Int.tmod_eq_emod_of_nonneg (Int.ediv_nonneg hk1.1 (by omega))
  have o2 : (7 : Int) * (k / p % 2) + Vo.zero.v * Vo.zero.f = 7 * (k / p % 2) := by simp [Vo.zero]
  rw [o2] at o1
  repeat' (first
    | rw [hp]
    | (show AK _ _ (.loop _) _ _ _ _; refine N.unroll 5 ?_)
    | rw [he]
    | rw [q1]
    | rw [q2]
    | refine N.regS fun K hK => ?_
    | refine N.dregS fun K hK => ?_
    | refine N.regN fun K hK => ?_
    | refine N.dregN fun K hK => ?_
    | simp only [T.mv, AO.ev, put, lk, enter, reduceIte, Nat.reduceEqDiff, Nat.reduceAdd, Nat.reduceMul, Nat.reduceSub, ren_c, ren_tup, ren_agg, ren_sl, List.map, Int.reduceNeg, Int.toNat_zero, Nat.zero_add, Nat.add_zero, List.length_cons, List.length_nil, List.nil_append, List.cons_append, List.set_cons_zero, List.set_cons_succ, Int.reduceToNat, List.take_zero, upto, ren_psl, ren_ptr, List.getElem?_cons_zero, List.getElem?_cons_succ, renB, cells_ren, bcells_ren, setAll, List.take_succ_cons, List.drop_succ_cons, List.drop_zero, List.take_nil, List.drop_nil, List.map_cons, List.map_nil, decide_eq_true_eq, Bool.false_eq_true, true_iff, iff_true, false_iff, iff_false]
    | (refine T.nil ?_; (first | refine hK _ _ _ (by rfl) ?_ | refine hK _ _ _ ?_); simp only [keep, List.map, lk, reduceIte, Nat.reduceEqDiff, enter]; clear hK; clear K)
    | (show WOpsT _ (⟨_, .call _ _, none⟩ :: _) _ _ _ _; first | refine T.call0 e29 rfl (B1) ?_ | refine T.call0 e29 rfl (B2) ?_ | refine T.call0 e38 rfl (sndnew_ok) ?_ | refine T.call0 e39 rfl (h1) ?_ | refine T.call0 e39 rfl (h2) ?_ | refine T.call0 e39 rfl (h3) ?_ | refine T.call0 e39 rfl (h4) ?_ | refine T.call0 e42 rfl (s1) ?_ | refine T.call0 e41 rfl (o1) ?_ | refine T.call0 e40 rfl (sounds_ok) ?_)
    | (show WOpsT _ (⟨_, .ld _ _, none⟩ :: _) _ _ _ _; first | refine T.ld rfl rfl rfl rfl rfl ?_ | refine T.ldd rfl rfl ?_ | refine T.ldn rfl rfl rfl rfl (Nat.le_of_ble_eq_true rfl) ?_ | refine T.lddn rfl (Nat.le_of_ble_eq_true rfl) ?_)
    | (show WOpsT _ (⟨_, .idx _ _ _ _, none⟩ :: _) _ _ _ _; first | refine T.idx rfl rfl rfl ⟨rfl, rfl⟩ (by omega) ?_ | refine T.idxs rfl rfl rfl (by omega) rfl ?_ | refine T.idxa rfl rfl rfl rfl (by omega) ?_ | refine T.idxd rfl rfl (by omega) ?_)
    | (show WOpsT _ (⟨_, .bin _ _ _, none⟩ :: _) _ _ _ _; first | refine T.add rfl rfl (by omega) (by omega) ?_ | refine T.sub rfl rfl (by omega) (by omega) ?_ | refine T.mul rfl rfl (by omega) (by omega) ?_ | refine T.rem rfl rfl (by omega) ?_ | refine T.quo rfl rfl (by omega) ?_ | refine T.shl rfl rfl (by omega) ?_ | refine T.shr rfl rfl (by omega) ?_ | refine T.bin rfl rfl rfl ?_)
    | (show WOpsT _ (⟨_, _, some (_, true)⟩ :: _) _ _ _ _; first | refine T.goT rfl (by omega) ?_ | refine T.paT rfl (by omega) ?_ | refine T.go rfl rfl ?_ | refine T.pass rfl rfl ?_ | refine T.pU rfl ?_ | refine T.gT rfl (fun hgd => ?_) (fun hgd => ?_))
    | (show WOpsT _ (⟨_, _, some (_, false)⟩ :: _) _ _ _ _; first | refine T.goF rfl (by omega) ?_ | refine T.paF rfl (by omega) ?_ | refine T.go rfl rfl ?_ | refine T.pass rfl rfl ?_ | refine T.pU rfl ?_ | refine T.gF rfl (fun hgd => ?_) (fun hgd => ?_))
    | (show WOpsT _ (⟨_, .pick _ _ _, none⟩ :: _) _ _ _ _; first | refine T.pkT rfl (by omega) ?_ | refine T.pkF rfl (by omega) ?_ | refine T.pickT rfl rfl ?_ | refine T.pickF rfl rfl ?_ | refine T.pickB rfl rfl rfl ?_ | refine T.pkD rfl (fun hgd => ?_) (fun hgd => ?_))
    | (show AKW _ _ _ _ _ _ _; first | refine N.now ?_)
    | (show UK _ _ _ _ _ _ _ _; first | refine N.round ?_)
    | (show UC _ _ _ _ _ _ _ _; first | refine N.ucN ?_)
    | (show AK _ _ (.cond _ _ _) _ _ _ _; first | refine N.cT rfl (by omega) ?_ | refine N.cF rfl (by omega) ?_ | refine N.condT rfl rfl ?_ | refine N.condF rfl rfl ?_ | refine N.condD rfl (fun hcd => ?_) (fun hcd => ?_) | refine N.condB rfl (fun hcd => ?_) (fun hcd => ?_))
    | (show AK _ _ _ _ _ _ _; first | refine N.seq ?_ | refine N.block ?_ | refine N.skip ?_ | refine N.exit ?_ | refine N.ret ?_)
    | (show RK _ _ _ _ _ _ _; first | refine N.seqN ?_ | refine N.blkN ?_ | refine N.blkE rfl ?_ | refine N.blkX (by decide) ?_ | refine N.seqX ?_ | refine N.lpX ?_ | refine N.cuN ?_ | refine N.cuE rfl ?_ | refine N.cuX (by decide) ?_ | refine N.cuR ?_ | refine N.seqR ?_ | refine N.blkR ?_ | refine N.lpR ?_ | refine N.lpN ?_ | refine N.nil ?_)
    | (show WOpsT _ _ _ _ _ _; first | refine T.min2 rfl rfl rfl ?_ | refine T.max2 rfl rfl rfl ?_ | refine T.ext rfl rfl ?_ | refine T.lenc ?_ | refine T.eqnP rfl rfl ⟨rfl, by decide⟩ ?_ | refine T.eqnN rfl ?_ | refine T.neg rfl ?_ | refine T.xorn rfl ?_ | refine T.notD rfl ?_ | refine T.not rfl ?_ | refine T.eqb0 rfl rfl ?_ | refine T.eqb1 rfl rfl ?_ | refine T.cvt rfl ?_ | refine T.fad rfl rfl rfl ?_ | refine T.fadd rfl ?_ | refine T.nilc rfl rfl rfl ?_ | refine T.nilcd rfl ?_ | refine T.st rfl rfl rfl ⟨rfl, rfl⟩ rfl (Nat.le_of_ble_eq_true rfl) ?_ | refine T.fld rfl rfl ?_ | refine T.new rfl ⟨rfl, by decide⟩ ?_ | refine T.zero (by decide) ?_ | refine T.build rfl ?_ | refine T.len rfl rfl rfl ?_ | refine T.lenS rfl ?_ | refine T.lenN rfl ?_ | refine T.mkf ?_ | refine T.mki ?_ | refine T.mksl rfl rfl (by decide) ?_ | refine T.copy rfl rfl rfl ⟨rfl, rfl⟩ ?_ | refine T.ixa rfl rfl (by omega) rfl ?_ | refine T.bsl rfl (by decide) ?_ | refine T.slc rfl rfl rfl rfl ⟨rfl, rfl⟩ (by omega) ?_ | refine T.slcS rfl rfl rfl rfl (by omega) ?_)
    | refine hQ _ _ _ rfl ?_
    | refine hQN _ _ _ rfl ?_)
  all_goals (refine WS.bool rfl ?_; simp only [decide_eq_true_eq, Bool.false_eq_true, iff_true, iff_false, true_iff, false_iff] <;> omega)
end Go.Proofs.Ytjmmompbmjhkpaa.Calc
