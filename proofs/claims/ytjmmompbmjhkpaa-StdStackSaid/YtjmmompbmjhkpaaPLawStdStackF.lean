/- Several texts in one (FnCoreB, FnCoreC, FnBytes, FnWhole, FnWholeB, PureStd, FnStd, FnStdB, FnStdC, FnStdD, FnStdE, FnStdF), for the proof of LawStdStack. No condition beyond those in each lemma. -/
import Derived.Test.YtjmmompbmjhkpaaPLawStdStackE
import Derived.Test.YtjmmompbmjhkpaaPLawStdStackD
namespace Go.Proofs.Ytjmmompbmjhkpaa.Calc
open Go Code
set_option linter.unusedSimpArgs false
set_option linter.unusedVariables false
set_option maxRecDepth 20000
set_option maxHeartbeats 4000000
attribute [local irreducible] WOpsT AW AK RK AKW UK UC
theorem co_get (r : Nat → Int) (op a : Int) (b : Bool) (k : Nat) (hk : k < 9) : (coA r op a b)[k]? = some (I (r k)) := by
  match k, hk with
  | 0, _ => rfl
  | 1, _ => rfl
  | 2, _ => rfl
  | 3, _ => rfl
  | 4, _ => rfl
  | 5, _ => rfl
  | 6, _ => rfl
  | 7, _ => rfl
  | 8, _ => rfl
theorem co_reg (r : Nat → Int) (op a v : Int) (b : Bool) (k : Nat) (hk : k < 9) : spl (coA r op a b) k [I v] = coA (upd r k v) op a b := by
  match k, hk with
  | 0, _ => rfl
  | 1, _ => rfl
  | 2, _ => rfl
  | 3, _ => rfl
  | 4, _ => rfl
  | 5, _ => rfl
  | 6, _ => rfl
  | 7, _ => rfl
  | 8, _ => rfl
theorem startM_r (c : Cpu) (k : Core) (irq : Bool) : (startM c k irq).r = k.r := by
  unfold startM; (repeat' split) <;> rfl
theorem ask_c (c : Cpu) (k : Core) (irq : Bool) (hl : c.ins.length ≤ 256) : FnE Try.prog 71 [.agg (cpC c), .agg (coC k), .c (.bool irq)] [] (.tup [.agg (coC (askM c k irq).1), .agg (buC (askM c k irq).2)]) [] := by
  obtain ⟨r, op, a, nmi⟩ := k
  have hfit := Fit_ok r
  have hfr := fitR_fits r
  have hs : op = -1 → FnE Try.prog 129 [.agg (cpC c), .agg (coA (fitR r) op a nmi), .c (.bool irq)] [] (.agg (coC (askA c ⟨r, op, a, nmi⟩ irq))) [] := by
    intro h
    have := start_c c ⟨fitR r, op, a, nmi⟩ irq hl
    unfold askA; rw [if_pos h]; exact this
  have hno : op ≠ -1 → askA c ⟨r, op, a, nmi⟩ irq = ⟨fitR r, op, a, nmi⟩ := by
    intro h
    unfold askA; rw [if_neg h]
  have hr2 : (askA c ⟨r, op, a, nmi⟩ irq).r = fitR r := by
    unfold askA; split
    · exact startM_r _ _ _
    · rfl
  unfold askM
  generalize askA c ⟨r, op, a, nmi⟩ irq = k2 at *
  generalize fitR r = q at *
  obtain ⟨q', op2, a2, n2⟩ := k2
  dsimp only at hr2
  subst hr2
  unfold coC at hs
  dsimp only at hs
  have hpl : ∀ at_, ∃ ad q2, placeM at_ q' = (ad, q2) ∧ FnE Try.prog 130 [I at_, .agg (ri q')] [] (.tup [I ad, .agg (ri q2)]) [] := fun at_ => ⟨_, _, rfl, place_c at_ _ hfr⟩
  dsimp only [coC, buC]
  by_cases h1 : op = -1
  · have hs := hs h1
    subst h1
    by_cases h2 : op2 = -1
    · subst h2
      obtain ⟨ad, q2, e1, hp⟩ := hpl 0
      rw [show askB c ⟨q', -1, a2, n2⟩ = (⟨q2, -1, a2, n2⟩, ⟨1, ad, 0⟩) by unfold askB; dsimp only; rw [if_pos rfl, e1]]
      dsimp only
      clear hpl e1 hno hfr
      refine N.fn Try.func71 k71 lb q71 fun Q hQ hQN => ?_
      rw [c71]
      repeat' (first
      | rw [co_mren]
      | rw [co_co]
      | rw [co_t12]
      | rw [co_t9]
      | rw [ri_t9]
      | rw [cp_t5]
      | rw [co_z]
      | rw [ri_mren]
      | rw [co_r]
      | rw [co_op]
      | rw [co_at]
      | rw [co_nmi]
      | rw [ri_splz]
      | refine N.regS fun K hK => ?_
      | refine N.dregS fun K hK => ?_
      | refine N.regN fun K hK => ?_
      | refine N.dregN fun K hK => ?_
      | simp only [T.mv, sm, AO.ev, put, lk, enter, reduceIte, Nat.reduceEqDiff, Nat.reduceAdd, Nat.reduceMul, Nat.reduceSub, Int.reduceNeg, Int.reduceToNat, upto, renB, setAll]
      | (refine T.nil ?_; (first | refine hK _ _ _ (by rfl) ?_ | refine hK _ _ _ ?_); (try simp only [keep, List.map, lk, reduceIte, Nat.reduceEqDiff, enter]); clear hK K)
      | (show WOpsT _ (⟨_, .call _ _, none⟩ :: _) _ _ _ _; first | refine T.call0 e57 rfl (hfit) ?_ | refine T.call0 e129 rfl (hs) ?_ | refine T.call0 e130 rfl (hp) ?_)
      | (show WOpsT _ (⟨_, .ld _ _, none⟩ :: _) _ _ _ _; first | refine L.ld ?_ | refine L.ldd ?_ | refine L.ldn ?_ | refine L.lddn ?_)
      | (show WOpsT _ (⟨_, .idx _ _ _ _, none⟩ :: _) _ _ _ _; first | refine L.idxa ?_ | refine L.idxd ?_)
      | (show WOpsT _ (⟨_, .bin _ _ _, none⟩ :: _) _ _ _ _; first | refine L.bin ?_)
      | (show WOpsT _ (⟨_, _, some (_, true)⟩ :: _) _ _ _ _; first | refine L.goT ?_ | refine L.paT ?_ | refine L.go ?_ | refine L.pass ?_ | refine T.pU rfl ?_ | refine T.gT rfl (fun hgd => ?_) (fun hgd => ?_))
      | (show WOpsT _ (⟨_, _, some (_, false)⟩ :: _) _ _ _ _; first | refine L.goF ?_ | refine L.paF ?_ | refine L.go ?_ | refine L.pass ?_ | refine T.pU rfl ?_ | refine T.gF rfl (fun hgd => ?_) (fun hgd => ?_))
      | (show WOpsT _ (⟨_, .pick _ _ _, none⟩ :: _) _ _ _ _; first | refine L.pkT ?_ | refine L.pkF ?_ | refine L.pickT ?_ | refine L.pickF ?_ | refine L.pickB ?_ | refine T.pkD rfl (fun hgd => ?_) (fun hgd => ?_))
      | (show AKW _ _ _ _ _ _ _; first | refine N.now ?_)
      | (show AK _ _ (.cond _ _ _) _ _ _ _; first | refine N.c1 ?_ | refine N.c2 ?_ | refine N.c3 ?_ | refine N.c4 ?_ | refine N.condD rfl (fun hcd => ?_) (fun hcd => ?_) | refine N.condB rfl (fun hcd => ?_) (fun hcd => ?_) | refine N.condU rfl ?_ ?_)
      | (show AK _ _ _ _ _ _ _; first | refine N.seq ?_ | refine N.skip ?_ | refine N.ret ?_)
      | (show RK _ _ _ _ _ _ _; simp only [rk, rk0, reduceIte, Nat.reduceEqDiff])
      | (show WOpsT _ _ _ _ _ _; first | refine L.ext ?_ | refine T.notD rfl ?_ | refine T.not rfl ?_ | refine L.fad ?_ | refine L.fadd ?_ | refine L.st ?_ | refine L.new ?_ | refine L.zero ?_ | refine L.build ?_)
      | refine hQ _ _ _ rfl ?_
      | refine hQN _ _ _ rfl ?_)
      exact WS.drop (n := 0) rfl rfl
    · skip
      cases hd : doingM c op2 a2 with
      | none =>
        have hdo := doing_none c q' op2 a2 n2 hl hd
        rw [show askB c ⟨q', op2, a2, n2⟩ = (⟨q', op2, a2, n2⟩, ⟨0, 0, 0⟩) by unfold askB; dsimp only; rw [if_neg h2, hd]]
        dsimp only
        clear hpl hno hfr
        refine N.fn Try.func71 k71 lb q71 fun Q hQ hQN => ?_
        rw [c71]
        repeat' (first
        | rw [co_mren]
        | rw [co_co]
        | rw [co_t12]
        | rw [co_t9]
        | rw [ri_t9]
        | rw [cp_t5]
        | rw [co_z]
        | rw [ri_mren]
        | rw [co_r]
        | rw [co_op]
        | rw [co_at]
        | rw [co_nmi]
        | refine N.regS fun K hK => ?_
        | refine N.dregS fun K hK => ?_
        | refine N.regN fun K hK => ?_
        | refine N.dregN fun K hK => ?_
        | simp only [T.mv, sm, AO.ev, put, lk, enter, reduceIte, Nat.reduceEqDiff, Nat.reduceAdd, Nat.reduceMul, Nat.reduceSub, Int.reduceNeg, Int.reduceToNat, upto, renB, setAll]
        | (refine T.nil ?_; (first | refine hK _ _ _ (by rfl) ?_ | refine hK _ _ _ ?_); (try simp only [keep, List.map, lk, reduceIte, Nat.reduceEqDiff, enter]); clear hK K)
        | (show WOpsT _ (⟨_, .call _ _, none⟩ :: _) _ _ _ _; first | refine T.call0 e57 rfl (hfit) ?_ | refine T.call0 e129 rfl (hs) ?_ | refine T.call0 e126 rfl (hdo) ?_)
        | (show WOpsT _ (⟨_, .ld _ _, none⟩ :: _) _ _ _ _; first | refine L.ld ?_ | refine L.ldd ?_ | refine L.ldn ?_ | refine L.lddn ?_)
        | (show WOpsT _ (⟨_, .idx _ _ _ _, none⟩ :: _) _ _ _ _; first | refine L.idxa ?_ | refine L.idxd ?_)
        | (show WOpsT _ (⟨_, .bin _ _ _, none⟩ :: _) _ _ _ _; first | refine L.bin ?_)
        | (show WOpsT _ (⟨_, _, some (_, true)⟩ :: _) _ _ _ _; first | refine L.goT ?_ | refine L.paT ?_ | refine L.go ?_ | refine L.pass ?_ | refine T.pU rfl ?_ | refine T.gT rfl (fun hgd => ?_) (fun hgd => ?_))
        | (show WOpsT _ (⟨_, _, some (_, false)⟩ :: _) _ _ _ _; first | refine L.goF ?_ | refine L.paF ?_ | refine L.go ?_ | refine L.pass ?_ | refine T.pU rfl ?_ | refine T.gF rfl (fun hgd => ?_) (fun hgd => ?_))
        | (show WOpsT _ (⟨_, .pick _ _ _, none⟩ :: _) _ _ _ _; first | refine L.pkT ?_ | refine L.pkF ?_ | refine L.pickT ?_ | refine L.pickF ?_ | refine L.pickB ?_ | refine T.pkD rfl (fun hgd => ?_) (fun hgd => ?_))
        | (show AKW _ _ _ _ _ _ _; first | refine N.now ?_)
        | (show AK _ _ (.cond _ _ _) _ _ _ _; first | refine N.c1 ?_ | refine N.c2 ?_ | refine N.c3 ?_ | refine N.c4 ?_ | refine N.condD rfl (fun hcd => ?_) (fun hcd => ?_) | refine N.condB rfl (fun hcd => ?_) (fun hcd => ?_) | refine N.condU rfl ?_ ?_)
        | (show AK _ _ _ _ _ _ _; first | refine N.seq ?_ | refine N.skip ?_ | refine N.ret ?_)
        | (show RK _ _ _ _ _ _ _; simp only [rk, rk0, reduceIte, Nat.reduceEqDiff])
        | (show WOpsT _ _ _ _ _ _; first | refine L.ext ?_ | refine T.notD rfl ?_ | refine T.not rfl ?_ | refine L.fad ?_ | refine L.fadd ?_ | refine L.st ?_ | refine L.new ?_ | refine L.zero ?_ | refine L.build ?_)
        | refine hQ _ _ _ rfl ?_
        | refine hQN _ _ _ rfl ?_)
        all_goals first
          | exact WS.drop (n := 0) rfl rfl
          | (exfalso; omega)
      | some x =>
        have hdo := doing_some c q' op2 a2 n2 hl x hd
        obtain ⟨xb, xa, xr, xs⟩ := x
        by_cases hb0 : xb = 0
        · rw [show askB c ⟨q', op2, a2, n2⟩ = (⟨q', op2, a2, n2⟩, ⟨0, 0, 0⟩) by unfold askB; dsimp only; rw [if_neg h2, hd]; dsimp only; rw [if_pos hb0]]
          dsimp only
          clear hpl hno hfr hd
          subst hb0
          refine N.fn Try.func71 k71 lb q71 fun Q hQ hQN => ?_
          rw [c71]
          repeat' (first
          | rw [co_mren]
          | rw [co_co]
          | rw [co_t12]
          | rw [co_t9]
          | rw [ri_t9]
          | rw [cp_t5]
          | rw [co_z]
          | rw [ri_mren]
          | rw [co_r]
          | rw [co_op]
          | rw [co_at]
          | rw [co_nmi]
          | refine N.regS fun K hK => ?_
          | refine N.dregS fun K hK => ?_
          | refine N.regN fun K hK => ?_
          | refine N.dregN fun K hK => ?_
          | simp only [T.mv, sm, AO.ev, put, lk, enter, reduceIte, Nat.reduceEqDiff, Nat.reduceAdd, Nat.reduceMul, Nat.reduceSub, Int.reduceNeg, Int.reduceToNat, upto, renB, setAll]
          | (refine T.nil ?_; (first | refine hK _ _ _ (by rfl) ?_ | refine hK _ _ _ ?_); (try simp only [keep, List.map, lk, reduceIte, Nat.reduceEqDiff, enter]); clear hK K)
          | (show WOpsT _ (⟨_, .call _ _, none⟩ :: _) _ _ _ _; first | refine T.call0 e57 rfl (hfit) ?_ | refine T.call0 e129 rfl (hs) ?_ | refine T.call0 e126 rfl (hdo) ?_)
          | (show WOpsT _ (⟨_, .ld _ _, none⟩ :: _) _ _ _ _; first | refine L.ld ?_ | refine L.ldd ?_ | refine L.ldn ?_ | refine L.lddn ?_)
          | (show WOpsT _ (⟨_, .idx _ _ _ _, none⟩ :: _) _ _ _ _; first | refine L.idxa ?_ | refine L.idxd ?_)
          | (show WOpsT _ (⟨_, .bin _ _ _, none⟩ :: _) _ _ _ _; first | refine L.bin ?_)
          | (show WOpsT _ (⟨_, _, some (_, true)⟩ :: _) _ _ _ _; first | refine L.goT ?_ | refine L.paT ?_ | refine L.go ?_ | refine L.pass ?_ | refine T.pU rfl ?_ | refine T.gT rfl (fun hgd => ?_) (fun hgd => ?_))
          | (show WOpsT _ (⟨_, _, some (_, false)⟩ :: _) _ _ _ _; first | refine L.goF ?_ | refine L.paF ?_ | refine L.go ?_ | refine L.pass ?_ | refine T.pU rfl ?_ | refine T.gF rfl (fun hgd => ?_) (fun hgd => ?_))
          | (show WOpsT _ (⟨_, .pick _ _ _, none⟩ :: _) _ _ _ _; first | refine L.pkT ?_ | refine L.pkF ?_ | refine L.pickT ?_ | refine L.pickF ?_ | refine L.pickB ?_ | refine T.pkD rfl (fun hgd => ?_) (fun hgd => ?_))
          | (show AKW _ _ _ _ _ _ _; first | refine N.now ?_)
          | (show AK _ _ (.cond _ _ _) _ _ _ _; first | refine N.c1 ?_ | refine N.c2 ?_ | refine N.c3 ?_ | refine N.c4 ?_ | refine N.condD rfl (fun hcd => ?_) (fun hcd => ?_) | refine N.condB rfl (fun hcd => ?_) (fun hcd => ?_) | refine N.condU rfl ?_ ?_)
          | (show AK _ _ _ _ _ _ _; first | refine N.seq ?_ | refine N.skip ?_ | refine N.ret ?_)
          | (show RK _ _ _ _ _ _ _; simp only [rk, rk0, reduceIte, Nat.reduceEqDiff])
          | (show WOpsT _ _ _ _ _ _; first | refine L.ext ?_ | refine T.notD rfl ?_ | refine T.not rfl ?_ | refine L.fad ?_ | refine L.fadd ?_ | refine L.st ?_ | refine L.new ?_ | refine L.zero ?_ | refine L.build ?_)
          | refine hQ _ _ _ rfl ?_
          | refine hQN _ _ _ rfl ?_)
          all_goals first
            | exact WS.drop (n := 0) rfl rfl
            | (exfalso; omega)
        obtain ⟨ad, q2, e1, hp⟩ := hpl xa
        rw [show askB c ⟨q', op2, a2, n2⟩ = (⟨q2, op2, a2, n2⟩, ⟨xb, ad, dataM ⟨xb, xa, xr, xs⟩ q'⟩) by unfold askB; dsimp only; rw [if_neg h2, hd]; dsimp only; rw [if_neg hb0, e1]]
        dsimp only
        clear hpl hno hfr hd e1
        unfold dataM
        dsimp only
        by_cases hw : xb = 2 ∧ 0 ≤ xr ∧ xr < 9
        · rw [if_pos hw]
          have e5 : 0 + xr.toNat * 1 = xr.toNat := by omega
          have hx9 : xr.toNat < 9 := by omega
          refine N.fn Try.func71 k71 lb q71 fun Q hQ hQN => ?_
          rw [c71]
          repeat' (first
          | rw [co_mren]
          | rw [co_co]
          | rw [co_t12]
          | rw [co_t9]
          | rw [ri_t9]
          | rw [cp_t5]
          | rw [co_z]
          | rw [ri_mren]
          | rw [co_r]
          | rw [co_op]
          | rw [co_at]
          | rw [co_nmi]
          | rw [e5]
          | (show WOpsT _ (⟨_, .ld _ _, none⟩ :: _) _ _ _ _; refine T.ld rfl rfl rfl rfl (co_get _ _ _ _ _ hx9) ?_)
          | refine N.regS fun K hK => ?_
          | refine N.dregS fun K hK => ?_
          | refine N.regN fun K hK => ?_
          | refine N.dregN fun K hK => ?_
          | simp only [T.mv, sm, AO.ev, put, lk, enter, reduceIte, Nat.reduceEqDiff, Nat.reduceAdd, Nat.reduceMul, Nat.reduceSub, Int.reduceNeg, Int.reduceToNat, upto, renB, setAll]
          | (refine T.nil ?_; (first | refine hK _ _ _ (by rfl) ?_ | refine hK _ _ _ ?_); (try simp only [keep, List.map, lk, reduceIte, Nat.reduceEqDiff, enter]); clear hK K)
          | (show WOpsT _ (⟨_, .call _ _, none⟩ :: _) _ _ _ _; first | refine T.call0 e57 rfl (hfit) ?_ | refine T.call0 e129 rfl (hs) ?_ | refine T.call0 e126 rfl (hdo) ?_ | refine T.call0 e130 rfl (hp) ?_ | refine T.call0 e35 rfl (low8 _) ?_)
          | (show WOpsT _ (⟨_, .ld _ _, none⟩ :: _) _ _ _ _; first | refine L.ld ?_ | refine L.ldd ?_ | refine L.ldn ?_ | refine L.lddn ?_)
          | (show WOpsT _ (⟨_, .idx _ _ _ _, none⟩ :: _) _ _ _ _; first | refine L.idxa ?_ | refine L.idxd ?_)
          | (show WOpsT _ (⟨_, .bin _ _ _, none⟩ :: _) _ _ _ _; first | refine L.bin ?_)
          | (show WOpsT _ (⟨_, _, some (_, true)⟩ :: _) _ _ _ _; first | refine L.goT ?_ | refine L.paT ?_ | refine L.go ?_ | refine L.pass ?_ | refine T.pU rfl ?_ | refine T.gT rfl (fun hgd => ?_) (fun hgd => ?_))
          | (show WOpsT _ (⟨_, _, some (_, false)⟩ :: _) _ _ _ _; first | refine L.goF ?_ | refine L.paF ?_ | refine L.go ?_ | refine L.pass ?_ | refine T.pU rfl ?_ | refine T.gF rfl (fun hgd => ?_) (fun hgd => ?_))
          | (show WOpsT _ (⟨_, .pick _ _ _, none⟩ :: _) _ _ _ _; first | refine L.pkT ?_ | refine L.pkF ?_ | refine L.pickT ?_ | refine L.pickF ?_ | refine L.pickB ?_ | refine T.pkD rfl (fun hgd => ?_) (fun hgd => ?_))
          | (show AKW _ _ _ _ _ _ _; first | refine N.now ?_)
          | (show AK _ _ (.cond _ _ _) _ _ _ _; first | refine N.c1 ?_ | refine N.c2 ?_ | refine N.c3 ?_ | refine N.c4 ?_ | refine N.condD rfl (fun hcd => ?_) (fun hcd => ?_) | refine N.condB rfl (fun hcd => ?_) (fun hcd => ?_) | refine N.condU rfl ?_ ?_)
          | (show AK _ _ _ _ _ _ _; first | refine N.seq ?_ | refine N.skip ?_ | refine N.ret ?_)
          | (show RK _ _ _ _ _ _ _; simp only [rk, rk0, reduceIte, Nat.reduceEqDiff])
          | (show WOpsT _ _ _ _ _ _; first | refine L.ext ?_ | refine T.notD rfl ?_ | refine T.not rfl ?_ | refine L.fad ?_ | refine L.fadd ?_ | refine L.st ?_ | refine L.new ?_ | refine L.zero ?_ | refine L.build ?_)
          | refine hQ _ _ _ rfl ?_
          | refine hQN _ _ _ rfl ?_)
          all_goals first
            | exact WS.drop (n := 0) rfl rfl
            | (exfalso; omega)
        · rw [if_neg hw]
          refine N.fn Try.func71 k71 lb q71 fun Q hQ hQN => ?_
          rw [c71]
          repeat' (first
          | rw [co_mren]
          | rw [co_co]
          | rw [co_t12]
          | rw [co_t9]
          | rw [ri_t9]
          | rw [cp_t5]
          | rw [co_z]
          | rw [ri_mren]
          | rw [co_r]
          | rw [co_op]
          | rw [co_at]
          | rw [co_nmi]
          | refine N.regS fun K hK => ?_
          | refine N.dregS fun K hK => ?_
          | refine N.regN fun K hK => ?_
          | refine N.dregN fun K hK => ?_
          | simp only [T.mv, sm, AO.ev, put, lk, enter, reduceIte, Nat.reduceEqDiff, Nat.reduceAdd, Nat.reduceMul, Nat.reduceSub, Int.reduceNeg, Int.reduceToNat, upto, renB, setAll]
          | (refine T.nil ?_; (first | refine hK _ _ _ (by rfl) ?_ | refine hK _ _ _ ?_); (try simp only [keep, List.map, lk, reduceIte, Nat.reduceEqDiff, enter]); clear hK K)
          | (show WOpsT _ (⟨_, .call _ _, none⟩ :: _) _ _ _ _; first | refine T.call0 e57 rfl (hfit) ?_ | refine T.call0 e129 rfl (hs) ?_ | refine T.call0 e126 rfl (hdo) ?_ | refine T.call0 e130 rfl (hp) ?_)
          | (show WOpsT _ (⟨_, .ld _ _, none⟩ :: _) _ _ _ _; first | refine L.ld ?_ | refine L.ldd ?_ | refine L.ldn ?_ | refine L.lddn ?_)
          | (show WOpsT _ (⟨_, .idx _ _ _ _, none⟩ :: _) _ _ _ _; first | refine L.idxa ?_ | refine L.idxd ?_)
          | (show WOpsT _ (⟨_, .bin _ _ _, none⟩ :: _) _ _ _ _; first | refine L.bin ?_)
          | (show WOpsT _ (⟨_, _, some (_, true)⟩ :: _) _ _ _ _; first | refine L.goT ?_ | refine L.paT ?_ | refine L.go ?_ | refine L.pass ?_ | refine T.pU rfl ?_ | refine T.gT rfl (fun hgd => ?_) (fun hgd => ?_))
          | (show WOpsT _ (⟨_, _, some (_, false)⟩ :: _) _ _ _ _; first | refine L.goF ?_ | refine L.paF ?_ | refine L.go ?_ | refine L.pass ?_ | refine T.pU rfl ?_ | refine T.gF rfl (fun hgd => ?_) (fun hgd => ?_))
          | (show WOpsT _ (⟨_, .pick _ _ _, none⟩ :: _) _ _ _ _; first | refine L.pkT ?_ | refine L.pkF ?_ | refine L.pickT ?_ | refine L.pickF ?_ | refine L.pickB ?_ | refine T.pkD rfl (fun hgd => ?_) (fun hgd => ?_))
          | (show AKW _ _ _ _ _ _ _; first | refine N.now ?_)
          | (show AK _ _ (.cond _ _ _) _ _ _ _; first | refine N.c1 ?_ | refine N.c2 ?_ | refine N.c3 ?_ | refine N.c4 ?_ | refine N.condD rfl (fun hcd => ?_) (fun hcd => ?_) | refine N.condB rfl (fun hcd => ?_) (fun hcd => ?_) | refine N.condU rfl ?_ ?_)
          | (show AK _ _ _ _ _ _ _; first | refine N.seq ?_ | refine N.skip ?_ | refine N.ret ?_)
          | (show RK _ _ _ _ _ _ _; simp only [rk, rk0, reduceIte, Nat.reduceEqDiff])
          | (show WOpsT _ _ _ _ _ _; first | refine L.ext ?_ | refine T.notD rfl ?_ | refine T.not rfl ?_ | refine L.fad ?_ | refine L.fadd ?_ | refine L.st ?_ | refine L.new ?_ | refine L.zero ?_ | refine L.build ?_)
          | refine hQ _ _ _ rfl ?_
          | refine hQN _ _ _ rfl ?_)
          all_goals first
            | exact WS.drop (n := 0) rfl rfl
            | (exfalso; omega)
  · have e := hno h1
    rw [Core.mk.injEq] at e
    obtain ⟨-, e2, e3, e4⟩ := e
    subst e2 e3 e4
    have h2 := h1
    clear hs
    cases hd : doingM c op2 a2 with
    | none =>
      have hdo := doing_none c q' op2 a2 n2 hl hd
      rw [show askB c ⟨q', op2, a2, n2⟩ = (⟨q', op2, a2, n2⟩, ⟨0, 0, 0⟩) by unfold askB; dsimp only; rw [if_neg h2, hd]]
      dsimp only
      clear hpl hno hfr
      refine N.fn Try.func71 k71 lb q71 fun Q hQ hQN => ?_
      rw [c71]
      repeat' (first
      | rw [co_mren]
      | rw [co_co]
      | rw [co_t12]
      | rw [co_t9]
      | rw [ri_t9]
      | rw [cp_t5]
      | rw [co_z]
      | rw [ri_mren]
      | rw [co_r]
      | rw [co_op]
      | rw [co_at]
      | rw [co_nmi]
      | refine N.regS fun K hK => ?_
      | refine N.dregS fun K hK => ?_
      | refine N.regN fun K hK => ?_
      | refine N.dregN fun K hK => ?_
      | simp only [T.mv, sm, AO.ev, put, lk, enter, reduceIte, Nat.reduceEqDiff, Nat.reduceAdd, Nat.reduceMul, Nat.reduceSub, Int.reduceNeg, Int.reduceToNat, upto, renB, setAll]
      | (refine T.nil ?_; (first | refine hK _ _ _ (by rfl) ?_ | refine hK _ _ _ ?_); (try simp only [keep, List.map, lk, reduceIte, Nat.reduceEqDiff, enter]); clear hK K)
      | (show WOpsT _ (⟨_, .call _ _, none⟩ :: _) _ _ _ _; first | refine T.call0 e57 rfl (hfit) ?_ | refine T.call0 e126 rfl (hdo) ?_)
      | (show WOpsT _ (⟨_, .ld _ _, none⟩ :: _) _ _ _ _; first | refine L.ld ?_ | refine L.ldd ?_ | refine L.ldn ?_ | refine L.lddn ?_)
      | (show WOpsT _ (⟨_, .idx _ _ _ _, none⟩ :: _) _ _ _ _; first | refine L.idxa ?_ | refine L.idxd ?_)
      | (show WOpsT _ (⟨_, .bin _ _ _, none⟩ :: _) _ _ _ _; first | refine L.bin ?_)
      | (show WOpsT _ (⟨_, _, some (_, true)⟩ :: _) _ _ _ _; first | refine L.goT ?_ | refine L.paT ?_ | refine L.go ?_ | refine L.pass ?_ | refine T.pU rfl ?_ | refine T.gT rfl (fun hgd => ?_) (fun hgd => ?_))
      | (show WOpsT _ (⟨_, _, some (_, false)⟩ :: _) _ _ _ _; first | refine L.goF ?_ | refine L.paF ?_ | refine L.go ?_ | refine L.pass ?_ | refine T.pU rfl ?_ | refine T.gF rfl (fun hgd => ?_) (fun hgd => ?_))
      | (show WOpsT _ (⟨_, .pick _ _ _, none⟩ :: _) _ _ _ _; first | refine L.pkT ?_ | refine L.pkF ?_ | refine L.pickT ?_ | refine L.pickF ?_ | refine L.pickB ?_ | refine T.pkD rfl (fun hgd => ?_) (fun hgd => ?_))
      | (show AKW _ _ _ _ _ _ _; first | refine N.now ?_)
      | (show AK _ _ (.cond _ _ _) _ _ _ _; first | refine N.c1 ?_ | refine N.c2 ?_ | refine N.c3 ?_ | refine N.c4 ?_ | refine N.condD rfl (fun hcd => ?_) (fun hcd => ?_) | refine N.condB rfl (fun hcd => ?_) (fun hcd => ?_) | refine N.condU rfl ?_ ?_)
      | (show AK _ _ _ _ _ _ _; first | refine N.seq ?_ | refine N.skip ?_ | refine N.ret ?_)
      | (show RK _ _ _ _ _ _ _; simp only [rk, rk0, reduceIte, Nat.reduceEqDiff])
      | (show WOpsT _ _ _ _ _ _; first | refine L.ext ?_ | refine T.notD rfl ?_ | refine T.not rfl ?_ | refine L.fad ?_ | refine L.fadd ?_ | refine L.st ?_ | refine L.new ?_ | refine L.zero ?_ | refine L.build ?_)
      | refine hQ _ _ _ rfl ?_
      | refine hQN _ _ _ rfl ?_)
      all_goals first
        | exact WS.drop (n := 0) rfl rfl
        | (exfalso; omega)
    | some x =>
      have hdo := doing_some c q' op2 a2 n2 hl x hd
      obtain ⟨xb, xa, xr, xs⟩ := x
      by_cases hb0 : xb = 0
      · rw [show askB c ⟨q', op2, a2, n2⟩ = (⟨q', op2, a2, n2⟩, ⟨0, 0, 0⟩) by unfold askB; dsimp only; rw [if_neg h2, hd]; dsimp only; rw [if_pos hb0]]
        dsimp only
        clear hpl hno hfr hd
        subst hb0
        refine N.fn Try.func71 k71 lb q71 fun Q hQ hQN => ?_
        rw [c71]
        repeat' (first
        | rw [co_mren]
        | rw [co_co]
        | rw [co_t12]
        | rw [co_t9]
        | rw [ri_t9]
        | rw [cp_t5]
        | rw [co_z]
        | rw [ri_mren]
        | rw [co_r]
        | rw [co_op]
        | rw [co_at]
        | rw [co_nmi]
        | refine N.regS fun K hK => ?_
        | refine N.dregS fun K hK => ?_
        | refine N.regN fun K hK => ?_
        | refine N.dregN fun K hK => ?_
        | simp only [T.mv, sm, AO.ev, put, lk, enter, reduceIte, Nat.reduceEqDiff, Nat.reduceAdd, Nat.reduceMul, Nat.reduceSub, Int.reduceNeg, Int.reduceToNat, upto, renB, setAll]
        | (refine T.nil ?_; (first | refine hK _ _ _ (by rfl) ?_ | refine hK _ _ _ ?_); (try simp only [keep, List.map, lk, reduceIte, Nat.reduceEqDiff, enter]); clear hK K)
        | (show WOpsT _ (⟨_, .call _ _, none⟩ :: _) _ _ _ _; first | refine T.call0 e57 rfl (hfit) ?_ | refine T.call0 e126 rfl (hdo) ?_)
        | (show WOpsT _ (⟨_, .ld _ _, none⟩ :: _) _ _ _ _; first | refine L.ld ?_ | refine L.ldd ?_ | refine L.ldn ?_ | refine L.lddn ?_)
        | (show WOpsT _ (⟨_, .idx _ _ _ _, none⟩ :: _) _ _ _ _; first | refine L.idxa ?_ | refine L.idxd ?_)
        | (show WOpsT _ (⟨_, .bin _ _ _, none⟩ :: _) _ _ _ _; first | refine L.bin ?_)
        | (show WOpsT _ (⟨_, _, some (_, true)⟩ :: _) _ _ _ _; first | refine L.goT ?_ | refine L.paT ?_ | refine L.go ?_ | refine L.pass ?_ | refine T.pU rfl ?_ | refine T.gT rfl (fun hgd => ?_) (fun hgd => ?_))
        | (show WOpsT _ (⟨_, _, some (_, false)⟩ :: _) _ _ _ _; first | refine L.goF ?_ | refine L.paF ?_ | refine L.go ?_ | refine L.pass ?_ | refine T.pU rfl ?_ | refine T.gF rfl (fun hgd => ?_) (fun hgd => ?_))
        | (show WOpsT _ (⟨_, .pick _ _ _, none⟩ :: _) _ _ _ _; first | refine L.pkT ?_ | refine L.pkF ?_ | refine L.pickT ?_ | refine L.pickF ?_ | refine L.pickB ?_ | refine T.pkD rfl (fun hgd => ?_) (fun hgd => ?_))
        | (show AKW _ _ _ _ _ _ _; first | refine N.now ?_)
        | (show AK _ _ (.cond _ _ _) _ _ _ _; first | refine N.c1 ?_ | refine N.c2 ?_ | refine N.c3 ?_ | refine N.c4 ?_ | refine N.condD rfl (fun hcd => ?_) (fun hcd => ?_) | refine N.condB rfl (fun hcd => ?_) (fun hcd => ?_) | refine N.condU rfl ?_ ?_)
        | (show AK _ _ _ _ _ _ _; first | refine N.seq ?_ | refine N.skip ?_ | refine N.ret ?_)
        | (show RK _ _ _ _ _ _ _; simp only [rk, rk0, reduceIte, Nat.reduceEqDiff])
        | (show WOpsT _ _ _ _ _ _; first | refine L.ext ?_ | refine T.notD rfl ?_ | refine T.not rfl ?_ | refine L.fad ?_ | refine L.fadd ?_ | refine L.st ?_ | refine L.new ?_ | refine L.zero ?_ | refine L.build ?_)
        | refine hQ _ _ _ rfl ?_
        | refine hQN _ _ _ rfl ?_)
        all_goals first
          | exact WS.drop (n := 0) rfl rfl
          | (exfalso; omega)
      obtain ⟨ad, q2, e1, hp⟩ := hpl xa
      rw [show askB c ⟨q', op2, a2, n2⟩ = (⟨q2, op2, a2, n2⟩, ⟨xb, ad, dataM ⟨xb, xa, xr, xs⟩ q'⟩) by unfold askB; dsimp only; rw [if_neg h2, hd]; dsimp only; rw [if_neg hb0, e1]]
      dsimp only
      clear hpl hno hfr hd e1
      unfold dataM
      dsimp only
      by_cases hw : xb = 2 ∧ 0 ≤ xr ∧ xr < 9
      · rw [if_pos hw]
        have e5 : 0 + xr.toNat * 1 = xr.toNat := by omega
        have hx9 : xr.toNat < 9 := by omega
        refine N.fn Try.func71 k71 lb q71 fun Q hQ hQN => ?_
        rw [c71]
        repeat' (first
        | rw [co_mren]
        | rw [co_co]
        | rw [co_t12]
        | rw [co_t9]
        | rw [ri_t9]
        | rw [cp_t5]
        | rw [co_z]
        | rw [ri_mren]
        | rw [co_r]
        | rw [co_op]
        | rw [co_at]
        | rw [co_nmi]
        | rw [e5]
        | (show WOpsT _ (⟨_, .ld _ _, none⟩ :: _) _ _ _ _; refine T.ld rfl rfl rfl rfl (co_get _ _ _ _ _ hx9) ?_)
        | refine N.regS fun K hK => ?_
        | refine N.dregS fun K hK => ?_
        | refine N.regN fun K hK => ?_
        | refine N.dregN fun K hK => ?_
        | simp only [T.mv, sm, AO.ev, put, lk, enter, reduceIte, Nat.reduceEqDiff, Nat.reduceAdd, Nat.reduceMul, Nat.reduceSub, Int.reduceNeg, Int.reduceToNat, upto, renB, setAll]
        | (refine T.nil ?_; (first | refine hK _ _ _ (by rfl) ?_ | refine hK _ _ _ ?_); (try simp only [keep, List.map, lk, reduceIte, Nat.reduceEqDiff, enter]); clear hK K)
        | (show WOpsT _ (⟨_, .call _ _, none⟩ :: _) _ _ _ _; first | refine T.call0 e57 rfl (hfit) ?_ | refine T.call0 e126 rfl (hdo) ?_ | refine T.call0 e130 rfl (hp) ?_ | refine T.call0 e35 rfl (low8 _) ?_)
        | (show WOpsT _ (⟨_, .ld _ _, none⟩ :: _) _ _ _ _; first | refine L.ld ?_ | refine L.ldd ?_ | refine L.ldn ?_ | refine L.lddn ?_)
        | (show WOpsT _ (⟨_, .idx _ _ _ _, none⟩ :: _) _ _ _ _; first | refine L.idxa ?_ | refine L.idxd ?_)
        | (show WOpsT _ (⟨_, .bin _ _ _, none⟩ :: _) _ _ _ _; first | refine L.bin ?_)
        | (show WOpsT _ (⟨_, _, some (_, true)⟩ :: _) _ _ _ _; first | refine L.goT ?_ | refine L.paT ?_ | refine L.go ?_ | refine L.pass ?_ | refine T.pU rfl ?_ | refine T.gT rfl (fun hgd => ?_) (fun hgd => ?_))
        | (show WOpsT _ (⟨_, _, some (_, false)⟩ :: _) _ _ _ _; first | refine L.goF ?_ | refine L.paF ?_ | refine L.go ?_ | refine L.pass ?_ | refine T.pU rfl ?_ | refine T.gF rfl (fun hgd => ?_) (fun hgd => ?_))
        | (show WOpsT _ (⟨_, .pick _ _ _, none⟩ :: _) _ _ _ _; first | refine L.pkT ?_ | refine L.pkF ?_ | refine L.pickT ?_ | refine L.pickF ?_ | refine L.pickB ?_ | refine T.pkD rfl (fun hgd => ?_) (fun hgd => ?_))
        | (show AKW _ _ _ _ _ _ _; first | refine N.now ?_)
        | (show AK _ _ (.cond _ _ _) _ _ _ _; first | refine N.c1 ?_ | refine N.c2 ?_ | refine N.c3 ?_ | refine N.c4 ?_ | refine N.condD rfl (fun hcd => ?_) (fun hcd => ?_) | refine N.condB rfl (fun hcd => ?_) (fun hcd => ?_) | refine N.condU rfl ?_ ?_)
        | (show AK _ _ _ _ _ _ _; first | refine N.seq ?_ | refine N.skip ?_ | refine N.ret ?_)
        | (show RK _ _ _ _ _ _ _; simp only [rk, rk0, reduceIte, Nat.reduceEqDiff])
        | (show WOpsT _ _ _ _ _ _; first | refine L.ext ?_ | refine T.notD rfl ?_ | refine T.not rfl ?_ | refine L.fad ?_ | refine L.fadd ?_ | refine L.st ?_ | refine L.new ?_ | refine L.zero ?_ | refine L.build ?_)
        | refine hQ _ _ _ rfl ?_
        | refine hQN _ _ _ rfl ?_)
        all_goals first
          | exact WS.drop (n := 0) rfl rfl
          | (exfalso; omega)
      · rw [if_neg hw]
        refine N.fn Try.func71 k71 lb q71 fun Q hQ hQN => ?_
        rw [c71]
        repeat' (first
        | rw [co_mren]
        | rw [co_co]
        | rw [co_t12]
        | rw [co_t9]
        | rw [ri_t9]
        | rw [cp_t5]
        | rw [co_z]
        | rw [ri_mren]
        | rw [co_r]
        | rw [co_op]
        | rw [co_at]
        | rw [co_nmi]
        | refine N.regS fun K hK => ?_
        | refine N.dregS fun K hK => ?_
        | refine N.regN fun K hK => ?_
        | refine N.dregN fun K hK => ?_
        | simp only [T.mv, sm, AO.ev, put, lk, enter, reduceIte, Nat.reduceEqDiff, Nat.reduceAdd, Nat.reduceMul, Nat.reduceSub, Int.reduceNeg, Int.reduceToNat, upto, renB, setAll]
        | (refine T.nil ?_; (first | refine hK _ _ _ (by rfl) ?_ | refine hK _ _ _ ?_); (try simp only [keep, List.map, lk, reduceIte, Nat.reduceEqDiff, enter]); clear hK K)
        | (show WOpsT _ (⟨_, .call _ _, none⟩ :: _) _ _ _ _; first | refine T.call0 e57 rfl (hfit) ?_ | refine T.call0 e126 rfl (hdo) ?_ | refine T.call0 e130 rfl (hp) ?_)
        | (show WOpsT _ (⟨_, .ld _ _, none⟩ :: _) _ _ _ _; first | refine L.ld ?_ | refine L.ldd ?_ | refine L.ldn ?_ | refine L.lddn ?_)
        | (show WOpsT _ (⟨_, .idx _ _ _ _, none⟩ :: _) _ _ _ _; first | refine L.idxa ?_ | refine L.idxd ?_)
        | (show WOpsT _ (⟨_, .bin _ _ _, none⟩ :: _) _ _ _ _; first | refine L.bin ?_)
        | (show WOpsT _ (⟨_, _, some (_, true)⟩ :: _) _ _ _ _; first | refine L.goT ?_ | refine L.paT ?_ | refine L.go ?_ | refine L.pass ?_ | refine T.pU rfl ?_ | refine T.gT rfl (fun hgd => ?_) (fun hgd => ?_))
        | (show WOpsT _ (⟨_, _, some (_, false)⟩ :: _) _ _ _ _; first | refine L.goF ?_ | refine L.paF ?_ | refine L.go ?_ | refine L.pass ?_ | refine T.pU rfl ?_ | refine T.gF rfl (fun hgd => ?_) (fun hgd => ?_))
        | (show WOpsT _ (⟨_, .pick _ _ _, none⟩ :: _) _ _ _ _; first | refine L.pkT ?_ | refine L.pkF ?_ | refine L.pickT ?_ | refine L.pickF ?_ | refine L.pickB ?_ | refine T.pkD rfl (fun hgd => ?_) (fun hgd => ?_))
        | (show AKW _ _ _ _ _ _ _; first | refine N.now ?_)
        | (show AK _ _ (.cond _ _ _) _ _ _ _; first | refine N.c1 ?_ | refine N.c2 ?_ | refine N.c3 ?_ | refine N.c4 ?_ | refine N.condD rfl (fun hcd => ?_) (fun hcd => ?_) | refine N.condB rfl (fun hcd => ?_) (fun hcd => ?_) | refine N.condU rfl ?_ ?_)
        | (show AK _ _ _ _ _ _ _; first | refine N.seq ?_ | refine N.skip ?_ | refine N.ret ?_)
        | (show RK _ _ _ _ _ _ _; simp only [rk, rk0, reduceIte, Nat.reduceEqDiff])
        | (show WOpsT _ _ _ _ _ _; first | refine L.ext ?_ | refine T.notD rfl ?_ | refine T.not rfl ?_ | refine L.fad ?_ | refine L.fadd ?_ | refine L.st ?_ | refine L.new ?_ | refine L.zero ?_ | refine L.build ?_)
        | refine hQ _ _ _ rfl ?_
        | refine hQN _ _ _ rfl ?_)
        all_goals first
          | exact WS.drop (n := 0) rfl rfl
          | (exfalso; omega)
end Go.Proofs.Ytjmmompbmjhkpaa.Calc

namespace Go.Proofs.Ytjmmompbmjhkpaa.Calc
open Go Code
set_option linter.unusedSimpArgs false
set_option linter.unusedVariables false
set_option maxRecDepth 20000
set_option maxHeartbeats 4000000
attribute [local irreducible] WOpsT AW AK RK AKW UK UC
theorem cycM_sml (c : Cpu) (hc : SmlP c) (op : Int) : SmlC (cycM c op) := by
  obtain ⟨h1, h2, h3, h4, h5⟩ := hc
  unfold cycM
  split
  · exact h4
  split
  · exact h5
  split
  · exact h3
  split
  · split
    · split
      · rename_i x hx
        exact h2 x (List.mem_of_getElem? hx)
      · exact ⟨by simp, by simp⟩
    · exact ⟨by simp, by simp⟩
  · exact ⟨by simp, by simp⟩
theorem stepsM_drop (l : List Stp) (i : Nat) (hi : i < l.length) (r : Nat → Int) : stepsM (l.drop i) r = if (doR l[i].op l[i].to l[i].fr l[i].n r).2 = true then ((doR l[i].op l[i].to l[i].fr l[i].n r).1, true) else stepsM (l.drop (i + 1)) (doR l[i].op l[i].to l[i].fr l[i].n r).1 := by
  rw [List.drop_eq_getElem_cons hi]; rfl
theorem tell_c (c : Cpu) (hc : SmlP c) (k : Core) (data : Int) : FnE Try.prog 69 [.agg (cpC c), .agg (coC k), I data] [] (.agg (coC (tellM c k data))) [] := by
  obtain ⟨r, op, a, nmi⟩ := k
  have hfit := Fit_ok r
  have hlow := low8 data
  have hlen := hc.1
  unfold tellM
  dsimp only
  show FnE _ _ [.agg (cpC c), .agg (coA r op a nmi), I data] [] _ []
  generalize fitR r = q at *
  generalize data % 256 = d at *
  by_cases h1 : op = -1
  · rw [if_pos h1]
    subst h1
    have hf := find_ok c hc d
    unfold tellA
    generalize gotM (fun x => decide (x.op = d)) c.ins = g at *
    obtain ⟨⟨o, s, m, cy⟩, ok⟩ := g
    dsimp only at hf ⊢
    cases ok
    · rw [if_pos rfl]
      refine N.fn Try.func69 k69 lb q69 fun Q hQ hQN => ?_
      rw [c69]
      repeat' (first
      | rw [co_mren]
      | rw [co_co]
      | rw [co_t12]
      | rw [co_t9]
      | rw [ri_t9]
      | rw [cp_t5]
      | rw [co_z]
      | rw [ri_mren]
      | rw [co_r]
      | rw [co_op]
      | rw [co_at]
      | rw [co_nmi]
      | rw [ri_splz]
      | rw [List.length_map]
      | refine N.regS fun K hK => ?_
      | refine N.dregS fun K hK => ?_
      | refine N.regN fun K hK => ?_
      | refine N.dregN fun K hK => ?_
      | simp only [T.mv, sm, AO.ev, put, lk, enter, reduceIte, Nat.reduceEqDiff, Nat.reduceAdd, Nat.reduceMul, Nat.reduceSub, Int.reduceNeg, Int.reduceToNat, upto, renB, setAll]
      | (refine T.nil ?_; (first | refine hK _ _ _ (by rfl) ?_ | refine hK _ _ _ ?_); (try simp only [keep, List.map, lk, reduceIte, Nat.reduceEqDiff, enter]); clear hK K)
      | (show WOpsT _ (⟨_, .call _ _, none⟩ :: _) _ _ _ _; first | refine T.call0 e35 rfl (hlow) ?_ | refine T.call0 e57 rfl (hfit) ?_ | refine T.call0 e62 rfl (hf) ?_)
      | (show WOpsT _ (⟨_, .ld _ _, none⟩ :: _) _ _ _ _; first | refine L.ld ?_ | refine L.ldd ?_ | refine L.ldn ?_ | refine L.lddn ?_)
      | (show WOpsT _ (⟨_, .idx _ _ _ _, none⟩ :: _) _ _ _ _; first | refine L.idx ?_ | refine L.idxs ?_ | refine L.idxa ?_ | refine L.idxd ?_)
      | (show WOpsT _ (⟨_, .bin _ _ _, none⟩ :: _) _ _ _ _; first | refine L.add ?_ | refine L.bin ?_)
      | (show WOpsT _ (⟨_, _, some (_, true)⟩ :: _) _ _ _ _; first | refine L.goT ?_ | refine L.paT ?_ | refine L.go ?_ | refine L.pass ?_ | refine T.pU rfl ?_ | refine T.gT rfl (fun hgd => ?_) (fun hgd => ?_))
      | (show WOpsT _ (⟨_, .pick _ _ _, none⟩ :: _) _ _ _ _; first | refine L.pkT ?_ | refine L.pkF ?_ | refine L.pickT ?_ | refine L.pickF ?_ | refine L.pickB ?_ | refine T.pkD rfl (fun hgd => ?_) (fun hgd => ?_))
      | (show AKW _ _ _ _ _ _ _; first | refine N.now ?_)
      | (show AK _ _ (.cond _ _ _) _ _ _ _; first | refine N.c1 ?_ | refine N.c2 ?_ | refine N.c3 ?_ | refine N.c4 ?_ | refine N.condD rfl (fun hcd => ?_) (fun hcd => ?_) | refine N.condB rfl (fun hcd => ?_) (fun hcd => ?_) | refine N.condU rfl ?_ ?_)
      | (show AK _ _ _ _ _ _ _; first | refine N.seq ?_ | refine N.block ?_ | refine N.skip ?_ | refine N.exit ?_ | refine N.ret ?_)
      | (show RK _ _ _ _ _ _ _; simp only [rk, rk0, reduceIte, Nat.reduceEqDiff])
      | (show WOpsT _ _ _ _ _ _; first | refine L.ext ?_ | refine T.notD rfl ?_ | refine T.not rfl ?_ | refine L.fad ?_ | refine L.fadd ?_ | refine L.st ?_ | refine L.new ?_ | refine L.zero ?_ | refine L.len ?_ | refine L.lenS ?_ | refine L.lenN ?_)
      | refine hQ _ _ _ rfl ?_
      | refine hQN _ _ _ rfl ?_)
      all_goals first
        | exact WS.drop (n := 0) rfl rfl
        | (exfalso; omega)
    · rw [if_neg (by decide)]
      by_cases hy : 0 < cy.length
      · rw [if_pos hy]
        refine N.fn Try.func69 k69 lb q69 fun Q hQ hQN => ?_
        rw [c69]
        repeat' (first
        | rw [co_mren]
        | rw [co_co]
        | rw [co_t12]
        | rw [co_t9]
        | rw [ri_t9]
        | rw [cp_t5]
        | rw [co_z]
        | rw [ri_mren]
        | rw [co_r]
        | rw [co_op]
        | rw [co_at]
        | rw [co_nmi]
        | rw [ri_splz]
        | rw [List.length_map]
        | refine N.regS fun K hK => ?_
        | refine N.dregS fun K hK => ?_
        | refine N.regN fun K hK => ?_
        | refine N.dregN fun K hK => ?_
        | simp only [T.mv, sm, AO.ev, put, lk, enter, reduceIte, Nat.reduceEqDiff, Nat.reduceAdd, Nat.reduceMul, Nat.reduceSub, Int.reduceNeg, Int.reduceToNat, upto, renB, setAll]
        | (refine T.nil ?_; (first | refine hK _ _ _ (by rfl) ?_ | refine hK _ _ _ ?_); (try simp only [keep, List.map, lk, reduceIte, Nat.reduceEqDiff, enter]); clear hK K)
        | (show WOpsT _ (⟨_, .call _ _, none⟩ :: _) _ _ _ _; first | refine T.call0 e35 rfl (hlow) ?_ | refine T.call0 e57 rfl (hfit) ?_ | refine T.call0 e62 rfl (hf) ?_)
        | (show WOpsT _ (⟨_, .ld _ _, none⟩ :: _) _ _ _ _; first | refine L.ld ?_ | refine L.ldd ?_ | refine L.ldn ?_ | refine L.lddn ?_)
        | (show WOpsT _ (⟨_, .idx _ _ _ _, none⟩ :: _) _ _ _ _; first | refine L.idx ?_ | refine L.idxs ?_ | refine L.idxa ?_ | refine L.idxd ?_)
        | (show WOpsT _ (⟨_, .bin _ _ _, none⟩ :: _) _ _ _ _; first | refine L.add ?_ | refine L.bin ?_)
        | (show WOpsT _ (⟨_, _, some (_, true)⟩ :: _) _ _ _ _; first | refine L.goT ?_ | refine L.paT ?_ | refine L.go ?_ | refine L.pass ?_ | refine T.pU rfl ?_ | refine T.gT rfl (fun hgd => ?_) (fun hgd => ?_))
        | (show WOpsT _ (⟨_, .pick _ _ _, none⟩ :: _) _ _ _ _; first | refine L.pkT ?_ | refine L.pkF ?_ | refine L.pickT ?_ | refine L.pickF ?_ | refine L.pickB ?_ | refine T.pkD rfl (fun hgd => ?_) (fun hgd => ?_))
        | (show AKW _ _ _ _ _ _ _; first | refine N.now ?_)
        | (show AK _ _ (.cond _ _ _) _ _ _ _; first | refine N.c1 ?_ | refine N.c2 ?_ | refine N.c3 ?_ | refine N.c4 ?_ | refine N.condD rfl (fun hcd => ?_) (fun hcd => ?_) | refine N.condB rfl (fun hcd => ?_) (fun hcd => ?_) | refine N.condU rfl ?_ ?_)
        | (show AK _ _ _ _ _ _ _; first | refine N.seq ?_ | refine N.block ?_ | refine N.skip ?_ | refine N.exit ?_ | refine N.ret ?_)
        | (show RK _ _ _ _ _ _ _; simp only [rk, rk0, reduceIte, Nat.reduceEqDiff])
        | (show WOpsT _ _ _ _ _ _; first | refine L.ext ?_ | refine T.notD rfl ?_ | refine T.not rfl ?_ | refine L.fad ?_ | refine L.fadd ?_ | refine L.st ?_ | refine L.new ?_ | refine L.zero ?_ | refine L.len ?_ | refine L.lenS ?_ | refine L.lenN ?_)
        | refine hQ _ _ _ rfl ?_
        | refine hQN _ _ _ rfl ?_)
        all_goals first
          | exact WS.drop (n := 0) rfl rfl
          | (exfalso; omega)
      · rw [if_neg hy]
        refine N.fn Try.func69 k69 lb q69 fun Q hQ hQN => ?_
        rw [c69]
        repeat' (first
        | rw [co_mren]
        | rw [co_co]
        | rw [co_t12]
        | rw [co_t9]
        | rw [ri_t9]
        | rw [cp_t5]
        | rw [co_z]
        | rw [ri_mren]
        | rw [co_r]
        | rw [co_op]
        | rw [co_at]
        | rw [co_nmi]
        | rw [ri_splz]
        | rw [List.length_map]
        | refine N.regS fun K hK => ?_
        | refine N.dregS fun K hK => ?_
        | refine N.regN fun K hK => ?_
        | refine N.dregN fun K hK => ?_
        | simp only [T.mv, sm, AO.ev, put, lk, enter, reduceIte, Nat.reduceEqDiff, Nat.reduceAdd, Nat.reduceMul, Nat.reduceSub, Int.reduceNeg, Int.reduceToNat, upto, renB, setAll]
        | (refine T.nil ?_; (first | refine hK _ _ _ (by rfl) ?_ | refine hK _ _ _ ?_); (try simp only [keep, List.map, lk, reduceIte, Nat.reduceEqDiff, enter]); clear hK K)
        | (show WOpsT _ (⟨_, .call _ _, none⟩ :: _) _ _ _ _; first | refine T.call0 e35 rfl (hlow) ?_ | refine T.call0 e57 rfl (hfit) ?_ | refine T.call0 e62 rfl (hf) ?_)
        | (show WOpsT _ (⟨_, .ld _ _, none⟩ :: _) _ _ _ _; first | refine L.ld ?_ | refine L.ldd ?_ | refine L.ldn ?_ | refine L.lddn ?_)
        | (show WOpsT _ (⟨_, .idx _ _ _ _, none⟩ :: _) _ _ _ _; first | refine L.idx ?_ | refine L.idxs ?_ | refine L.idxa ?_ | refine L.idxd ?_)
        | (show WOpsT _ (⟨_, .bin _ _ _, none⟩ :: _) _ _ _ _; first | refine L.add ?_ | refine L.bin ?_)
        | (show WOpsT _ (⟨_, _, some (_, true)⟩ :: _) _ _ _ _; first | refine L.goT ?_ | refine L.paT ?_ | refine L.go ?_ | refine L.pass ?_ | refine T.pU rfl ?_ | refine T.gT rfl (fun hgd => ?_) (fun hgd => ?_))
        | (show WOpsT _ (⟨_, .pick _ _ _, none⟩ :: _) _ _ _ _; first | refine L.pkT ?_ | refine L.pkF ?_ | refine L.pickT ?_ | refine L.pickF ?_ | refine L.pickB ?_ | refine T.pkD rfl (fun hgd => ?_) (fun hgd => ?_))
        | (show AKW _ _ _ _ _ _ _; first | refine N.now ?_)
        | (show AK _ _ (.cond _ _ _) _ _ _ _; first | refine N.c1 ?_ | refine N.c2 ?_ | refine N.c3 ?_ | refine N.c4 ?_ | refine N.condD rfl (fun hcd => ?_) (fun hcd => ?_) | refine N.condB rfl (fun hcd => ?_) (fun hcd => ?_) | refine N.condU rfl ?_ ?_)
        | (show AK _ _ _ _ _ _ _; first | refine N.seq ?_ | refine N.block ?_ | refine N.skip ?_ | refine N.exit ?_ | refine N.ret ?_)
        | (show RK _ _ _ _ _ _ _; simp only [rk, rk0, reduceIte, Nat.reduceEqDiff])
        | (show WOpsT _ _ _ _ _ _; first | refine L.ext ?_ | refine T.notD rfl ?_ | refine T.not rfl ?_ | refine L.fad ?_ | refine L.fadd ?_ | refine L.st ?_ | refine L.new ?_ | refine L.zero ?_ | refine L.len ?_ | refine L.lenS ?_ | refine L.lenN ?_)
        | refine hQ _ _ _ rfl ?_
        | refine hQN _ _ _ rfl ?_)
        all_goals first
          | exact WS.drop (n := 0) rfl rfl
          | (exfalso; omega)
  rw [if_neg h1]
  unfold tellB
  dsimp only
  cases hd : doingM c op a with
  | none =>
    dsimp only
    have hdo := doing_none c q op a nmi hlen hd
    have he := ended_c c q op a nmi
    by_cases h9 : op = 259
    · rw [if_pos h9] at he ⊢
      refine N.fn Try.func69 k69 lb q69 fun Q hQ hQN => ?_
      rw [c69]
      repeat' (first
      | rw [co_mren]
      | rw [co_co]
      | rw [co_t12]
      | rw [co_t9]
      | rw [ri_t9]
      | rw [cp_t5]
      | rw [co_z]
      | rw [ri_mren]
      | rw [co_r]
      | rw [co_op]
      | rw [co_at]
      | rw [co_nmi]
      | rw [ri_splz]
      | rw [List.length_map]
      | refine N.regS fun K hK => ?_
      | refine N.dregS fun K hK => ?_
      | refine N.regN fun K hK => ?_
      | refine N.dregN fun K hK => ?_
      | simp only [T.mv, sm, AO.ev, put, lk, enter, reduceIte, Nat.reduceEqDiff, Nat.reduceAdd, Nat.reduceMul, Nat.reduceSub, Int.reduceNeg, Int.reduceToNat, upto, renB, setAll]
      | (refine T.nil ?_; (first | refine hK _ _ _ (by rfl) ?_ | refine hK _ _ _ ?_); (try simp only [keep, List.map, lk, reduceIte, Nat.reduceEqDiff, enter]); clear hK K)
      | (show WOpsT _ (⟨_, .call _ _, none⟩ :: _) _ _ _ _; first | refine T.call0 e35 rfl (hlow) ?_ | refine T.call0 e57 rfl (hfit) ?_ | refine T.call0 e126 rfl (hdo) ?_ | refine T.call0 e127 rfl (he) ?_)
      | (show WOpsT _ (⟨_, .ld _ _, none⟩ :: _) _ _ _ _; first | refine L.ld ?_ | refine L.ldd ?_ | refine L.ldn ?_ | refine L.lddn ?_)
      | (show WOpsT _ (⟨_, .idx _ _ _ _, none⟩ :: _) _ _ _ _; first | refine L.idx ?_ | refine L.idxs ?_ | refine L.idxa ?_ | refine L.idxd ?_)
      | (show WOpsT _ (⟨_, .bin _ _ _, none⟩ :: _) _ _ _ _; first | refine L.add ?_ | refine L.bin ?_)
      | (show WOpsT _ (⟨_, _, some (_, true)⟩ :: _) _ _ _ _; first | refine L.goT ?_ | refine L.paT ?_ | refine L.go ?_ | refine L.pass ?_ | refine T.pU rfl ?_ | refine T.gT rfl (fun hgd => ?_) (fun hgd => ?_))
      | (show WOpsT _ (⟨_, .pick _ _ _, none⟩ :: _) _ _ _ _; first | refine L.pkT ?_ | refine L.pkF ?_ | refine L.pickT ?_ | refine L.pickF ?_ | refine L.pickB ?_ | refine T.pkD rfl (fun hgd => ?_) (fun hgd => ?_))
      | (show AKW _ _ _ _ _ _ _; first | refine N.now ?_)
      | (show AK _ _ (.cond _ _ _) _ _ _ _; first | refine N.c1 ?_ | refine N.c2 ?_ | refine N.c3 ?_ | refine N.c4 ?_ | refine N.condD rfl (fun hcd => ?_) (fun hcd => ?_) | refine N.condB rfl (fun hcd => ?_) (fun hcd => ?_) | refine N.condU rfl ?_ ?_)
      | (show AK _ _ _ _ _ _ _; first | refine N.seq ?_ | refine N.block ?_ | refine N.skip ?_ | refine N.exit ?_ | refine N.ret ?_)
      | (show RK _ _ _ _ _ _ _; simp only [rk, rk0, reduceIte, Nat.reduceEqDiff])
      | (show WOpsT _ _ _ _ _ _; first | refine L.ext ?_ | refine T.notD rfl ?_ | refine T.not rfl ?_ | refine L.fad ?_ | refine L.fadd ?_ | refine L.st ?_ | refine L.new ?_ | refine L.zero ?_ | refine L.len ?_ | refine L.lenS ?_ | refine L.lenN ?_)
      | refine hQ _ _ _ rfl ?_
      | refine hQN _ _ _ rfl ?_)
      all_goals first
        | exact WS.drop (n := 0) rfl rfl
        | (exfalso; omega)
    · rw [if_neg h9] at he ⊢
      refine N.fn Try.func69 k69 lb q69 fun Q hQ hQN => ?_
      rw [c69]
      repeat' (first
      | rw [co_mren]
      | rw [co_co]
      | rw [co_t12]
      | rw [co_t9]
      | rw [ri_t9]
      | rw [cp_t5]
      | rw [co_z]
      | rw [ri_mren]
      | rw [co_r]
      | rw [co_op]
      | rw [co_at]
      | rw [co_nmi]
      | rw [ri_splz]
      | rw [List.length_map]
      | refine N.regS fun K hK => ?_
      | refine N.dregS fun K hK => ?_
      | refine N.regN fun K hK => ?_
      | refine N.dregN fun K hK => ?_
      | simp only [T.mv, sm, AO.ev, put, lk, enter, reduceIte, Nat.reduceEqDiff, Nat.reduceAdd, Nat.reduceMul, Nat.reduceSub, Int.reduceNeg, Int.reduceToNat, upto, renB, setAll]
      | (refine T.nil ?_; (first | refine hK _ _ _ (by rfl) ?_ | refine hK _ _ _ ?_); (try simp only [keep, List.map, lk, reduceIte, Nat.reduceEqDiff, enter]); clear hK K)
      | (show WOpsT _ (⟨_, .call _ _, none⟩ :: _) _ _ _ _; first | refine T.call0 e35 rfl (hlow) ?_ | refine T.call0 e57 rfl (hfit) ?_ | refine T.call0 e126 rfl (hdo) ?_ | refine T.call0 e127 rfl (he) ?_)
      | (show WOpsT _ (⟨_, .ld _ _, none⟩ :: _) _ _ _ _; first | refine L.ld ?_ | refine L.ldd ?_ | refine L.ldn ?_ | refine L.lddn ?_)
      | (show WOpsT _ (⟨_, .idx _ _ _ _, none⟩ :: _) _ _ _ _; first | refine L.idx ?_ | refine L.idxs ?_ | refine L.idxa ?_ | refine L.idxd ?_)
      | (show WOpsT _ (⟨_, .bin _ _ _, none⟩ :: _) _ _ _ _; first | refine L.add ?_ | refine L.bin ?_)
      | (show WOpsT _ (⟨_, _, some (_, true)⟩ :: _) _ _ _ _; first | refine L.goT ?_ | refine L.paT ?_ | refine L.go ?_ | refine L.pass ?_ | refine T.pU rfl ?_ | refine T.gT rfl (fun hgd => ?_) (fun hgd => ?_))
      | (show WOpsT _ (⟨_, .pick _ _ _, none⟩ :: _) _ _ _ _; first | refine L.pkT ?_ | refine L.pkF ?_ | refine L.pickT ?_ | refine L.pickF ?_ | refine L.pickB ?_ | refine T.pkD rfl (fun hgd => ?_) (fun hgd => ?_))
      | (show AKW _ _ _ _ _ _ _; first | refine N.now ?_)
      | (show AK _ _ (.cond _ _ _) _ _ _ _; first | refine N.c1 ?_ | refine N.c2 ?_ | refine N.c3 ?_ | refine N.c4 ?_ | refine N.condD rfl (fun hcd => ?_) (fun hcd => ?_) | refine N.condB rfl (fun hcd => ?_) (fun hcd => ?_) | refine N.condU rfl ?_ ?_)
      | (show AK _ _ _ _ _ _ _; first | refine N.seq ?_ | refine N.block ?_ | refine N.skip ?_ | refine N.exit ?_ | refine N.ret ?_)
      | (show RK _ _ _ _ _ _ _; simp only [rk, rk0, reduceIte, Nat.reduceEqDiff])
      | (show WOpsT _ _ _ _ _ _; first | refine L.ext ?_ | refine T.notD rfl ?_ | refine T.not rfl ?_ | refine L.fad ?_ | refine L.fadd ?_ | refine L.st ?_ | refine L.new ?_ | refine L.zero ?_ | refine L.len ?_ | refine L.lenS ?_ | refine L.lenN ?_)
      | refine hQ _ _ _ rfl ?_
      | refine hQN _ _ _ rfl ?_)
      all_goals first
        | exact WS.drop (n := 0) rfl rfl
        | (exfalso; omega)
  | some x =>
    dsimp only
    have hdo := doing_some c q op a nmi hlen x hd
    have hcy := cycles_c c op hlen
    have hsm := cycM_sml c hc op
    obtain ⟨hsm1, hsm2⟩ := hsm
    have hx6 : x.steps.length ≤ 6 ∧ 0 ≤ a ∧ a < 8 := by
      unfold doingM at hd
      split at hd
      · cases hd
      · have h2 := (List.getElem?_eq_some_iff.1 hd).1
        exact ⟨hsm2 x (List.mem_of_getElem? hd), by omega, by omega⟩
    obtain ⟨xb, xa, xr, xs⟩ := x
    dsimp only at hx6 ⊢
    unfold regM
    dsimp only
    generalize cycM c op = cl at *
    by_cases hw : xb = 1 ∧ 0 ≤ xr ∧ xr < 9
    · rw [if_pos hw]
      have e5 : 0 + xr.toNat * 1 = xr.toNat := by omega
      have hx9 : xr.toNat < 9 := by omega
      generalize hrr : upd q xr.toNat d = rr
      refine N.fn Try.func69 k69 lb q69 fun Q hQ hQN => ?_
      rw [c69]
      repeat' (first
      | rw [co_mren]
      | rw [co_co]
      | rw [co_t12]
      | rw [co_t9]
      | rw [ri_t9]
      | rw [cp_t5]
      | rw [co_z]
      | rw [ri_mren]
      | rw [co_r]
      | rw [co_op]
      | rw [co_at]
      | rw [co_nmi]
      | rw [ri_splz]
      | rw [List.length_map]
      | rw [e5]
      | (show WOpsT _ (⟨_, .st _ _ _, none⟩ :: _) _ _ _ _; refine T.st rfl rfl rfl ⟨rfl, rfl⟩ rfl (show _ ≤ 12 by omega) ?_)
      | rw [co_reg _ _ _ _ _ _ hx9]
      | rw [hrr]
      | refine N.regS fun K hK => ?_
      | refine N.dregS fun K hK => ?_
      | refine N.regN fun K hK => ?_
      | refine N.dregN fun K hK => ?_
      | simp only [T.mv, sm, AO.ev, put, lk, enter, reduceIte, Nat.reduceEqDiff, Nat.reduceAdd, Nat.reduceMul, Nat.reduceSub, Int.reduceNeg, Int.reduceToNat, upto, renB, setAll]
      | (refine T.nil ?_; (first | refine hK _ _ _ (by rfl) ?_ | refine hK _ _ _ ?_); (try simp only [keep, List.map, lk, reduceIte, Nat.reduceEqDiff, enter]); clear hK K)
      | (show WOpsT _ (⟨_, .call _ _, none⟩ :: _) _ _ _ _; first | refine T.call0 e35 rfl (hlow) ?_ | refine T.call0 e57 rfl (hfit) ?_ | refine T.call0 e126 rfl (hdo) ?_)
      | (show WOpsT _ (⟨_, .ld _ _, none⟩ :: _) _ _ _ _; first | refine L.ld ?_ | refine L.ldd ?_ | refine L.ldn ?_ | refine L.lddn ?_)
      | (show WOpsT _ (⟨_, .idx _ _ _ _, none⟩ :: _) _ _ _ _; first | refine L.idx ?_ | refine L.idxs ?_ | refine L.idxa ?_ | refine L.idxd ?_)
      | (show WOpsT _ (⟨_, .bin _ _ _, none⟩ :: _) _ _ _ _; first | refine L.add ?_ | refine L.bin ?_)
      | (show WOpsT _ (⟨_, _, some (_, true)⟩ :: _) _ _ _ _; first | refine L.goT ?_ | refine L.paT ?_ | refine L.go ?_ | refine L.pass ?_ | refine T.pU rfl ?_ | refine T.gT rfl (fun hgd => ?_) (fun hgd => ?_))
      | (show WOpsT _ (⟨_, .pick _ _ _, none⟩ :: _) _ _ _ _; first | refine L.pkT ?_ | refine L.pkF ?_ | refine L.pickT ?_ | refine L.pickF ?_ | refine L.pickB ?_ | refine T.pkD rfl (fun hgd => ?_) (fun hgd => ?_))
      | (show AKW _ _ _ _ _ _ _; first | refine N.now ?_)
      | (show AK _ _ (.cond _ _ _) _ _ _ _; first | refine N.c1 ?_ | refine N.c2 ?_ | refine N.c3 ?_ | refine N.c4 ?_ | refine N.condD rfl (fun hcd => ?_) (fun hcd => ?_) | refine N.condB rfl (fun hcd => ?_) (fun hcd => ?_) | refine N.condU rfl ?_ ?_)
      | (show AK _ _ _ _ _ _ _; first | refine N.seq ?_ | refine N.block ?_ | refine N.skip ?_ | refine N.exit ?_ | refine N.ret ?_)
      | (show RK _ _ _ _ _ _ _; simp only [rk, rk0, reduceIte, Nat.reduceEqDiff])
      | (show WOpsT _ _ _ _ _ _; first | refine L.ext ?_ | refine T.notD rfl ?_ | refine T.not rfl ?_ | refine L.fad ?_ | refine L.fadd ?_ | refine L.st ?_ | refine L.new ?_ | refine L.zero ?_ | refine L.len ?_ | refine L.lenS ?_ | refine L.lenN ?_)
      | refine hQ _ _ _ rfl ?_
      | refine hQN _ _ _ rfl ?_)
      refine N.loop (σ := Nat × (Nat → Int)) (fun s => [(3, .ptr 0 1 0 0), (4, .ptr 1 1 0 0), (6, .ptr 2 1 0 0), (77, .sl 4 (xs.map stC)), (78, I xs.length), (79, I s.1)]) (fun s => [⟨1, 5, [cpC c]⟩, ⟨1, 12, [coA s.2 op (a + 1) nmi]⟩, ⟨1, 12, [[I 0, I 0, I 0, I 0, I 0, I 0, I 0, I 0, I 0, I 0, I 0, .c (.bool false)]]⟩]) (fun s => s.1 ≤ xs.length ∧ stepsM xs rr = stepsM (xs.drop s.1) s.2) (fun s => xs.length - s.1) (0, rr) ⟨by omega, rfl⟩ (Weaks.gc [0, 1, 2] 1 rfl (by repeat (first | exact trivial | refine ⟨.rfl, ?_⟩ | refine ⟨.any, ?_⟩)) (by first | rfl | (symm; unfold outH; simp only [List.map]; (repeat' (first | rfl | exact outB_bytes | exact outB_ints | exact outB_flat | refine consE ?_ ?_)); done))) fun w hi R hC => ?_
      obtain ⟨i, pr⟩ := w
      obtain ⟨hi, hst⟩ := hi
      dsimp only at hi hst hC ⊢
      by_cases hil : i < xs.length
      · have hm := mget stC xs i hil
        rw [stepsM_drop xs i hil pr] at hst
        obtain ⟨y, hy⟩ : ∃ y, xs[i] = y := ⟨_, rfl⟩
        rw [hy] at hm hst
        obtain ⟨so, st, sf, sn⟩ := y
        have hdd := do_ok so st sf sn pr
        dsimp only at hst
        generalize doR so st sf sn pr = w at *
        obtain ⟨p2, en⟩ := w
        dsimp only at hst hdd
        cases en
        · rw [if_neg (by decide)] at hst
          repeat' (first
          | rw [co_mren]
          | rw [co_co]
          | rw [co_t12]
          | rw [co_t9]
          | rw [ri_t9]
          | rw [cp_t5]
          | rw [co_z]
          | rw [ri_mren]
          | rw [co_r]
          | rw [co_op]
          | rw [co_at]
          | rw [co_nmi]
          | rw [ri_splz]
          | rw [List.length_map]
          | (show WOpsT _ (⟨_, .idx _ _ _ _, none⟩ :: _) _ _ _ _; refine T.idxs rfl rfl rfl (by omega) hm ?_)
          | refine N.regS fun K hK => ?_
          | refine N.dregS fun K hK => ?_
          | refine N.regN fun K hK => ?_
          | refine N.dregN fun K hK => ?_
          | simp only [T.mv, sm, AO.ev, put, lk, enter, reduceIte, Nat.reduceEqDiff, Nat.reduceAdd, Nat.reduceMul, Nat.reduceSub, Int.reduceNeg, Int.reduceToNat, upto, renB, setAll]
          | (refine T.nil ?_; (first | refine hK _ _ _ (by rfl) ?_ | refine hK _ _ _ ?_); (try simp only [keep, List.map, lk, reduceIte, Nat.reduceEqDiff, enter]); clear hK K)
          | (show WOpsT _ (⟨_, .call _ _, none⟩ :: _) _ _ _ _; first | refine T.call0 e54 rfl (hdd) ?_)
          | (show WOpsT _ (⟨_, .ld _ _, none⟩ :: _) _ _ _ _; first | refine L.ld ?_ | refine L.ldd ?_ | refine L.ldn ?_ | refine L.lddn ?_)
          | (show WOpsT _ (⟨_, .idx _ _ _ _, none⟩ :: _) _ _ _ _; first | refine L.idx ?_ | refine L.idxs ?_ | refine L.idxa ?_ | refine L.idxd ?_)
          | (show WOpsT _ (⟨_, .bin _ _ _, none⟩ :: _) _ _ _ _; first | refine L.add ?_ | refine L.bin ?_)
          | (show WOpsT _ (⟨_, _, some (_, true)⟩ :: _) _ _ _ _; first | refine L.goT ?_ | refine L.paT ?_ | refine L.go ?_ | refine L.pass ?_ | refine T.pU rfl ?_ | refine T.gT rfl (fun hgd => ?_) (fun hgd => ?_))
          | (show WOpsT _ (⟨_, .pick _ _ _, none⟩ :: _) _ _ _ _; first | refine L.pkT ?_ | refine L.pkF ?_ | refine L.pickT ?_ | refine L.pickF ?_ | refine L.pickB ?_ | refine T.pkD rfl (fun hgd => ?_) (fun hgd => ?_))
          | (show AKW _ _ _ _ _ _ _; first | refine N.now ?_)
          | (show AK _ _ (.cond _ _ _) _ _ _ _; first | refine N.c1 ?_ | refine N.c2 ?_ | refine N.c3 ?_ | refine N.c4 ?_ | refine N.condD rfl (fun hcd => ?_) (fun hcd => ?_) | refine N.condB rfl (fun hcd => ?_) (fun hcd => ?_) | refine N.condU rfl ?_ ?_)
          | (show AK _ _ _ _ _ _ _; first | refine N.seq ?_ | refine N.block ?_ | refine N.skip ?_ | refine N.exit ?_ | refine N.ret ?_)
          | (show RK _ _ _ _ _ _ _; simp only [rk, rk0, reduceIte, Nat.reduceEqDiff])
          | (show WOpsT _ _ _ _ _ _; first | refine L.ext ?_ | refine T.notD rfl ?_ | refine T.not rfl ?_ | refine L.fad ?_ | refine L.fadd ?_ | refine L.st ?_ | refine L.new ?_ | refine L.zero ?_ | refine L.len ?_ | refine L.lenS ?_ | refine L.lenN ?_)
          | refine hQ _ _ _ rfl ?_
          | refine hQN _ _ _ rfl ?_)
          exact hC _ _ (i + 1, p2) ⟨by dsimp only; omega, hst⟩ (by dsimp only; omega) (Weaks.gc [0, 1, 2] 1 rfl (by repeat (first | exact trivial | refine ⟨.rfl, ?_⟩ | refine ⟨.any, ?_⟩)) (by first | rfl | (symm; unfold outH; simp only [List.map]; (repeat' (first | rfl | exact outB_bytes | exact outB_ints | exact outB_flat | refine consE ?_ ?_)); done)))
        · rw [if_pos rfl] at hst
          rw [hst, if_pos (.inl rfl)] at hQ hQN
          repeat' (first
          | rw [co_mren]
          | rw [co_co]
          | rw [co_t12]
          | rw [co_t9]
          | rw [ri_t9]
          | rw [cp_t5]
          | rw [co_z]
          | rw [ri_mren]
          | rw [co_r]
          | rw [co_op]
          | rw [co_at]
          | rw [co_nmi]
          | rw [ri_splz]
          | rw [List.length_map]
          | (show WOpsT _ (⟨_, .idx _ _ _ _, none⟩ :: _) _ _ _ _; refine T.idxs rfl rfl rfl (by omega) hm ?_)
          | refine N.regS fun K hK => ?_
          | refine N.dregS fun K hK => ?_
          | refine N.regN fun K hK => ?_
          | refine N.dregN fun K hK => ?_
          | simp only [T.mv, sm, AO.ev, put, lk, enter, reduceIte, Nat.reduceEqDiff, Nat.reduceAdd, Nat.reduceMul, Nat.reduceSub, Int.reduceNeg, Int.reduceToNat, upto, renB, setAll]
          | (refine T.nil ?_; (first | refine hK _ _ _ (by rfl) ?_ | refine hK _ _ _ ?_); (try simp only [keep, List.map, lk, reduceIte, Nat.reduceEqDiff, enter]); clear hK K)
          | (show WOpsT _ (⟨_, .call _ _, none⟩ :: _) _ _ _ _; first | refine T.call0 e54 rfl (hdd) ?_)
          | (show WOpsT _ (⟨_, .ld _ _, none⟩ :: _) _ _ _ _; first | refine L.ld ?_ | refine L.ldd ?_ | refine L.ldn ?_ | refine L.lddn ?_)
          | (show WOpsT _ (⟨_, .idx _ _ _ _, none⟩ :: _) _ _ _ _; first | refine L.idx ?_ | refine L.idxs ?_ | refine L.idxa ?_ | refine L.idxd ?_)
          | (show WOpsT _ (⟨_, .bin _ _ _, none⟩ :: _) _ _ _ _; first | refine L.add ?_ | refine L.bin ?_)
          | (show WOpsT _ (⟨_, _, some (_, true)⟩ :: _) _ _ _ _; first | refine L.goT ?_ | refine L.paT ?_ | refine L.go ?_ | refine L.pass ?_ | refine T.pU rfl ?_ | refine T.gT rfl (fun hgd => ?_) (fun hgd => ?_))
          | (show WOpsT _ (⟨_, .pick _ _ _, none⟩ :: _) _ _ _ _; first | refine L.pkT ?_ | refine L.pkF ?_ | refine L.pickT ?_ | refine L.pickF ?_ | refine L.pickB ?_ | refine T.pkD rfl (fun hgd => ?_) (fun hgd => ?_))
          | (show AKW _ _ _ _ _ _ _; first | refine N.now ?_)
          | (show AK _ _ (.cond _ _ _) _ _ _ _; first | refine N.c1 ?_ | refine N.c2 ?_ | refine N.c3 ?_ | refine N.c4 ?_ | refine N.condD rfl (fun hcd => ?_) (fun hcd => ?_) | refine N.condB rfl (fun hcd => ?_) (fun hcd => ?_) | refine N.condU rfl ?_ ?_)
          | (show AK _ _ _ _ _ _ _; first | refine N.seq ?_ | refine N.block ?_ | refine N.skip ?_ | refine N.exit ?_ | refine N.ret ?_)
          | (show RK _ _ _ _ _ _ _; simp only [rk, rk0, reduceIte, Nat.reduceEqDiff])
          | (show WOpsT _ _ _ _ _ _; first | refine L.ext ?_ | refine T.notD rfl ?_ | refine T.not rfl ?_ | refine L.fad ?_ | refine L.fadd ?_ | refine L.st ?_ | refine L.new ?_ | refine L.zero ?_ | refine L.len ?_ | refine L.lenS ?_ | refine L.lenN ?_)
          | refine hQ _ _ _ rfl ?_
          | refine hQN _ _ _ rfl ?_)
          exact WS.drop (n := 0) rfl rfl
      · obtain rfl : i = xs.length := by omega
        rw [List.drop_length] at hst
        rw [hst] at hQ hQN
        by_cases hl2 : (cl.length : Int) ≤ a + 1
        · rw [if_pos (.inr hl2)] at hQ hQN
          repeat' (first
          | rw [co_mren]
          | rw [co_co]
          | rw [co_t12]
          | rw [co_t9]
          | rw [ri_t9]
          | rw [cp_t5]
          | rw [co_z]
          | rw [ri_mren]
          | rw [co_r]
          | rw [co_op]
          | rw [co_at]
          | rw [co_nmi]
          | rw [ri_splz]
          | rw [List.length_map]
          | refine N.regS fun K hK => ?_
          | refine N.dregS fun K hK => ?_
          | refine N.regN fun K hK => ?_
          | refine N.dregN fun K hK => ?_
          | simp only [T.mv, sm, AO.ev, put, lk, enter, reduceIte, Nat.reduceEqDiff, Nat.reduceAdd, Nat.reduceMul, Nat.reduceSub, Int.reduceNeg, Int.reduceToNat, upto, renB, setAll]
          | (refine T.nil ?_; (first | refine hK _ _ _ (by rfl) ?_ | refine hK _ _ _ ?_); (try simp only [keep, List.map, lk, reduceIte, Nat.reduceEqDiff, enter]); clear hK K)
          | (show WOpsT _ (⟨_, .call _ _, none⟩ :: _) _ _ _ _; first | refine T.call0 e128 rfl (hcy) ?_)
          | (show WOpsT _ (⟨_, .ld _ _, none⟩ :: _) _ _ _ _; first | refine L.ld ?_ | refine L.ldd ?_ | refine L.ldn ?_ | refine L.lddn ?_)
          | (show WOpsT _ (⟨_, .idx _ _ _ _, none⟩ :: _) _ _ _ _; first | refine L.idx ?_ | refine L.idxs ?_ | refine L.idxa ?_ | refine L.idxd ?_)
          | (show WOpsT _ (⟨_, .bin _ _ _, none⟩ :: _) _ _ _ _; first | refine L.add ?_ | refine L.bin ?_)
          | (show WOpsT _ (⟨_, _, some (_, true)⟩ :: _) _ _ _ _; first | refine L.goT ?_ | refine L.paT ?_ | refine L.go ?_ | refine L.pass ?_ | refine T.pU rfl ?_ | refine T.gT rfl (fun hgd => ?_) (fun hgd => ?_))
          | (show WOpsT _ (⟨_, .pick _ _ _, none⟩ :: _) _ _ _ _; first | refine L.pkT ?_ | refine L.pkF ?_ | refine L.pickT ?_ | refine L.pickF ?_ | refine L.pickB ?_ | refine T.pkD rfl (fun hgd => ?_) (fun hgd => ?_))
          | (show AKW _ _ _ _ _ _ _; first | refine N.now ?_)
          | (show AK _ _ (.cond _ _ _) _ _ _ _; first | refine N.c1 ?_ | refine N.c2 ?_ | refine N.c3 ?_ | refine N.c4 ?_ | refine N.condD rfl (fun hcd => ?_) (fun hcd => ?_) | refine N.condB rfl (fun hcd => ?_) (fun hcd => ?_) | refine N.condU rfl ?_ ?_)
          | (show AK _ _ _ _ _ _ _; first | refine N.seq ?_ | refine N.block ?_ | refine N.skip ?_ | refine N.exit ?_ | refine N.ret ?_)
          | (show RK _ _ _ _ _ _ _; simp only [rk, rk0, reduceIte, Nat.reduceEqDiff])
          | (show WOpsT _ _ _ _ _ _; first | refine L.ext ?_ | refine T.notD rfl ?_ | refine T.not rfl ?_ | refine L.fad ?_ | refine L.fadd ?_ | refine L.st ?_ | refine L.new ?_ | refine L.zero ?_ | refine L.len ?_ | refine L.lenS ?_ | refine L.lenN ?_)
          | refine hQ _ _ _ rfl ?_
          | refine hQN _ _ _ rfl ?_)
          all_goals first
            | exact WS.drop (n := 0) rfl rfl
            | (exfalso; omega)
        · rw [if_neg (by
            rintro (h | h)
            · cases h
            · exact hl2 h)] at hQ hQN
          repeat' (first
          | rw [co_mren]
          | rw [co_co]
          | rw [co_t12]
          | rw [co_t9]
          | rw [ri_t9]
          | rw [cp_t5]
          | rw [co_z]
          | rw [ri_mren]
          | rw [co_r]
          | rw [co_op]
          | rw [co_at]
          | rw [co_nmi]
          | rw [ri_splz]
          | rw [List.length_map]
          | refine N.regS fun K hK => ?_
          | refine N.dregS fun K hK => ?_
          | refine N.regN fun K hK => ?_
          | refine N.dregN fun K hK => ?_
          | simp only [T.mv, sm, AO.ev, put, lk, enter, reduceIte, Nat.reduceEqDiff, Nat.reduceAdd, Nat.reduceMul, Nat.reduceSub, Int.reduceNeg, Int.reduceToNat, upto, renB, setAll]
          | (refine T.nil ?_; (first | refine hK _ _ _ (by rfl) ?_ | refine hK _ _ _ ?_); (try simp only [keep, List.map, lk, reduceIte, Nat.reduceEqDiff, enter]); clear hK K)
          | (show WOpsT _ (⟨_, .call _ _, none⟩ :: _) _ _ _ _; first | refine T.call0 e128 rfl (hcy) ?_)
          | (show WOpsT _ (⟨_, .ld _ _, none⟩ :: _) _ _ _ _; first | refine L.ld ?_ | refine L.ldd ?_ | refine L.ldn ?_ | refine L.lddn ?_)
          | (show WOpsT _ (⟨_, .idx _ _ _ _, none⟩ :: _) _ _ _ _; first | refine L.idx ?_ | refine L.idxs ?_ | refine L.idxa ?_ | refine L.idxd ?_)
          | (show WOpsT _ (⟨_, .bin _ _ _, none⟩ :: _) _ _ _ _; first | refine L.add ?_ | refine L.bin ?_)
          | (show WOpsT _ (⟨_, _, some (_, true)⟩ :: _) _ _ _ _; first | refine L.goT ?_ | refine L.paT ?_ | refine L.go ?_ | refine L.pass ?_ | refine T.pU rfl ?_ | refine T.gT rfl (fun hgd => ?_) (fun hgd => ?_))
          | (show WOpsT _ (⟨_, .pick _ _ _, none⟩ :: _) _ _ _ _; first | refine L.pkT ?_ | refine L.pkF ?_ | refine L.pickT ?_ | refine L.pickF ?_ | refine L.pickB ?_ | refine T.pkD rfl (fun hgd => ?_) (fun hgd => ?_))
          | (show AKW _ _ _ _ _ _ _; first | refine N.now ?_)
          | (show AK _ _ (.cond _ _ _) _ _ _ _; first | refine N.c1 ?_ | refine N.c2 ?_ | refine N.c3 ?_ | refine N.c4 ?_ | refine N.condD rfl (fun hcd => ?_) (fun hcd => ?_) | refine N.condB rfl (fun hcd => ?_) (fun hcd => ?_) | refine N.condU rfl ?_ ?_)
          | (show AK _ _ _ _ _ _ _; first | refine N.seq ?_ | refine N.block ?_ | refine N.skip ?_ | refine N.exit ?_ | refine N.ret ?_)
          | (show RK _ _ _ _ _ _ _; simp only [rk, rk0, reduceIte, Nat.reduceEqDiff])
          | (show WOpsT _ _ _ _ _ _; first | refine L.ext ?_ | refine T.notD rfl ?_ | refine T.not rfl ?_ | refine L.fad ?_ | refine L.fadd ?_ | refine L.st ?_ | refine L.new ?_ | refine L.zero ?_ | refine L.len ?_ | refine L.lenS ?_ | refine L.lenN ?_)
          | refine hQ _ _ _ rfl ?_
          | refine hQN _ _ _ rfl ?_)
          all_goals first
            | exact WS.drop (n := 0) rfl rfl
            | (exfalso; omega)
    · rw [if_neg hw]
      generalize hrr : q = rr at *
      refine N.fn Try.func69 k69 lb q69 fun Q hQ hQN => ?_
      rw [c69]
      repeat' (first
      | rw [co_mren]
      | rw [co_co]
      | rw [co_t12]
      | rw [co_t9]
      | rw [ri_t9]
      | rw [cp_t5]
      | rw [co_z]
      | rw [ri_mren]
      | rw [co_r]
      | rw [co_op]
      | rw [co_at]
      | rw [co_nmi]
      | rw [ri_splz]
      | rw [List.length_map]
      | refine N.regS fun K hK => ?_
      | refine N.dregS fun K hK => ?_
      | refine N.regN fun K hK => ?_
      | refine N.dregN fun K hK => ?_
      | simp only [T.mv, sm, AO.ev, put, lk, enter, reduceIte, Nat.reduceEqDiff, Nat.reduceAdd, Nat.reduceMul, Nat.reduceSub, Int.reduceNeg, Int.reduceToNat, upto, renB, setAll]
      | (refine T.nil ?_; (first | refine hK _ _ _ (by rfl) ?_ | refine hK _ _ _ ?_); (try simp only [keep, List.map, lk, reduceIte, Nat.reduceEqDiff, enter]); clear hK K)
      | (show WOpsT _ (⟨_, .call _ _, none⟩ :: _) _ _ _ _; first | refine T.call0 e35 rfl (hlow) ?_ | refine T.call0 e57 rfl (hfit) ?_ | refine T.call0 e126 rfl (hdo) ?_)
      | (show WOpsT _ (⟨_, .ld _ _, none⟩ :: _) _ _ _ _; first | refine L.ld ?_ | refine L.ldd ?_ | refine L.ldn ?_ | refine L.lddn ?_)
      | (show WOpsT _ (⟨_, .idx _ _ _ _, none⟩ :: _) _ _ _ _; first | refine L.idx ?_ | refine L.idxs ?_ | refine L.idxa ?_ | refine L.idxd ?_)
      | (show WOpsT _ (⟨_, .bin _ _ _, none⟩ :: _) _ _ _ _; first | refine L.add ?_ | refine L.bin ?_)
      | (show WOpsT _ (⟨_, _, some (_, true)⟩ :: _) _ _ _ _; first | refine L.goT ?_ | refine L.paT ?_ | refine L.go ?_ | refine L.pass ?_ | refine T.pU rfl ?_ | refine T.gT rfl (fun hgd => ?_) (fun hgd => ?_))
      | (show WOpsT _ (⟨_, .pick _ _ _, none⟩ :: _) _ _ _ _; first | refine L.pkT ?_ | refine L.pkF ?_ | refine L.pickT ?_ | refine L.pickF ?_ | refine L.pickB ?_ | refine T.pkD rfl (fun hgd => ?_) (fun hgd => ?_))
      | (show AKW _ _ _ _ _ _ _; first | refine N.now ?_)
      | (show AK _ _ (.cond _ _ _) _ _ _ _; first | refine N.c1 ?_ | refine N.c2 ?_ | refine N.c3 ?_ | refine N.c4 ?_ | refine N.condD rfl (fun hcd => ?_) (fun hcd => ?_) | refine N.condB rfl (fun hcd => ?_) (fun hcd => ?_) | refine N.condU rfl ?_ ?_)
      | (show AK _ _ _ _ _ _ _; first | refine N.seq ?_ | refine N.block ?_ | refine N.skip ?_ | refine N.exit ?_ | refine N.ret ?_)
      | (show RK _ _ _ _ _ _ _; simp only [rk, rk0, reduceIte, Nat.reduceEqDiff])
      | (show WOpsT _ _ _ _ _ _; first | refine L.ext ?_ | refine T.notD rfl ?_ | refine T.not rfl ?_ | refine L.fad ?_ | refine L.fadd ?_ | refine L.st ?_ | refine L.new ?_ | refine L.zero ?_ | refine L.len ?_ | refine L.lenS ?_ | refine L.lenN ?_)
      | refine hQ _ _ _ rfl ?_
      | refine hQN _ _ _ rfl ?_)
      all_goals
        refine N.loop (σ := Nat × (Nat → Int)) (fun s => [(3, .ptr 0 1 0 0), (4, .ptr 1 1 0 0), (6, .ptr 2 1 0 0), (77, .sl 4 (xs.map stC)), (78, I xs.length), (79, I s.1)]) (fun s => [⟨1, 5, [cpC c]⟩, ⟨1, 12, [coA s.2 op (a + 1) nmi]⟩, ⟨1, 12, [[I 0, I 0, I 0, I 0, I 0, I 0, I 0, I 0, I 0, I 0, I 0, .c (.bool false)]]⟩]) (fun s => s.1 ≤ xs.length ∧ stepsM xs rr = stepsM (xs.drop s.1) s.2) (fun s => xs.length - s.1) (0, rr) ⟨by omega, rfl⟩ (Weaks.gc [0, 1, 2] 1 rfl (by repeat (first | exact trivial | refine ⟨.rfl, ?_⟩ | refine ⟨.any, ?_⟩)) (by first | rfl | (symm; unfold outH; simp only [List.map]; (repeat' (first | rfl | exact outB_bytes | exact outB_ints | exact outB_flat | refine consE ?_ ?_)); done))) fun w hi R hC => ?_
        obtain ⟨i, pr⟩ := w
        obtain ⟨hi, hst⟩ := hi
        dsimp only at hi hst hC ⊢
        by_cases hil : i < xs.length
        · have hm := mget stC xs i hil
          rw [stepsM_drop xs i hil pr] at hst
          obtain ⟨y, hy⟩ : ∃ y, xs[i] = y := ⟨_, rfl⟩
          rw [hy] at hm hst
          obtain ⟨so, st, sf, sn⟩ := y
          have hdd := do_ok so st sf sn pr
          dsimp only at hst
          generalize doR so st sf sn pr = w at *
          obtain ⟨p2, en⟩ := w
          dsimp only at hst hdd
          cases en
          · rw [if_neg (by decide)] at hst
            repeat' (first
            | rw [co_mren]
            | rw [co_co]
            | rw [co_t12]
            | rw [co_t9]
            | rw [ri_t9]
            | rw [cp_t5]
            | rw [co_z]
            | rw [ri_mren]
            | rw [co_r]
            | rw [co_op]
            | rw [co_at]
            | rw [co_nmi]
            | rw [ri_splz]
            | rw [List.length_map]
            | (show WOpsT _ (⟨_, .idx _ _ _ _, none⟩ :: _) _ _ _ _; refine T.idxs rfl rfl rfl (by omega) hm ?_)
            | refine N.regS fun K hK => ?_
            | refine N.dregS fun K hK => ?_
            | refine N.regN fun K hK => ?_
            | refine N.dregN fun K hK => ?_
            | simp only [T.mv, sm, AO.ev, put, lk, enter, reduceIte, Nat.reduceEqDiff, Nat.reduceAdd, Nat.reduceMul, Nat.reduceSub, Int.reduceNeg, Int.reduceToNat, upto, renB, setAll]
            | (refine T.nil ?_; (first | refine hK _ _ _ (by rfl) ?_ | refine hK _ _ _ ?_); (try simp only [keep, List.map, lk, reduceIte, Nat.reduceEqDiff, enter]); clear hK K)
            | (show WOpsT _ (⟨_, .call _ _, none⟩ :: _) _ _ _ _; first | refine T.call0 e54 rfl (hdd) ?_)
            | (show WOpsT _ (⟨_, .ld _ _, none⟩ :: _) _ _ _ _; first | refine L.ld ?_ | refine L.ldd ?_ | refine L.ldn ?_ | refine L.lddn ?_)
            | (show WOpsT _ (⟨_, .idx _ _ _ _, none⟩ :: _) _ _ _ _; first | refine L.idx ?_ | refine L.idxs ?_ | refine L.idxa ?_ | refine L.idxd ?_)
            | (show WOpsT _ (⟨_, .bin _ _ _, none⟩ :: _) _ _ _ _; first | refine L.add ?_ | refine L.bin ?_)
            | (show WOpsT _ (⟨_, _, some (_, true)⟩ :: _) _ _ _ _; first | refine L.goT ?_ | refine L.paT ?_ | refine L.go ?_ | refine L.pass ?_ | refine T.pU rfl ?_ | refine T.gT rfl (fun hgd => ?_) (fun hgd => ?_))
            | (show WOpsT _ (⟨_, .pick _ _ _, none⟩ :: _) _ _ _ _; first | refine L.pkT ?_ | refine L.pkF ?_ | refine L.pickT ?_ | refine L.pickF ?_ | refine L.pickB ?_ | refine T.pkD rfl (fun hgd => ?_) (fun hgd => ?_))
            | (show AKW _ _ _ _ _ _ _; first | refine N.now ?_)
            | (show AK _ _ (.cond _ _ _) _ _ _ _; first | refine N.c1 ?_ | refine N.c2 ?_ | refine N.c3 ?_ | refine N.c4 ?_ | refine N.condD rfl (fun hcd => ?_) (fun hcd => ?_) | refine N.condB rfl (fun hcd => ?_) (fun hcd => ?_) | refine N.condU rfl ?_ ?_)
            | (show AK _ _ _ _ _ _ _; first | refine N.seq ?_ | refine N.block ?_ | refine N.skip ?_ | refine N.exit ?_ | refine N.ret ?_)
            | (show RK _ _ _ _ _ _ _; simp only [rk, rk0, reduceIte, Nat.reduceEqDiff])
            | (show WOpsT _ _ _ _ _ _; first | refine L.ext ?_ | refine T.notD rfl ?_ | refine T.not rfl ?_ | refine L.fad ?_ | refine L.fadd ?_ | refine L.st ?_ | refine L.new ?_ | refine L.zero ?_ | refine L.len ?_ | refine L.lenS ?_ | refine L.lenN ?_)
            | refine hQ _ _ _ rfl ?_
            | refine hQN _ _ _ rfl ?_)
            exact hC _ _ (i + 1, p2) ⟨by dsimp only; omega, hst⟩ (by dsimp only; omega) (Weaks.gc [0, 1, 2] 1 rfl (by repeat (first | exact trivial | refine ⟨.rfl, ?_⟩ | refine ⟨.any, ?_⟩)) (by first | rfl | (symm; unfold outH; simp only [List.map]; (repeat' (first | rfl | exact outB_bytes | exact outB_ints | exact outB_flat | refine consE ?_ ?_)); done)))
          · rw [if_pos rfl] at hst
            rw [hst, if_pos (.inl rfl)] at hQ hQN
            repeat' (first
            | rw [co_mren]
            | rw [co_co]
            | rw [co_t12]
            | rw [co_t9]
            | rw [ri_t9]
            | rw [cp_t5]
            | rw [co_z]
            | rw [ri_mren]
            | rw [co_r]
            | rw [co_op]
            | rw [co_at]
            | rw [co_nmi]
            | rw [ri_splz]
            | rw [List.length_map]
            | (show WOpsT _ (⟨_, .idx _ _ _ _, none⟩ :: _) _ _ _ _; refine T.idxs rfl rfl rfl (by omega) hm ?_)
            | refine N.regS fun K hK => ?_
            | refine N.dregS fun K hK => ?_
            | refine N.regN fun K hK => ?_
            | refine N.dregN fun K hK => ?_
            | simp only [T.mv, sm, AO.ev, put, lk, enter, reduceIte, Nat.reduceEqDiff, Nat.reduceAdd, Nat.reduceMul, Nat.reduceSub, Int.reduceNeg, Int.reduceToNat, upto, renB, setAll]
            | (refine T.nil ?_; (first | refine hK _ _ _ (by rfl) ?_ | refine hK _ _ _ ?_); (try simp only [keep, List.map, lk, reduceIte, Nat.reduceEqDiff, enter]); clear hK K)
            | (show WOpsT _ (⟨_, .call _ _, none⟩ :: _) _ _ _ _; first | refine T.call0 e54 rfl (hdd) ?_)
            | (show WOpsT _ (⟨_, .ld _ _, none⟩ :: _) _ _ _ _; first | refine L.ld ?_ | refine L.ldd ?_ | refine L.ldn ?_ | refine L.lddn ?_)
            | (show WOpsT _ (⟨_, .idx _ _ _ _, none⟩ :: _) _ _ _ _; first | refine L.idx ?_ | refine L.idxs ?_ | refine L.idxa ?_ | refine L.idxd ?_)
            | (show WOpsT _ (⟨_, .bin _ _ _, none⟩ :: _) _ _ _ _; first | refine L.add ?_ | refine L.bin ?_)
            | (show WOpsT _ (⟨_, _, some (_, true)⟩ :: _) _ _ _ _; first | refine L.goT ?_ | refine L.paT ?_ | refine L.go ?_ | refine L.pass ?_ | refine T.pU rfl ?_ | refine T.gT rfl (fun hgd => ?_) (fun hgd => ?_))
            | (show WOpsT _ (⟨_, .pick _ _ _, none⟩ :: _) _ _ _ _; first | refine L.pkT ?_ | refine L.pkF ?_ | refine L.pickT ?_ | refine L.pickF ?_ | refine L.pickB ?_ | refine T.pkD rfl (fun hgd => ?_) (fun hgd => ?_))
            | (show AKW _ _ _ _ _ _ _; first | refine N.now ?_)
            | (show AK _ _ (.cond _ _ _) _ _ _ _; first | refine N.c1 ?_ | refine N.c2 ?_ | refine N.c3 ?_ | refine N.c4 ?_ | refine N.condD rfl (fun hcd => ?_) (fun hcd => ?_) | refine N.condB rfl (fun hcd => ?_) (fun hcd => ?_) | refine N.condU rfl ?_ ?_)
            | (show AK _ _ _ _ _ _ _; first | refine N.seq ?_ | refine N.block ?_ | refine N.skip ?_ | refine N.exit ?_ | refine N.ret ?_)
            | (show RK _ _ _ _ _ _ _; simp only [rk, rk0, reduceIte, Nat.reduceEqDiff])
            | (show WOpsT _ _ _ _ _ _; first | refine L.ext ?_ | refine T.notD rfl ?_ | refine T.not rfl ?_ | refine L.fad ?_ | refine L.fadd ?_ | refine L.st ?_ | refine L.new ?_ | refine L.zero ?_ | refine L.len ?_ | refine L.lenS ?_ | refine L.lenN ?_)
            | refine hQ _ _ _ rfl ?_
            | refine hQN _ _ _ rfl ?_)
            exact WS.drop (n := 0) rfl rfl
        · obtain rfl : i = xs.length := by omega
          rw [List.drop_length] at hst
          rw [hst] at hQ hQN
          by_cases hl2 : (cl.length : Int) ≤ a + 1
          · rw [if_pos (.inr hl2)] at hQ hQN
            repeat' (first
            | rw [co_mren]
            | rw [co_co]
            | rw [co_t12]
            | rw [co_t9]
            | rw [ri_t9]
            | rw [cp_t5]
            | rw [co_z]
            | rw [ri_mren]
            | rw [co_r]
            | rw [co_op]
            | rw [co_at]
            | rw [co_nmi]
            | rw [ri_splz]
            | rw [List.length_map]
            | refine N.regS fun K hK => ?_
            | refine N.dregS fun K hK => ?_
            | refine N.regN fun K hK => ?_
            | refine N.dregN fun K hK => ?_
            | simp only [T.mv, sm, AO.ev, put, lk, enter, reduceIte, Nat.reduceEqDiff, Nat.reduceAdd, Nat.reduceMul, Nat.reduceSub, Int.reduceNeg, Int.reduceToNat, upto, renB, setAll]
            | (refine T.nil ?_; (first | refine hK _ _ _ (by rfl) ?_ | refine hK _ _ _ ?_); (try simp only [keep, List.map, lk, reduceIte, Nat.reduceEqDiff, enter]); clear hK K)
            | (show WOpsT _ (⟨_, .call _ _, none⟩ :: _) _ _ _ _; first | refine T.call0 e128 rfl (hcy) ?_)
            | (show WOpsT _ (⟨_, .ld _ _, none⟩ :: _) _ _ _ _; first | refine L.ld ?_ | refine L.ldd ?_ | refine L.ldn ?_ | refine L.lddn ?_)
            | (show WOpsT _ (⟨_, .idx _ _ _ _, none⟩ :: _) _ _ _ _; first | refine L.idx ?_ | refine L.idxs ?_ | refine L.idxa ?_ | refine L.idxd ?_)
            | (show WOpsT _ (⟨_, .bin _ _ _, none⟩ :: _) _ _ _ _; first | refine L.add ?_ | refine L.bin ?_)
            | (show WOpsT _ (⟨_, _, some (_, true)⟩ :: _) _ _ _ _; first | refine L.goT ?_ | refine L.paT ?_ | refine L.go ?_ | refine L.pass ?_ | refine T.pU rfl ?_ | refine T.gT rfl (fun hgd => ?_) (fun hgd => ?_))
            | (show WOpsT _ (⟨_, .pick _ _ _, none⟩ :: _) _ _ _ _; first | refine L.pkT ?_ | refine L.pkF ?_ | refine L.pickT ?_ | refine L.pickF ?_ | refine L.pickB ?_ | refine T.pkD rfl (fun hgd => ?_) (fun hgd => ?_))
            | (show AKW _ _ _ _ _ _ _; first | refine N.now ?_)
            | (show AK _ _ (.cond _ _ _) _ _ _ _; first | refine N.c1 ?_ | refine N.c2 ?_ | refine N.c3 ?_ | refine N.c4 ?_ | refine N.condD rfl (fun hcd => ?_) (fun hcd => ?_) | refine N.condB rfl (fun hcd => ?_) (fun hcd => ?_) | refine N.condU rfl ?_ ?_)
            | (show AK _ _ _ _ _ _ _; first | refine N.seq ?_ | refine N.block ?_ | refine N.skip ?_ | refine N.exit ?_ | refine N.ret ?_)
            | (show RK _ _ _ _ _ _ _; simp only [rk, rk0, reduceIte, Nat.reduceEqDiff])
            | (show WOpsT _ _ _ _ _ _; first | refine L.ext ?_ | refine T.notD rfl ?_ | refine T.not rfl ?_ | refine L.fad ?_ | refine L.fadd ?_ | refine L.st ?_ | refine L.new ?_ | refine L.zero ?_ | refine L.len ?_ | refine L.lenS ?_ | refine L.lenN ?_)
            | refine hQ _ _ _ rfl ?_
            | refine hQN _ _ _ rfl ?_)
            all_goals first
              | exact WS.drop (n := 0) rfl rfl
              | (exfalso; omega)
          · rw [if_neg (by
              rintro (h | h)
              · cases h
              · exact hl2 h)] at hQ hQN
            repeat' (first
            | rw [co_mren]
            | rw [co_co]
            | rw [co_t12]
            | rw [co_t9]
            | rw [ri_t9]
            | rw [cp_t5]
            | rw [co_z]
            | rw [ri_mren]
            | rw [co_r]
            | rw [co_op]
            | rw [co_at]
            | rw [co_nmi]
            | rw [ri_splz]
            | rw [List.length_map]
            | refine N.regS fun K hK => ?_
            | refine N.dregS fun K hK => ?_
            | refine N.regN fun K hK => ?_
            | refine N.dregN fun K hK => ?_
            | simp only [T.mv, sm, AO.ev, put, lk, enter, reduceIte, Nat.reduceEqDiff, Nat.reduceAdd, Nat.reduceMul, Nat.reduceSub, Int.reduceNeg, Int.reduceToNat, upto, renB, setAll]
            | (refine T.nil ?_; (first | refine hK _ _ _ (by rfl) ?_ | refine hK _ _ _ ?_); (try simp only [keep, List.map, lk, reduceIte, Nat.reduceEqDiff, enter]); clear hK K)
            | (show WOpsT _ (⟨_, .call _ _, none⟩ :: _) _ _ _ _; first | refine T.call0 e128 rfl (hcy) ?_)
            | (show WOpsT _ (⟨_, .ld _ _, none⟩ :: _) _ _ _ _; first | refine L.ld ?_ | refine L.ldd ?_ | refine L.ldn ?_ | refine L.lddn ?_)
            | (show WOpsT _ (⟨_, .idx _ _ _ _, none⟩ :: _) _ _ _ _; first | refine L.idx ?_ | refine L.idxs ?_ | refine L.idxa ?_ | refine L.idxd ?_)
            | (show WOpsT _ (⟨_, .bin _ _ _, none⟩ :: _) _ _ _ _; first | refine L.add ?_ | refine L.bin ?_)
            | (show WOpsT _ (⟨_, _, some (_, true)⟩ :: _) _ _ _ _; first | refine L.goT ?_ | refine L.paT ?_ | refine L.go ?_ | refine L.pass ?_ | refine T.pU rfl ?_ | refine T.gT rfl (fun hgd => ?_) (fun hgd => ?_))
            | (show WOpsT _ (⟨_, .pick _ _ _, none⟩ :: _) _ _ _ _; first | refine L.pkT ?_ | refine L.pkF ?_ | refine L.pickT ?_ | refine L.pickF ?_ | refine L.pickB ?_ | refine T.pkD rfl (fun hgd => ?_) (fun hgd => ?_))
            | (show AKW _ _ _ _ _ _ _; first | refine N.now ?_)
            | (show AK _ _ (.cond _ _ _) _ _ _ _; first | refine N.c1 ?_ | refine N.c2 ?_ | refine N.c3 ?_ | refine N.c4 ?_ | refine N.condD rfl (fun hcd => ?_) (fun hcd => ?_) | refine N.condB rfl (fun hcd => ?_) (fun hcd => ?_) | refine N.condU rfl ?_ ?_)
            | (show AK _ _ _ _ _ _ _; first | refine N.seq ?_ | refine N.block ?_ | refine N.skip ?_ | refine N.exit ?_ | refine N.ret ?_)
            | (show RK _ _ _ _ _ _ _; simp only [rk, rk0, reduceIte, Nat.reduceEqDiff])
            | (show WOpsT _ _ _ _ _ _; first | refine L.ext ?_ | refine T.notD rfl ?_ | refine T.not rfl ?_ | refine L.fad ?_ | refine L.fadd ?_ | refine L.st ?_ | refine L.new ?_ | refine L.zero ?_ | refine L.len ?_ | refine L.lenS ?_ | refine L.lenN ?_)
            | refine hQ _ _ _ rfl ?_
            | refine hQN _ _ _ rfl ?_)
            all_goals first
              | exact WS.drop (n := 0) rfl rfl
              | (exfalso; omega)
end Go.Proofs.Ytjmmompbmjhkpaa.Calc

namespace Go.Proofs.Ytjmmompbmjhkpaa.Calc
open Go Code
set_option linter.unusedSimpArgs false
set_option linter.unusedVariables false
set_option maxRecDepth 20000
set_option maxHeartbeats 4000000
attribute [local irreducible] WOpsT AW AK RK AKW UK UC
def Bytes (m : List Int) : Prop := ∀ i, 0 ≤ m.getD i 0 ∧ m.getD i 0 < 256
abbrev memB (m : List Int) : Blk := ⟨1, 1, bcells m⟩
theorem wrap_u8 (n : Int) (h : 0 ≤ n ∧ n < 256) : IntKind.wrap .u8 n = n := by
  simp only [IntKind.wrap, IntKind.signed, IntKind.bits]
  simp
  try omega
def bytesN (l : List Int) (n i : Nat) : List Int := (List.range n).map fun j => if j < i then l.getD j 0 % 256 else 0
def bytesOf (l : List Int) (n : Nat) : List Int := (List.range n).map fun j => l.getD j 0 % 256
end Go.Proofs.Ytjmmompbmjhkpaa.Calc

namespace Go.Proofs.Ytjmmompbmjhkpaa.Calc
open Go Code
set_option linter.unusedSimpArgs false
set_option linter.unusedVariables false
set_option maxRecDepth 20000
set_option maxHeartbeats 4000000
attribute [local irreducible] WOpsT AW AK RK AKW UK UC
def memF (f : Nat → Int) : List Int := (List.range 65536).map f
def fA : Blk := ⟨1, 1, [[.psl 1 1 0 65536]]⟩
def fB (f : Nat → Int) : Blk := ⟨1, 1, bcells (memF f)⟩
def FB (f : Nat → Int) : Prop := ∀ i, 0 ≤ f i ∧ f i < 256
theorem memF_get (f : Nat → Int) (a : Nat) (ha : a < 65536) : (bcells (memF f))[a]? = some [.c (.int .u8 (f a))] := by
  rw [bcells_get]; unfold memF; rw [List.getElem?_map, List.getElem?_range ha]; rfl
theorem memF_set (f : Nat → Int) (a : Nat) (v : Int) : (memF f).set a v = memF (upd f a v) := by
  apply List.ext_getElem?
  intro j
  unfold memF
  rw [List.getElem?_set, List.length_map, List.length_range, List.getElem?_map]
  by_cases hj : j < 65536
  · by_cases h : a = j
    · subst h
      rw [if_pos rfl, if_pos hj, List.getElem?_map, List.getElem?_range hj]; simp [upd]
    · rw [if_neg h, List.getElem?_map, List.getElem?_range hj]; simp [upd, Ne.symm h]
  · rw [List.getElem?_map, List.getElem?_eq_none (l := List.range 65536) (by simp; omega)]
    by_cases h : a = j
    · rw [if_pos h, if_neg (by omega)]; rfl
    · rw [if_neg h]; rfl
theorem FB.upd {f : Nat → Int} (h : FB f) {v : Int} (hv : 0 ≤ v ∧ v < 256) (a : Nat) : FB (upd f a v) := by
  intro i; unfold Calc.upd; split
  · exact hv
  · exact h i
attribute [local irreducible] memF
theorem renB_fA {ids : List Nat} : renB (0 :: 1 :: ids) fA = fA := rfl
theorem renB_fB {ids : List Nat} {f : Nat → Int} : renB ids (fB f) = fB f := renB_bytes
theorem outB_fB {h : List Blk} {ids : List Nat} {n : Nat} {f : Nat → Int} : outB h ids n (fB f) = fB f := outB_bytes
theorem and16 (a : Int) (ha : 0 ≤ a ∧ a < 65536) : bits .and .i64 a 65535 = a := by
  have := BA.low_eq a 16 (by decide)
  rw [show (2 : Int) ^ 16 - 1 = 65535 by decide] at this
  rw [this, show (2 : Int) ^ 16 = 65536 by decide]; omega
theorem read_c (f : Nat → Int) (hf : FB f) (a : Int) (ha : 0 ≤ a ∧ a < 65536) : FnE Try.prog 213 [.ptr 0 1 0 0, I a] [fA, fB f] (I (f a.toNat)) [fA, fB f] := by
  have h1 := and16 a ha
  have h2 := hf a.toNat
  have h3 : IntKind.wrap .i64 (f a.toNat) = f a.toNat := BA.wrap_small _ (by omega) (by omega)
  refine N.fn Try.func213 k213 lb q213 fun Q hQ hQN => ?_
  rw [c213]
  repeat' (first
  | rw [h1]
  | (show WOpsT _ (⟨_, .ld _ _, none⟩ :: _) _ _ _ _; refine T.ld rfl rfl rfl (memF_get f a.toNat (by omega)) rfl ?_)
  | rw [h3]
  | refine N.regS fun K hK => ?_
  | refine N.dregS fun K hK => ?_
  | refine N.regN fun K hK => ?_
  | refine N.dregN fun K hK => ?_
  | simp only [T.mv, sm, AO.ev, put, lk, enter, reduceIte, Nat.reduceEqDiff, Nat.reduceAdd, Nat.reduceMul, Nat.reduceSub, Int.reduceNeg, Int.reduceToNat, upto, renB, setAll]
  | (refine T.nil ?_; (first | refine hK _ _ _ (by rfl) ?_ | refine hK _ _ _ ?_); (try simp only [keep, List.map, lk, reduceIte, Nat.reduceEqDiff, enter]); clear hK K)
  | (show WOpsT _ (⟨_, .ld _ _, none⟩ :: _) _ _ _ _; first | refine L.ld ?_ | refine L.ldd ?_)
  | (show WOpsT _ (⟨_, .idx _ _ _ _, none⟩ :: _) _ _ _ _; first | refine L.idx ?_ | refine L.idxs ?_)
  | (show WOpsT _ (⟨_, .bin _ _ _, none⟩ :: _) _ _ _ _; first | refine L.bin ?_)
  | (show AKW _ _ _ _ _ _ _; first | refine N.now ?_)
  | (show AK _ _ _ _ _ _ _; first | refine N.seq ?_ | refine N.ret ?_)
  | (show RK _ _ _ _ _ _ _; simp only [rk, rk0, reduceIte, Nat.reduceEqDiff])
  | (show WOpsT _ _ _ _ _ _; first | refine T.cvt rfl ?_ | refine L.fad ?_ | refine L.fadd ?_ | refine L.nilc ?_ | refine L.nilcd ?_ | refine T.nilcf rfl ?_ | refine T.nilci rfl ?_)
  | refine hQ _ _ _ rfl ?_
  | refine hQN _ _ _ rfl ?_)
  exact WS.gc [0, 1] 0 rfl (by show [_, fB f] = [_, outB _ _ _ (fB f)]; rw [outB_fB]; rfl) .rfl
theorem write_c (f : Nat → Int) (a v : Int) (ha : 0 ≤ a ∧ a < 65536) (hv : 0 ≤ v ∧ v < 256) : FnE Try.prog 214 [.ptr 0 1 0 0, I a, I v] [fA, fB f] (.tup []) [fA, fB (upd f a.toNat v)] := by
  have h1 := and16 a ha
  have h3 : IntKind.wrap .u8 v = v := wrap_u8 v hv
  have hs : (bcells (memF f)).set a.toNat [.c (.int .u8 v)] = bcells (memF (upd f a.toNat v)) := by rw [bcells_set, memF_set]
  refine N.fn Try.func214 k214 lb q214 fun Q hQ hQN => ?_
  rw [c214]
  repeat' (first
  | rw [h1]
  | rw [h3]
  | (show WOpsT _ (⟨_, .st _ _ _, none⟩ :: _) _ _ _ _; refine T.st rfl rfl rfl ⟨rfl, rfl⟩ (memF_get f a.toNat (by omega)) lb ?_)
  | refine N.regS fun K hK => ?_
  | refine N.dregS fun K hK => ?_
  | refine N.regN fun K hK => ?_
  | refine N.dregN fun K hK => ?_
  | simp only [T.mv, sm, AO.ev, put, lk, enter, reduceIte, Nat.reduceEqDiff, Nat.reduceAdd, Nat.reduceMul, Nat.reduceSub, Int.reduceNeg, Int.reduceToNat, upto, renB, setAll]
  | (refine T.nil ?_; (first | refine hK _ _ _ (by rfl) ?_ | refine hK _ _ _ ?_); (try simp only [keep, List.map, lk, reduceIte, Nat.reduceEqDiff, enter]); clear hK K)
  | (show WOpsT _ (⟨_, .ld _ _, none⟩ :: _) _ _ _ _; first | refine L.ld ?_ | refine L.ldd ?_)
  | (show WOpsT _ (⟨_, .idx _ _ _ _, none⟩ :: _) _ _ _ _; first | refine L.idx ?_ | refine L.idxs ?_)
  | (show WOpsT _ (⟨_, .bin _ _ _, none⟩ :: _) _ _ _ _; first | refine L.bin ?_)
  | (show AKW _ _ _ _ _ _ _; first | refine N.now ?_)
  | (show AK _ _ _ _ _ _ _; first | refine N.seq ?_ | refine N.ret ?_)
  | (show RK _ _ _ _ _ _ _; simp only [rk, rk0, reduceIte, Nat.reduceEqDiff])
  | (show WOpsT _ _ _ _ _ _; first | refine T.cvt rfl ?_ | refine L.fad ?_ | refine L.fadd ?_ | refine L.nilc ?_ | refine L.nilcd ?_ | refine T.nilcf rfl ?_ | refine T.nilci rfl ?_ | refine L.st ?_)
  | refine hQ _ _ _ rfl ?_
  | refine hQN _ _ _ rfl ?_)
  exact WS.gc [0, 1] 0 rfl (by show [_, fB (upd f a.toNat v)] = [_, outB _ _ _ ⟨1, 1, (bcells (memF f)).set a.toNat [.c (.int .u8 v)]⟩]; rw [hs, outB_bytes]; rfl) .rfl
def cycleM (c : Cpu) (k : Core) (irq : Bool) (f : Nat → Int) : Core × Bus × (Nat → Int) :=
  if (askM c k irq).2.d = 1 then (tellM c (askM c k irq).1 (f (askM c k irq).2.addr.toNat), ⟨1, (askM c k irq).2.addr, f (askM c k irq).2.addr.toNat⟩, f)
  else if (askM c k irq).2.d = 2 then (tellM c (askM c k irq).1 (askM c k irq).2.data, (askM c k irq).2, upd f (askM c k irq).2.addr.toNat (askM c k irq).2.data)
  else (tellM c (askM c k irq).1 (askM c k irq).2.data, (askM c k irq).2, f)
theorem place_in (a : Int) (r : Nat → Int) (hr : Fits r) : 0 ≤ (placeM a r).1 ∧ (placeM a r).1 < 65536 := by
  have r7 := hr 7 (by decide)
  have r8 := hr 8 (by decide)
  have r3 := hr 3 (by decide)
  simp at r7 r8 r3
  unfold placeM
  split
  · exact r7
  split
  · exact r7
  split
  · exact r8
  split
  · dsimp only; omega
  split
  · dsimp only; omega
  split
  · dsimp only; omega
  split
  · dsimp only; omega
  · have : a = 6 ∨ a = 7 ∨ a = 8 ∨ a = 9 ∨ a = 10 ∨ a = 11 := by omega
    rcases this with rfl | rfl | rfl | rfl | rfl | rfl <;> (dsimp only; decide)
theorem askA_fits (c : Cpu) (k : Core) (irq : Bool) : Fits (askA c k irq).r := by
  have : (askA c k irq).r = fitR k.r := by
    unfold askA; split
    · exact startM_r _ _ _
    · rfl
  rw [this]; exact fitR_fits _
theorem ask_in (c : Cpu) (k : Core) (irq : Bool) : (0 ≤ (askM c k irq).2.addr ∧ (askM c k irq).2.addr < 65536) ∧ 0 ≤ (askM c k irq).2.data ∧ (askM c k irq).2.data < 256 := by
  have hf := askA_fits c k irq
  unfold askM askB
  generalize askA c k irq = q at *
  split
  · exact ⟨place_in _ _ hf, by dsimp only; omega, by dsimp only; omega⟩
  · split
    · exact ⟨⟨by dsimp only; omega, by dsimp only; omega⟩, by dsimp only; omega, by dsimp only; omega⟩
    · split
      · exact ⟨⟨by dsimp only; omega, by dsimp only; omega⟩, by dsimp only; omega, by dsimp only; omega⟩
      · refine ⟨place_in _ _ hf, ?_⟩
        unfold dataM
        split <;> (dsimp only; omega)
theorem bu_mren (b : Bus) (ks : List Nat) : (buC b).map (ren ks) = buC b := rfl
theorem bu_t3 (b : Bus) : (buC b).take 3 = buC b := rfl
theorem bu_z (b : Bus) : spl [I 0, I 0, I 0] 0 (buC b) = buC b := rfl
theorem bu_data (d a x v : Int) : spl (buC ⟨d, a, x⟩) 2 [I v] = buC ⟨d, a, v⟩ := rfl
theorem cycle_c (c : Cpu) (hc : SmlP c) (k : Core) (irq : Bool) (f : Nat → Int) (hf : FB f) : FnE Try.prog 86 [.agg (cpC c), .agg (coC k), .c (.bool irq), .ifc 98 (.ptr 0 1 0 0)] [fA, fB f] (.tup [.agg (coC (cycleM c k irq f).1), .agg (buC (cycleM c k irq f).2.1)]) [fA, fB (cycleM c k irq f).2.2] := by
  have ha := ask_c c k irq hc.1
  have hin := ask_in c k irq
  unfold cycleM
  generalize askM c k irq = q at *
  obtain ⟨⟨r1, op1, a1, n1⟩, ⟨d, ad, da⟩⟩ := q
  obtain ⟨r, op, a, nmi⟩ := k
  dsimp only at hin ⊢
  dsimp only [coC] at ha
  show FnE _ _ [.agg (cpC c), .agg (coA r op a nmi), .c (.bool irq), .ifc 98 (.ptr 0 1 0 0)] [fA, fB f] _ _
  have ht : ∀ x, FnE Try.prog 69 [.agg (cpC c), .agg (coA r1 op1 a1 n1), I x] [] (.agg (coC (tellM c ⟨r1, op1, a1, n1⟩ x))) [] := fun x => tell_c c hc ⟨r1, op1, a1, n1⟩ x
  by_cases h1 : d = 1
  · subst h1
    rw [if_pos rfl]
    have hr := read_c f hf ad hin.1
    have hl := low8 (f ad.toNat)
    have hfa := hf ad.toNat
    rw [show f ad.toNat % 256 = f ad.toNat by omega] at hl
    have ht := ht (f ad.toNat)
    generalize tellM c ⟨r1, op1, a1, n1⟩ (f ad.toNat) = k2 at *
    obtain ⟨r2, op2, a2, n2⟩ := k2
    dsimp only [coC] at ht ⊢
    refine N.fn Try.func86 k86 lb q86 fun Q hQ hQN => ?_
    rw [c86]
    repeat' (first
    | rw [co_mren]
    | rw [co_co]
    | rw [co_t12]
    | rw [co_t9]
    | rw [cp_t5]
    | rw [co_z]
    | rw [bu_mren]
    | rw [bu_t3]
    | rw [bu_z]
    | rw [bu_data]
    | simp only [renB_fA, renB_fB]
    | (show WOpsT _ (⟨_, .inv _ _ _, none⟩ :: _) _ _ _ _; refine T.ofInv rfl (C.read [0, 1] e213 rfl (hr) (by first | rfl | exact pasH_nil | (unfold pasH; simp only [List.map]; (repeat' (first | rfl | exact pasB_bytes | exact pasB_ints | exact pasB_flat | refine consE ?_ ?_)); done) | simp [pasH, pasB, cells_pas, bcells_pas]) rfl rfl rfl (by first | rfl | ((repeat' (first | rfl | exact renB_bytes | exact renB_ints | exact renB_flat | refine consE ?_ ?_)); done) | simp [renB, cells_ren, bcells_ren]) ?_))
    | refine N.regS fun K hK => ?_
    | refine N.dregS fun K hK => ?_
    | refine N.regN fun K hK => ?_
    | refine N.dregN fun K hK => ?_
    | simp only [T.mv, sm, AO.ev, put, lk, enter, reduceIte, Nat.reduceEqDiff, Nat.reduceAdd, Nat.reduceMul, Nat.reduceSub, Int.reduceNeg, Int.reduceToNat, upto, renB, setAll]
    | (refine T.nil ?_; (first | refine hK _ _ _ (by rfl) ?_ | refine hK _ _ _ ?_); (try simp only [keep, List.map, lk, reduceIte, Nat.reduceEqDiff, enter]); clear hK K)
    | (show WOpsT _ (⟨_, .call _ _, none⟩ :: _) _ _ _ _; first | refine T.call0 e71 rfl (ha) ?_ | refine T.call0 e35 rfl (hl) ?_ | refine T.call0 e69 rfl (ht) ?_)
    | (show WOpsT _ (⟨_, .ld _ _, none⟩ :: _) _ _ _ _; first | refine L.ld ?_ | refine L.ldd ?_ | refine L.ldn ?_ | refine L.lddn ?_)
    | (show WOpsT _ (⟨_, .bin _ _ _, none⟩ :: _) _ _ _ _; first | refine L.bin ?_)
    | (show AKW _ _ _ _ _ _ _; first | refine N.now ?_)
    | (show AK _ _ (.cond _ _ _) _ _ _ _; first | refine N.c1 ?_ | refine N.c2 ?_ | refine N.c3 ?_ | refine N.c4 ?_ | refine N.condD rfl (fun hcd => ?_) (fun hcd => ?_) | refine N.condB rfl (fun hcd => ?_) (fun hcd => ?_) | refine N.condU rfl ?_ ?_)
    | (show AK _ _ _ _ _ _ _; first | refine N.seq ?_ | refine N.block ?_ | refine N.skip ?_ | refine N.ret ?_)
    | (show RK _ _ _ _ _ _ _; simp only [rk, rk0, reduceIte, Nat.reduceEqDiff])
    | (show WOpsT _ _ _ _ _ _; first | refine L.ext ?_ | refine L.fad ?_ | refine L.fadd ?_ | refine L.st ?_ | refine L.new ?_ | refine L.zero ?_)
    | refine hQ _ _ _ rfl ?_
    | refine hQN _ _ _ rfl ?_)
    exact WS.gc [0, 1] 0 rfl (by show [_, _] = [_, outB _ _ _ (fB f)]; rw [outB_fB]; rfl) .rfl
  rw [if_neg h1]
  have ht := ht da
  by_cases h2 : d = 2
  · subst h2
    rw [if_pos rfl]
    have hw := write_c f ad da hin.1 hin.2
    dsimp only
    generalize tellM c ⟨r1, op1, a1, n1⟩ da = k2 at *
    obtain ⟨r2, op2, a2, n2⟩ := k2
    dsimp only [coC] at ht ⊢
    refine N.fn Try.func86 k86 lb q86 fun Q hQ hQN => ?_
    rw [c86]
    repeat' (first
    | rw [co_mren]
    | rw [co_co]
    | rw [co_t12]
    | rw [co_t9]
    | rw [cp_t5]
    | rw [co_z]
    | rw [bu_mren]
    | rw [bu_t3]
    | rw [bu_z]
    | rw [bu_data]
    | simp only [renB_fA, renB_fB]
    | (show WOpsT _ (⟨_, .inv _ _ _, none⟩ :: _) _ _ _ _; refine T.ofInv rfl (C.pass [0, 1] e214 rfl (hw) (by first | rfl | exact pasH_nil | (unfold pasH; simp only [List.map]; (repeat' (first | rfl | exact pasB_bytes | exact pasB_ints | exact pasB_flat | refine consE ?_ ?_)); done) | simp [pasH, pasB, cells_pas, bcells_pas]) rfl rfl rfl ?_))
    | refine N.regS fun K hK => ?_
    | refine N.dregS fun K hK => ?_
    | refine N.regN fun K hK => ?_
    | refine N.dregN fun K hK => ?_
    | simp only [T.mv, sm, AO.ev, put, lk, enter, reduceIte, Nat.reduceEqDiff, Nat.reduceAdd, Nat.reduceMul, Nat.reduceSub, Int.reduceNeg, Int.reduceToNat, upto, renB, setAll]
    | (refine T.nil ?_; (first | refine hK _ _ _ (by rfl) ?_ | refine hK _ _ _ ?_); (try simp only [keep, List.map, lk, reduceIte, Nat.reduceEqDiff, enter]); clear hK K)
    | (show WOpsT _ (⟨_, .call _ _, none⟩ :: _) _ _ _ _; first | refine T.call0 e71 rfl (ha) ?_ | refine T.call0 e69 rfl (ht) ?_)
    | (show WOpsT _ (⟨_, .ld _ _, none⟩ :: _) _ _ _ _; first | refine L.ld ?_ | refine L.ldd ?_ | refine L.ldn ?_ | refine L.lddn ?_)
    | (show WOpsT _ (⟨_, .bin _ _ _, none⟩ :: _) _ _ _ _; first | refine L.bin ?_)
    | (show AKW _ _ _ _ _ _ _; first | refine N.now ?_)
    | (show AK _ _ (.cond _ _ _) _ _ _ _; first | refine N.c1 ?_ | refine N.c2 ?_ | refine N.c3 ?_ | refine N.c4 ?_ | refine N.condD rfl (fun hcd => ?_) (fun hcd => ?_) | refine N.condB rfl (fun hcd => ?_) (fun hcd => ?_) | refine N.condU rfl ?_ ?_)
    | (show AK _ _ _ _ _ _ _; first | refine N.seq ?_ | refine N.block ?_ | refine N.skip ?_ | refine N.ret ?_)
    | (show RK _ _ _ _ _ _ _; simp only [rk, rk0, reduceIte, Nat.reduceEqDiff])
    | (show WOpsT _ _ _ _ _ _; first | refine L.ext ?_ | refine L.fad ?_ | refine L.fadd ?_ | refine L.st ?_ | refine L.new ?_ | refine L.zero ?_)
    | refine hQ _ _ _ rfl ?_
    | refine hQN _ _ _ rfl ?_)
    exact WS.gc [0, 1] 0 rfl (by show [_, _] = [outB _ _ _ (renB [0, 1] fA), outB _ _ _ (renB [0, 1] (fB (upd f ad.toNat da)))]; rw [renB_fB, outB_fB]; rfl) .rfl
  · rw [if_neg h2]
    dsimp only
    generalize tellM c ⟨r1, op1, a1, n1⟩ da = k2 at *
    obtain ⟨r2, op2, a2, n2⟩ := k2
    dsimp only [coC] at ht ⊢
    refine N.fn Try.func86 k86 lb q86 fun Q hQ hQN => ?_
    rw [c86]
    repeat' (first
    | rw [co_mren]
    | rw [co_co]
    | rw [co_t12]
    | rw [co_t9]
    | rw [cp_t5]
    | rw [co_z]
    | rw [bu_mren]
    | rw [bu_t3]
    | rw [bu_z]
    | rw [bu_data]
    | simp only [renB_fA, renB_fB]
    | refine N.regS fun K hK => ?_
    | refine N.dregS fun K hK => ?_
    | refine N.regN fun K hK => ?_
    | refine N.dregN fun K hK => ?_
    | simp only [T.mv, sm, AO.ev, put, lk, enter, reduceIte, Nat.reduceEqDiff, Nat.reduceAdd, Nat.reduceMul, Nat.reduceSub, Int.reduceNeg, Int.reduceToNat, upto, renB, setAll]
    | (refine T.nil ?_; (first | refine hK _ _ _ (by rfl) ?_ | refine hK _ _ _ ?_); (try simp only [keep, List.map, lk, reduceIte, Nat.reduceEqDiff, enter]); clear hK K)
    | (show WOpsT _ (⟨_, .call _ _, none⟩ :: _) _ _ _ _; first | refine T.call0 e71 rfl (ha) ?_ | refine T.call0 e69 rfl (ht) ?_)
    | (show WOpsT _ (⟨_, .ld _ _, none⟩ :: _) _ _ _ _; first | refine L.ld ?_ | refine L.ldd ?_ | refine L.ldn ?_ | refine L.lddn ?_)
    | (show WOpsT _ (⟨_, .bin _ _ _, none⟩ :: _) _ _ _ _; first | refine L.bin ?_)
    | (show AKW _ _ _ _ _ _ _; first | refine N.now ?_)
    | (show AK _ _ (.cond _ _ _) _ _ _ _; first | refine N.c1 ?_ | refine N.c2 ?_ | refine N.c3 ?_ | refine N.c4 ?_ | refine N.condD rfl (fun hcd => ?_) (fun hcd => ?_) | refine N.condB rfl (fun hcd => ?_) (fun hcd => ?_) | refine N.condU rfl ?_ ?_)
    | (show AK _ _ _ _ _ _ _; first | refine N.seq ?_ | refine N.block ?_ | refine N.skip ?_ | refine N.ret ?_)
    | (show RK _ _ _ _ _ _ _; simp only [rk, rk0, reduceIte, Nat.reduceEqDiff])
    | (show WOpsT _ _ _ _ _ _; first | refine L.ext ?_ | refine L.fad ?_ | refine L.fadd ?_ | refine L.st ?_ | refine L.new ?_ | refine L.zero ?_)
    | refine hQ _ _ _ rfl ?_
    | refine hQN _ _ _ rfl ?_)
    all_goals first
      | exact WS.gc [0, 1] 0 rfl (by show [_, _] = [_, outB _ _ _ (fB f)]; rw [outB_fB]; rfl) .rfl
      | (exfalso; omega)
end Go.Proofs.Ytjmmompbmjhkpaa.Calc

namespace Go.Proofs.Ytjmmompbmjhkpaa.Calc
open Go Code
set_option linter.unusedSimpArgs false
set_option linter.unusedVariables false
set_option maxRecDepth 20000
set_option maxHeartbeats 4000000
attribute [local irreducible] WOpsT AW AK RK AKW UK UC memF
def runFrom (c : Cpu) : Nat → Core → List Bus → (Nat → Int) → Core × List Bus × (Nat → Int)
  | 0, k, bs, f => (k, bs, f)
  | n + 1, k, bs, f => if (cycleM c k false f).1.op = -1 ∨ (cycleM c k false f).1.op = 259 then ((cycleM c k false f).1, bs ++ [(cycleM c k false f).2.1], (cycleM c k false f).2.2)
      else runFrom c n (cycleM c k false f).1 (bs ++ [(cycleM c k false f).2.1]) (cycleM c k false f).2.2
def runM (c : Cpu) (k : Core) (f : Nat → Int) : Core × List Bus × (Nat → Int) := runFrom c 20 k [] f
theorem cycle_fb (c : Cpu) (k : Core) (irq : Bool) (f : Nat → Int) (hf : FB f) : FB (cycleM c k irq f).2.2 := by
  have hin := ask_in c k irq
  unfold cycleM
  split
  · exact hf
  · split
    · exact hf.upd hin.2 _
    · exact hf
theorem runFrom_fb (c : Cpu) : ∀ (n : Nat) (k : Core) (bs : List Bus) (f : Nat → Int), FB f → FB (runFrom c n k bs f).2.2 := by
  intro n
  induction n with
  | zero => intro k bs f hf; exact hf
  | succ n ih =>
    intro k bs f hf
    unfold runFrom
    split
    · exact cycle_fb c k false f hf
    · exact ih _ _ _ (cycle_fb c k false f hf)
theorem Sub.ofE {a b : V} (h : a = b) : Sub a b := by rw [h]; exact .rfl
instance : Flat buC := ⟨fun a x hx => by simp [buC] at hx; rcases hx with rfl | rfl | rfl <;> exact .inl ⟨_, rfl⟩⟩
theorem outB_flatB {α : Type} {f : α → List V} [Flat f] {h : List Blk} {ids : List Nat} {n v e : Nat} {l : List α} {rows : List (List V)} : outB h ids n ⟨v, e, l.map f ++ rows⟩ = ⟨v, e, l.map f ++ rows.map (·.map (out h ids n))⟩ := by
  simp only [outB, List.map_append]; rw [flat_rows (fun _ => out_c) (fun _ _ => out_sl)]
theorem run_c (c : Cpu) (hc : SmlP c) (k0 : Core) (f0 : Nat → Int) (hf0 : FB f0) : FnE Try.prog 80 [.agg (cpC c), .agg (coC k0), .ifc 98 (.ptr 0 1 0 0)] [fA, fB f0] (.tup [.agg (coC (runM c k0 f0).1), .sl 3 ((runM c k0 f0).2.1.map buC)]) [fA, fB (runM c k0 f0).2.2] := by
  unfold runM
  generalize hfin : runFrom c 20 k0 [] f0 = F
  refine N.fn Try.func80 k80 lb q80 fun Q hQ hQN => ?_
  rw [c80]
  repeat' (first
  | rw [co_mren]
  | rw [co_co]
  | rw [co_t12]
  | rw [co_t9]
  | rw [cp_t5]
  | rw [co_z]
  | rw [bu_mren]
  | rw [bu_t3]
  | rw [bu_z]
  | rw [bu_data]
  | simp only [renB_fA, renB_fB]
  | refine N.regS fun K hK => ?_
  | refine N.dregS fun K hK => ?_
  | refine N.regN fun K hK => ?_
  | refine N.dregN fun K hK => ?_
  | simp only [T.mv, sm, AO.ev, put, lk, enter, reduceIte, Nat.reduceEqDiff, Nat.reduceAdd, Nat.reduceMul, Nat.reduceSub, Int.reduceNeg, Int.reduceToNat, upto, renB, setAll]
  | (refine T.nil ?_; (first | refine hK _ _ _ (by rfl) ?_ | refine hK _ _ _ ?_); (try simp only [keep, List.map, lk, reduceIte, Nat.reduceEqDiff, enter]); clear hK K)
  | (show WOpsT _ (⟨_, .ld _ _, none⟩ :: _) _ _ _ _; first | refine L.ld ?_ | refine L.ldd ?_ | refine L.ldn ?_ | refine L.lddn ?_)
  | (show WOpsT _ (⟨_, .bin _ _ _, none⟩ :: _) _ _ _ _; first | refine L.add ?_ | refine L.bin ?_)
  | (show WOpsT _ (⟨_, _, some (_, false)⟩ :: _) _ _ _ _; first | refine L.goF ?_ | refine L.paF ?_ | refine L.go ?_ | refine L.pass ?_ | refine T.pU rfl ?_ | refine T.gF rfl (fun hgd => ?_) (fun hgd => ?_))
  | (show WOpsT _ (⟨_, .pick _ _ _, none⟩ :: _) _ _ _ _; first | refine L.pkT ?_ | refine L.pkF ?_ | refine L.pickT ?_ | refine L.pickF ?_ | refine L.pickB ?_ | refine T.pkD rfl (fun hgd => ?_) (fun hgd => ?_))
  | (show AKW _ _ _ _ _ _ _; first | refine N.now ?_)
  | (show AK _ _ (.cond _ _ _) _ _ _ _; first | refine N.c1 ?_ | refine N.c2 ?_ | refine N.c3 ?_ | refine N.c4 ?_ | refine N.condD rfl (fun hcd => ?_) (fun hcd => ?_) | refine N.condB rfl (fun hcd => ?_) (fun hcd => ?_) | refine N.condU rfl ?_ ?_)
  | (show AK _ _ _ _ _ _ _; first | refine N.seq ?_ | refine N.block ?_ | refine N.skip ?_ | refine N.exit ?_ | refine N.ret ?_)
  | (show RK _ _ _ _ _ _ _; simp only [rk, rk0, reduceIte, Nat.reduceEqDiff])
  | (show WOpsT _ _ _ _ _ _; first | refine L.ext ?_ | refine L.fad ?_ | refine L.fadd ?_ | refine L.st ?_ | refine L.new ?_ | refine L.zero ?_ | refine L.bsl ?_)
  | refine hQ _ _ _ rfl ?_
  | refine hQN _ _ _ rfl ?_)
  refine N.loop (σ := Nat × Core × List Bus × (Nat → Int)) (fun s => [(2, .ifc 98 (.ptr 0 1 0 0)), (3, .ptr 2 1 0 0), (4, .ptr 3 1 0 0), (6, .ptr 4 1 0 0), (8, .psl 5 (s.2.2.1.length + 1) 0 s.2.2.1.length), (10, I s.1)]) (fun s => [fA, fB s.2.2.2, ⟨1, 5, [cpC c]⟩, ⟨1, 12, [coC s.2.1]⟩, ⟨1, 12, [[I 0, I 0, I 0, I 0, I 0, I 0, I 0, I 0, I 0, I 0, I 0, .c (.bool false)]]⟩, ⟨s.2.2.1.length + 1, 3, s.2.2.1.map buC⟩]) (fun s => s.1 ≤ 20 ∧ s.2.2.1.length = s.1 ∧ FB s.2.2.2 ∧ runFrom c (20 - s.1) s.2.1 s.2.2.1 s.2.2.2 = F) (fun s => 20 - s.1) (0, k0, [], f0) ⟨Nat.zero_le _, rfl, hf0, hfin⟩ (Weaks.nilAs 8 3 (by decide) rfl (Weaks.sel (by repeat (first | exact trivial | refine ⟨.rfl, ?_⟩ | refine ⟨.any, ?_⟩)) rfl)) fun w hi R hC => ?_
  obtain ⟨i, k, bs, f⟩ := w
  obtain ⟨hi, hbl, hf, hst⟩ := hi
  dsimp only at hi hbl hf hst hC ⊢
  by_cases hil : i < 20
  · have hcy := cycle_c c hc k false f hf
    have hfb := cycle_fb c k false f hf
    rw [show 20 - i = 20 - (i + 1) + 1 by omega] at hst
    unfold runFrom at hst
    generalize cycleM c k false f = q at *
    obtain ⟨k2, b2, f2⟩ := q
    obtain ⟨r1, op1, a1, n1⟩ := k
    obtain ⟨r2, op2, a2, n2⟩ := k2
    dsimp only [coC] at hcy hst hfb
    rw [show coC ⟨r1, op1, a1, n1⟩ = coA r1 op1 a1 n1 from rfl]
    have hsn : bs.map buC ++ [buC b2] = (bs ++ [b2]).map buC := by rw [List.map_append]; rfl
    have hAPP : bs.length + 1 ≤ 21 := by omega
    have hl2 : (bs ++ [b2]).length = bs.length + 1 := by simp
    by_cases ho : op2 = -1 ∨ op2 = 259
    · rw [if_pos ho] at hst
      subst hst
      dsimp only at hQ hQN
      repeat' (first
      | rw [co_mren]
      | rw [co_co]
      | rw [co_t12]
      | rw [co_t9]
      | rw [cp_t5]
      | rw [co_z]
      | rw [bu_mren]
      | rw [bu_t3]
      | rw [bu_z]
      | rw [bu_data]
      | simp only [renB_fA, renB_fB]
      | (show WOpsT _ (⟨_, .app _ _ _ _, none⟩ :: _) _ _ _ _; refine T.app rfl rfl rfl ⟨by decide, by decide⟩ ⟨rfl, rfl, by rw [Nat.zero_add, List.length_map], by simp; omega⟩ ?_)
      | refine N.regS fun K hK => ?_
      | refine N.dregS fun K hK => ?_
      | refine N.regN fun K hK => ?_
      | refine N.dregN fun K hK => ?_
      | simp only [T.mv, sm, AO.ev, put, lk, enter, reduceIte, Nat.reduceEqDiff, Nat.reduceAdd, Nat.reduceMul, Nat.reduceSub, Int.reduceNeg, Int.reduceToNat, upto, renB, setAll]
      | (refine T.nil ?_; (first | refine hK _ _ _ (by rfl) ?_ | refine hK _ _ _ ?_); (try simp only [keep, List.map, lk, reduceIte, Nat.reduceEqDiff, enter]); clear hK K)
      | (show WOpsT _ (⟨_, .call _ _, none⟩ :: _) _ _ _ _; first | refine T.cP [0, 1] e86 (hcy) ?_)
      | (show WOpsT _ (⟨_, .ld _ _, none⟩ :: _) _ _ _ _; first | refine L.ld ?_ | refine L.ldd ?_ | refine L.ldn ?_ | refine L.lddn ?_)
      | (show WOpsT _ (⟨_, .bin _ _ _, none⟩ :: _) _ _ _ _; first | refine L.add ?_ | refine L.bin ?_)
      | (show WOpsT _ (⟨_, _, some (_, false)⟩ :: _) _ _ _ _; first | refine L.goF ?_ | refine L.paF ?_ | refine L.go ?_ | refine L.pass ?_ | refine T.pU rfl ?_ | refine T.gF rfl (fun hgd => ?_) (fun hgd => ?_))
      | (show WOpsT _ (⟨_, .pick _ _ _, none⟩ :: _) _ _ _ _; first | refine L.pkT ?_ | refine L.pkF ?_ | refine L.pickT ?_ | refine L.pickF ?_ | refine L.pickB ?_ | refine T.pkD rfl (fun hgd => ?_) (fun hgd => ?_))
      | (show AKW _ _ _ _ _ _ _; first | refine N.now ?_)
      | (show AK _ _ (.cond _ _ _) _ _ _ _; first | refine N.c1 ?_ | refine N.c2 ?_ | refine N.c3 ?_ | refine N.c4 ?_ | refine N.condD rfl (fun hcd => ?_) (fun hcd => ?_) | refine N.condB rfl (fun hcd => ?_) (fun hcd => ?_) | refine N.condU rfl ?_ ?_)
      | (show AK _ _ _ _ _ _ _; first | refine N.seq ?_ | refine N.block ?_ | refine N.skip ?_ | refine N.exit ?_ | refine N.ret ?_)
      | (show RK _ _ _ _ _ _ _; simp only [rk, rk0, reduceIte, Nat.reduceEqDiff])
      | (show WOpsT _ _ _ _ _ _; first | refine L.ext ?_ | refine L.fad ?_ | refine L.fadd ?_ | refine L.st ?_ | refine L.new ?_ | refine L.zero ?_ | refine L.bsl ?_)
      | refine hQ _ _ _ rfl ?_
      | refine hQN _ _ _ rfl ?_)
      all_goals first
        | exact WS.gc [0, 1] 1 rfl (by show [_, _] = [outB _ _ _ (renB [0, 1] fA), outB _ _ _ (renB [0, 1] (fB f2))]; rw [renB_fB, outB_fB]; rfl) (Sub.tup2 .rfl (Sub.ofE (out_rowsK (f := buC) (l := bs ++ [b2]) rfl (by rw [← hsn]; rfl) (Nat.le_of_eq hl2))))
        | (exfalso; omega)
    · rw [if_neg ho] at hst
      repeat' (first
      | rw [co_mren]
      | rw [co_co]
      | rw [co_t12]
      | rw [co_t9]
      | rw [cp_t5]
      | rw [co_z]
      | rw [bu_mren]
      | rw [bu_t3]
      | rw [bu_z]
      | rw [bu_data]
      | simp only [renB_fA, renB_fB]
      | (show WOpsT _ (⟨_, .app _ _ _ _, none⟩ :: _) _ _ _ _; refine T.app rfl rfl rfl ⟨by decide, by decide⟩ ⟨rfl, rfl, by rw [Nat.zero_add, List.length_map], by simp; omega⟩ ?_)
      | refine N.regS fun K hK => ?_
      | refine N.dregS fun K hK => ?_
      | refine N.regN fun K hK => ?_
      | refine N.dregN fun K hK => ?_
      | simp only [T.mv, sm, AO.ev, put, lk, enter, reduceIte, Nat.reduceEqDiff, Nat.reduceAdd, Nat.reduceMul, Nat.reduceSub, Int.reduceNeg, Int.reduceToNat, upto, renB, setAll]
      | (refine T.nil ?_; (first | refine hK _ _ _ (by rfl) ?_ | refine hK _ _ _ ?_); (try simp only [keep, List.map, lk, reduceIte, Nat.reduceEqDiff, enter]); clear hK K)
      | (show WOpsT _ (⟨_, .call _ _, none⟩ :: _) _ _ _ _; first | refine T.cP [0, 1] e86 (hcy) ?_)
      | (show WOpsT _ (⟨_, .ld _ _, none⟩ :: _) _ _ _ _; first | refine L.ld ?_ | refine L.ldd ?_ | refine L.ldn ?_ | refine L.lddn ?_)
      | (show WOpsT _ (⟨_, .bin _ _ _, none⟩ :: _) _ _ _ _; first | refine L.add ?_ | refine L.bin ?_)
      | (show WOpsT _ (⟨_, _, some (_, false)⟩ :: _) _ _ _ _; first | refine L.goF ?_ | refine L.paF ?_ | refine L.go ?_ | refine L.pass ?_ | refine T.pU rfl ?_ | refine T.gF rfl (fun hgd => ?_) (fun hgd => ?_))
      | (show WOpsT _ (⟨_, .pick _ _ _, none⟩ :: _) _ _ _ _; first | refine L.pkT ?_ | refine L.pkF ?_ | refine L.pickT ?_ | refine L.pickF ?_ | refine L.pickB ?_ | refine T.pkD rfl (fun hgd => ?_) (fun hgd => ?_))
      | (show AKW _ _ _ _ _ _ _; first | refine N.now ?_)
      | (show AK _ _ (.cond _ _ _) _ _ _ _; first | refine N.c1 ?_ | refine N.c2 ?_ | refine N.c3 ?_ | refine N.c4 ?_ | refine N.condD rfl (fun hcd => ?_) (fun hcd => ?_) | refine N.condB rfl (fun hcd => ?_) (fun hcd => ?_) | refine N.condU rfl ?_ ?_)
      | (show AK _ _ _ _ _ _ _; first | refine N.seq ?_ | refine N.block ?_ | refine N.skip ?_ | refine N.exit ?_ | refine N.ret ?_)
      | (show RK _ _ _ _ _ _ _; simp only [rk, rk0, reduceIte, Nat.reduceEqDiff])
      | (show WOpsT _ _ _ _ _ _; first | refine L.ext ?_ | refine L.fad ?_ | refine L.fadd ?_ | refine L.st ?_ | refine L.new ?_ | refine L.zero ?_ | refine L.bsl ?_)
      | refine hQ _ _ _ rfl ?_
      | refine hQN _ _ _ rfl ?_)
      all_goals first
        | (exfalso; omega)
        | (refine hC _ _ (i + 1, ⟨r2, op2, a2, n2⟩, bs ++ [b2], f2) ⟨by dsimp only; omega, by dsimp only; omega, hfb, hst⟩ (by dsimp only; omega) ?_
           dsimp only
           rw [hl2, ← hsn]
           exact Weaks.gc [0, 1, 2, 3, 4, 5] 1 rfl (by repeat (first | exact trivial | refine ⟨.rfl, ?_⟩ | refine ⟨.any, ?_⟩)) (by show [_, _, _, _, _, _] = [outB _ _ _ (renB [0, 1] fA), outB _ _ _ (renB [0, 1] (fB f2)), _, _, _, outB _ _ _ ⟨bs.length + 1 + 1, 3, bs.map buC ++ [buC b2]⟩]; rw [renB_fB, outB_fB, outB_flatB]; rfl))
  · obtain rfl : i = 20 := by omega
    have hst2 : (k, bs, f) = F := hst
    subst hst2
    obtain ⟨r1, op1, a1, n1⟩ := k
    dsimp only at hQ hQN
    rw [show coC ⟨r1, op1, a1, n1⟩ = coA r1 op1 a1 n1 from rfl]
    repeat' (first
    | rw [co_mren]
    | rw [co_co]
    | rw [co_t12]
    | rw [co_t9]
    | rw [cp_t5]
    | rw [co_z]
    | rw [bu_mren]
    | rw [bu_t3]
    | rw [bu_z]
    | rw [bu_data]
    | simp only [renB_fA, renB_fB]
    | refine N.regS fun K hK => ?_
    | refine N.dregS fun K hK => ?_
    | refine N.regN fun K hK => ?_
    | refine N.dregN fun K hK => ?_
    | simp only [T.mv, sm, AO.ev, put, lk, enter, reduceIte, Nat.reduceEqDiff, Nat.reduceAdd, Nat.reduceMul, Nat.reduceSub, Int.reduceNeg, Int.reduceToNat, upto, renB, setAll]
    | (refine T.nil ?_; (first | refine hK _ _ _ (by rfl) ?_ | refine hK _ _ _ ?_); (try simp only [keep, List.map, lk, reduceIte, Nat.reduceEqDiff, enter]); clear hK K)
    | (show WOpsT _ (⟨_, .ld _ _, none⟩ :: _) _ _ _ _; first | refine L.ld ?_ | refine L.ldd ?_ | refine L.ldn ?_ | refine L.lddn ?_)
    | (show WOpsT _ (⟨_, .bin _ _ _, none⟩ :: _) _ _ _ _; first | refine L.add ?_ | refine L.bin ?_)
    | (show WOpsT _ (⟨_, _, some (_, false)⟩ :: _) _ _ _ _; first | refine L.goF ?_ | refine L.paF ?_ | refine L.go ?_ | refine L.pass ?_ | refine T.pU rfl ?_ | refine T.gF rfl (fun hgd => ?_) (fun hgd => ?_))
    | (show WOpsT _ (⟨_, .pick _ _ _, none⟩ :: _) _ _ _ _; first | refine L.pkT ?_ | refine L.pkF ?_ | refine L.pickT ?_ | refine L.pickF ?_ | refine L.pickB ?_ | refine T.pkD rfl (fun hgd => ?_) (fun hgd => ?_))
    | (show AKW _ _ _ _ _ _ _; first | refine N.now ?_)
    | (show AK _ _ (.cond _ _ _) _ _ _ _; first | refine N.c1 ?_ | refine N.c2 ?_ | refine N.c3 ?_ | refine N.c4 ?_ | refine N.condD rfl (fun hcd => ?_) (fun hcd => ?_) | refine N.condB rfl (fun hcd => ?_) (fun hcd => ?_) | refine N.condU rfl ?_ ?_)
    | (show AK _ _ _ _ _ _ _; first | refine N.seq ?_ | refine N.block ?_ | refine N.skip ?_ | refine N.exit ?_ | refine N.ret ?_)
    | (show RK _ _ _ _ _ _ _; simp only [rk, rk0, reduceIte, Nat.reduceEqDiff])
    | (show WOpsT _ _ _ _ _ _; first | refine L.ext ?_ | refine L.fad ?_ | refine L.fadd ?_ | refine L.st ?_ | refine L.new ?_ | refine L.zero ?_ | refine L.bsl ?_)
    | refine hQ _ _ _ rfl ?_
    | refine hQN _ _ _ rfl ?_)
    exact WS.gc [0, 1] 1 rfl (by show [_, _] = [_, outB _ _ _ (fB f)]; rw [outB_fB]; rfl) (Sub.tup2 .rfl (Sub.ofE (out_rowsK (f := buC) (l := bs) rfl rfl (Nat.le_refl _))))
end Go.Proofs.Ytjmmompbmjhkpaa.Calc

namespace Go.Proofs.Ytjmmompbmjhkpaa.Calc
open Go
def rdM (a r : Int) (ss : List Stp) : Cyc := ⟨1, a, r, ss⟩
def wrM (a r : Int) (ss : List Stp) : Cyc := ⟨2, a, r, ss⟩
def noM (ss : List Stp) : Cyc := ⟨0, 0, 0, ss⟩
def oneM (d t : Int) : Stp := ⟨d, t, 0, 0⟩
def twoM (d t f : Int) : Stp := ⟨d, t, f, 0⟩
def zeroM : Stp := ⟨2, 8, 0, 0⟩
def jumpM (t : Int) : List Stp := [twoM 18 t 5, twoM 19 t 6]
def pageM : Cyc := rdM 0 5 [zeroM, twoM 18 8 5]
def lowM : Cyc := rdM 0 5 [twoM 18 8 5]
def highM : Cyc := rdM 0 5 [twoM 19 8 5]
def leadM (m : Int) : List Cyc :=
  if m = 2 then [pageM]
  else if m = 3 then [rdM 0 5 [zeroM, twoM 18 8 5, twoM 22 8 1], noM [twoM 20 5 8, zeroM, twoM 18 8 5]]
  else if m = 4 then [lowM, highM]
  else if m = 5 then [lowM, highM, noM [twoM 22 8 1]]
  else if m = 6 then [lowM, highM, noM [twoM 22 8 2]]
  else if m = 8 then [pageM, rdM 2 5 [], rdM 3 6 [twoM 18 8 5, twoM 19 8 6, twoM 22 8 2]]
  else []
def readsM (m : Int) (ss : List Stp) : List Cyc := leadM m ++ [rdM (if m = 1 then 0 else 2) 5 ss]
abbrev Row := ByteArray × Int × List Cyc
def loadsM (n : ByteArray) (r : Int) (ms : List Int) : List Row := ms.map fun m => (n, m, readsM m [twoM 1 r 5, oneM 3 r])
def storesM (n : ByteArray) (r : Int) (ms : List Int) : List Row := ms.map fun m => (n, m, leadM m ++ [wrM 2 r []])
def joinsM (n : ByteArray) (d r : Int) (ms : List Int) : List Row := ms.map fun m => (n, m, readsM m [twoM d r 5])
def turnsM (n : ByteArray) (d : Int) (ms : List Int) : List Row := ms.map fun m => (n, m, if m = 0 then [noM [oneM d 0]] else leadM m ++ [rdM 2 5 [oneM d 5], wrM 2 5 []])
def memoryL : List (List (ByteArray × Int × List Cyc)) := [
  loadsM ⟨#[108, 100, 97]⟩ 0 [1, 2, 3, 4, 5, 6, 8],
  loadsM ⟨#[108, 100, 120]⟩ 1 [1, 2, 4],
  loadsM ⟨#[108, 100, 121]⟩ 2 [1, 2, 4],
  storesM ⟨#[115, 116, 97]⟩ 0 [2, 3, 4, 5, 6, 8],
  storesM ⟨#[115, 116, 120]⟩ 1 [2, 4],
  storesM ⟨#[115, 116, 121]⟩ 2 [2, 4],
  joinsM ⟨#[97, 100, 99]⟩ 4 0 [1, 2, 4, 5],
  joinsM ⟨#[115, 98, 99]⟩ 5 0 [1, 2, 4, 5],
  joinsM ⟨#[97, 110, 100]⟩ 7 0 [1, 2, 4, 5],
  joinsM ⟨#[111, 114, 97]⟩ 8 0 [1, 2, 4, 5],
  joinsM ⟨#[101, 111, 114]⟩ 9 0 [1, 2, 4, 5],
  joinsM ⟨#[99, 109, 112]⟩ 6 0 [1, 2, 4, 5],
  joinsM ⟨#[99, 112, 120]⟩ 6 1 [1, 2],
  joinsM ⟨#[99, 112, 121]⟩ 6 2 [1, 2],
  turnsM ⟨#[105, 110, 99]⟩ 10 [2, 4],
  turnsM ⟨#[100, 101, 99]⟩ 11 [2, 4],
  turnsM ⟨#[97, 115, 108]⟩ 12 [0, 2],
  turnsM ⟨#[108, 115, 114]⟩ 13 [0, 2],
  turnsM ⟨#[114, 111, 108]⟩ 14 [0, 2],
  turnsM ⟨#[114, 111, 114]⟩ 15 [0, 2]]
def aloneL : List (ByteArray × Int × List Cyc) := [
  (⟨#[116, 97, 120]⟩, 0, [noM [twoM 1 1 0, oneM 3 1]]),
  (⟨#[116, 97, 121]⟩, 0, [noM [twoM 1 2 0, oneM 3 2]]),
  (⟨#[116, 120, 97]⟩, 0, [noM [twoM 1 0 1, oneM 3 0]]),
  (⟨#[116, 121, 97]⟩, 0, [noM [twoM 1 0 2, oneM 3 0]]),
  (⟨#[116, 115, 120]⟩, 0, [noM [twoM 1 1 3, oneM 3 1]]),
  (⟨#[116, 120, 115]⟩, 0, [noM [twoM 1 3 1]]),
  (⟨#[105, 110, 120]⟩, 0, [noM [oneM 10 1]]),
  (⟨#[105, 110, 121]⟩, 0, [noM [oneM 10 2]]),
  (⟨#[100, 101, 120]⟩, 0, [noM [oneM 11 1]]),
  (⟨#[100, 101, 121]⟩, 0, [noM [oneM 11 2]]),
  (⟨#[99, 108, 99]⟩, 0, [noM [⟨17, 0, 0, 1⟩]]),
  (⟨#[115, 101, 99]⟩, 0, [noM [⟨16, 0, 0, 1⟩]]),
  (⟨#[99, 108, 105]⟩, 0, [noM [⟨17, 0, 0, 4⟩]]),
  (⟨#[115, 101, 105]⟩, 0, [noM [⟨16, 0, 0, 4⟩]]),
  (⟨#[110, 111, 112]⟩, 0, [noM []]),
  (⟨#[112, 104, 97]⟩, 0, [wrM 4 0 []]),
  (⟨#[112, 108, 97]⟩, 0, [rdM 5 0 [oneM 3 0]]),
  (⟨#[112, 104, 112]⟩, 0, [wrM 4 4 []]),
  (⟨#[112, 108, 112]⟩, 0, [rdM 5 4 []])]
def waysL : List (ByteArray × Int × List Cyc) := [
  (⟨#[106, 109, 112]⟩, 4, [rdM 0 5 [], rdM 0 6 (jumpM 7)]),
  (⟨#[106, 115, 114]⟩, 4, [rdM 0 5 [twoM 18 8 5], rdM 0 5 [twoM 19 8 5, twoM 21 5 7], wrM 4 5 [twoM 20 5 7], wrM 4 5 [twoM 1 7 8]]),
  (⟨#[114, 116, 115]⟩, 0, [rdM 5 5 [], rdM 5 6 (jumpM 7)]),
  (⟨#[114, 116, 105]⟩, 0, [rdM 5 4 [], rdM 5 5 [], rdM 5 6 (jumpM 7)]),
  (⟨#[98, 101, 113]⟩, 7, [rdM 0 5 [⟨24, 0, 1, 2⟩], noM [twoM 23 7 5]]),
  (⟨#[98, 110, 101]⟩, 7, [rdM 0 5 [⟨24, 0, 0, 2⟩], noM [twoM 23 7 5]]),
  (⟨#[98, 99, 115]⟩, 7, [rdM 0 5 [⟨24, 0, 1, 1⟩], noM [twoM 23 7 5]]),
  (⟨#[98, 99, 99]⟩, 7, [rdM 0 5 [⟨24, 0, 0, 1⟩], noM [twoM 23 7 5]]),
  (⟨#[98, 109, 105]⟩, 7, [rdM 0 5 [⟨24, 0, 1, 128⟩], noM [twoM 23 7 5]]),
  (⟨#[98, 112, 108]⟩, 7, [rdM 0 5 [⟨24, 0, 0, 128⟩], noM [twoM 23 7 5]])]
def number : Nat → List Row → List Ins
  | _, [] => []
  | n, (s, m, cy) :: l => ⟨(n : Int) + 1, s, m, cy⟩ :: number (n + 1) l
theorem number_len : ∀ (l : List Row) (n : Nat), (number n l).length = l.length := by
  intro l; induction l with
  | nil => intro n; rfl
  | cons a l ih => intro n; obtain ⟨s, m, cy⟩ := a; simp [number, ih]
theorem number_app : ∀ (l l' : List Row) (n : Nat), number n (l ++ l') = number n l ++ number (n + l.length) l' := by
  intro l; induction l with
  | nil => intro l' n; rfl
  | cons a l ih =>
    intro l' n; obtain ⟨s, m, cy⟩ := a
    simp only [List.cons_append, number, ih, List.length_cons]
    rw [show n + 1 + l.length = n + (l.length + 1) by omega]
def answersM (lo hi : Int) : List Cyc := [noM [twoM 21 5 7], wrM 4 5 [twoM 20 5 7], wrM 4 5 [], wrM 4 4 [⟨16, 0, 0, 4⟩], rdM lo 5 [], rdM hi 6 (jumpM 7)]
def stdL : List (List Row) := memoryL ++ aloneL.map (fun r => [r]) ++ waysL.map (fun r => [r])
def memR (k : Nat) : List Row := (stdL.take k).flatten
theorem memR_succ (k : Nat) (c : List Row) (hc : stdL[k]? = some c) : memR (k + 1) = memR k ++ c := by
  obtain ⟨hk, rfl⟩ := List.getElem?_eq_some_iff.1 hc
  unfold memR
  rw [List.take_succ_eq_append_getElem hk, List.flatten_append]
  simp
theorem memR_len : ∀ k, k < 50 → 1 ≤ k → 0 < (memR k).length ∧ (memR k).length ≤ 92 := by decide +kernel
def stdRows : List Row := memR 49
def stdM : Cpu := ⟨⟨#[115, 116, 100]⟩, number 0 stdRows, [rdM 10 5 [], rdM 11 6 [twoM 18 7 5, twoM 19 7 6, ⟨2, 3, 0, 255⟩]], answersM 6 7, answersM 8 9⟩
end Go.Proofs.Ytjmmompbmjhkpaa.Calc

namespace Go.Proofs.Ytjmmompbmjhkpaa.Calc
open Go Code
set_option linter.unusedSimpArgs false
set_option linter.unusedVariables false
set_option maxRecDepth 20000
set_option maxHeartbeats 4000000
attribute [local irreducible] WOpsT AW AK RK AKW UK UC
theorem two_ok (d t f : Int) : FnE Try.prog 185 [I d, I t, I f] [] (.agg (stC (twoM d t f))) [] := by
  refine N.fn Try.func185 k185 lb q185 fun Q hQ hQN => ?_
  rw [c185]
  repeat' (first
  | refine N.regS fun K hK => ?_
  | refine N.dregS fun K hK => ?_
  | refine N.regN fun K hK => ?_
  | refine N.dregN fun K hK => ?_
  | simp only [T.mv, sm, AO.ev, put, lk, enter, reduceIte, Nat.reduceEqDiff, Nat.reduceAdd, Nat.reduceMul, Nat.reduceSub, Int.reduceNeg, Int.reduceToNat, upto, renB, setAll]
  | (refine T.nil ?_; (first | refine hK _ _ _ (by rfl) ?_ | refine hK _ _ _ ?_); (try simp only [keep, List.map, lk, reduceIte, Nat.reduceEqDiff, enter]); clear hK K)
  | (show AKW _ _ _ _ _ _ _; first | refine N.now ?_)
  | (show AK _ _ _ _ _ _ _; first | refine N.seq ?_ | refine N.ret ?_)
  | (show RK _ _ _ _ _ _ _; simp only [rk, rk0, reduceIte, Nat.reduceEqDiff])
  | (show WOpsT _ _ _ _ _ _; first | refine L.st ?_ | refine L.zero ?_ | refine L.build ?_)
  | refine hQ _ _ _ rfl ?_
  | refine hQN _ _ _ rfl ?_)
  exact WS.drop (n := 0) rfl rfl
theorem one_ok (d t : Int) : FnE Try.prog 186 [I d, I t] [] (.agg (stC (oneM d t))) [] := by
  refine N.fn Try.func186 k186 lb q186 fun Q hQ hQN => ?_
  rw [c186]
  repeat' (first
  | refine N.regS fun K hK => ?_
  | refine N.dregS fun K hK => ?_
  | refine N.regN fun K hK => ?_
  | refine N.dregN fun K hK => ?_
  | simp only [T.mv, sm, AO.ev, put, lk, enter, reduceIte, Nat.reduceEqDiff, Nat.reduceAdd, Nat.reduceMul, Nat.reduceSub, Int.reduceNeg, Int.reduceToNat, upto, renB, setAll]
  | (refine T.nil ?_; (first | refine hK _ _ _ (by rfl) ?_ | refine hK _ _ _ ?_); (try simp only [keep, List.map, lk, reduceIte, Nat.reduceEqDiff, enter]); clear hK K)
  | (show AKW _ _ _ _ _ _ _; first | refine N.now ?_)
  | (show AK _ _ _ _ _ _ _; first | refine N.seq ?_ | refine N.ret ?_)
  | (show RK _ _ _ _ _ _ _; simp only [rk, rk0, reduceIte, Nat.reduceEqDiff])
  | (show WOpsT _ _ _ _ _ _; first | refine L.st ?_ | refine L.zero ?_ | refine L.build ?_)
  | refine hQ _ _ _ rfl ?_
  | refine hQN _ _ _ rfl ?_)
  exact WS.drop (n := 0) rfl rfl
theorem zero_ok : FnE Try.prog 197 [] [] (.agg (stC zeroM)) [] := by
  refine N.fn Try.func197 k197 lb q197 fun Q hQ hQN => ?_
  rw [c197]
  repeat' (first
  | refine N.regS fun K hK => ?_
  | refine N.dregS fun K hK => ?_
  | refine N.regN fun K hK => ?_
  | refine N.dregN fun K hK => ?_
  | simp only [T.mv, sm, AO.ev, put, lk, enter, reduceIte, Nat.reduceEqDiff, Nat.reduceAdd, Nat.reduceMul, Nat.reduceSub, Int.reduceNeg, Int.reduceToNat, upto, renB, setAll]
  | (refine T.nil ?_; (first | refine hK _ _ _ (by rfl) ?_ | refine hK _ _ _ ?_); (try simp only [keep, List.map, lk, reduceIte, Nat.reduceEqDiff, enter]); clear hK K)
  | (show AKW _ _ _ _ _ _ _; first | refine N.now ?_)
  | (show AK _ _ _ _ _ _ _; first | refine N.seq ?_ | refine N.ret ?_)
  | (show RK _ _ _ _ _ _ _; simp only [rk, rk0, reduceIte, Nat.reduceEqDiff])
  | (show WOpsT _ _ _ _ _ _; first | refine L.st ?_ | refine L.zero ?_ | refine L.build ?_)
  | refine hQ _ _ _ rfl ?_
  | refine hQN _ _ _ rfl ?_)
  exact WS.drop (n := 0) rfl rfl
theorem jump_ok (t : Int) : FnE Try.prog 149 [I t] [] (.psl 0 1 0 2) [⟨1, 4, (jumpM t).map stC⟩] := by
  refine N.fn Try.func149 k149 lb q149 fun Q hQ hQN => ?_
  rw [c149]
  repeat' (first
  | refine N.regS fun K hK => ?_
  | refine N.dregS fun K hK => ?_
  | refine N.regN fun K hK => ?_
  | refine N.dregN fun K hK => ?_
  | simp only [T.mv, sm, AO.ev, put, lk, enter, reduceIte, Nat.reduceEqDiff, Nat.reduceAdd, Nat.reduceMul, Nat.reduceSub, Int.reduceNeg, Int.reduceToNat, upto, renB, setAll]
  | (refine T.nil ?_; (first | refine hK _ _ _ (by rfl) ?_ | refine hK _ _ _ ?_); (try simp only [keep, List.map, lk, reduceIte, Nat.reduceEqDiff, enter]); clear hK K)
  | (show WOpsT _ (⟨_, .call _ _, none⟩ :: _) _ _ _ _; first | refine T.call0 e185 rfl ((two_ok 18 t 5)) ?_ | refine T.call0 e185 rfl ((two_ok 19 t 6)) ?_)
  | (show AKW _ _ _ _ _ _ _; first | refine N.now ?_)
  | (show AK _ _ _ _ _ _ _; first | refine N.seq ?_ | refine N.ret ?_)
  | (show RK _ _ _ _ _ _ _; simp only [rk, rk0, reduceIte, Nat.reduceEqDiff])
  | (show WOpsT _ _ _ _ _ _; first | refine L.bsl ?_)
  | refine hQ _ _ _ rfl ?_
  | refine hQN _ _ _ rfl ?_)
  exact WS.gc [0] 1 rfl rfl .rfl
def cyP (b a r : Int) (p n : Nat) : List V := [I b, I a, I r, .psl p 1 0 n]
theorem Sub.cyN (b a r : Int) : Sub (.agg [I b, I a, I r, .c (.slice none 0 0)]) (.agg (cyC ⟨b, a, r, []⟩)) := by
  refine .agg (Eq.refl _) fun i x y hx hy => ?_
  match i with
  | 0 => cases hx; cases hy; exact .rfl
  | 1 => cases hx; cases hy; exact .rfl
  | 2 => cases hx; cases hy; exact .rfl
  | 3 => cases hx; cases hy; exact .nil
  | i + 4 => cases hx
theorem rdP_ok (a r : Int) (ss : List Stp) (n : Nat) : FnE Try.prog 148 [I a, I r, .psl 0 1 0 n] [⟨1, 4, ss.map stC⟩] (.agg [I 1, I a, I r, .psl 0 1 0 n]) [⟨1, 4, ss.map stC⟩] := by
  refine N.fn Try.func148 k148 lb q148 fun Q hQ hQN => ?_
  rw [c148]
  repeat' (first
  | refine N.regS fun K hK => ?_
  | refine N.dregS fun K hK => ?_
  | refine N.regN fun K hK => ?_
  | refine N.dregN fun K hK => ?_
  | simp only [T.mv, sm, AO.ev, put, lk, enter, reduceIte, Nat.reduceEqDiff, Nat.reduceAdd, Nat.reduceMul, Nat.reduceSub, Int.reduceNeg, Int.reduceToNat, upto, renB, setAll]
  | (refine T.nil ?_; (first | refine hK _ _ _ (by rfl) ?_ | refine hK _ _ _ ?_); (try simp only [keep, List.map, lk, reduceIte, Nat.reduceEqDiff, enter]); clear hK K)
  | (show AKW _ _ _ _ _ _ _; first | refine N.now ?_)
  | (show AK _ _ _ _ _ _ _; first | refine N.seq ?_ | refine N.ret ?_)
  | (show RK _ _ _ _ _ _ _; simp only [rk, rk0, reduceIte, Nat.reduceEqDiff])
  | (show WOpsT _ _ _ _ _ _; first | refine L.st ?_ | refine L.zero ?_ | refine L.build ?_)
  | refine hQ _ _ _ rfl ?_
  | refine hQN _ _ _ rfl ?_)
  exact WS.gc [0] 1 rfl (by first | rfl | (symm; unfold outH; simp only [List.map]; (repeat' (first | rfl | exact outB_bytes | exact outB_ints | exact outB_flat | refine consE ?_ ?_)); done)) .rfl
theorem rdQ_ok (a r : Int) (ss : List Stp) (n : Nat) : FnE Try.prog 148 [I a, I r, .psl 0 2 0 n] [⟨2, 4, ss.map stC⟩] (.agg [I 1, I a, I r, .psl 0 2 0 n]) [⟨2, 4, ss.map stC⟩] := by
  refine N.fn Try.func148 k148 lb q148 fun Q hQ hQN => ?_
  rw [c148]
  repeat' (first
  | refine N.regS fun K hK => ?_
  | refine N.dregS fun K hK => ?_
  | refine N.regN fun K hK => ?_
  | refine N.dregN fun K hK => ?_
  | simp only [T.mv, sm, AO.ev, put, lk, enter, reduceIte, Nat.reduceEqDiff, Nat.reduceAdd, Nat.reduceMul, Nat.reduceSub, Int.reduceNeg, Int.reduceToNat, upto, renB, setAll]
  | (refine T.nil ?_; (first | refine hK _ _ _ (by rfl) ?_ | refine hK _ _ _ ?_); (try simp only [keep, List.map, lk, reduceIte, Nat.reduceEqDiff, enter]); clear hK K)
  | (show AKW _ _ _ _ _ _ _; first | refine N.now ?_)
  | (show AK _ _ _ _ _ _ _; first | refine N.seq ?_ | refine N.ret ?_)
  | (show RK _ _ _ _ _ _ _; simp only [rk, rk0, reduceIte, Nat.reduceEqDiff])
  | (show WOpsT _ _ _ _ _ _; first | refine L.st ?_ | refine L.zero ?_ | refine L.build ?_)
  | refine hQ _ _ _ rfl ?_
  | refine hQN _ _ _ rfl ?_)
  exact WS.gc [0] 1 rfl (by first | rfl | (symm; unfold outH; simp only [List.map]; (repeat' (first | rfl | exact outB_bytes | exact outB_ints | exact outB_flat | refine consE ?_ ?_)); done)) .rfl
theorem rdN_ok (a r : Int) : FnE Try.prog 148 [I a, I r, .c (.slice none 0 0)] [] (.agg (cyC ⟨1, a, r, []⟩)) [] := by
  refine N.fn Try.func148 k148 lb q148 fun Q hQ hQN => ?_
  rw [c148]
  repeat' (first
  | refine N.regS fun K hK => ?_
  | refine N.dregS fun K hK => ?_
  | refine N.regN fun K hK => ?_
  | refine N.dregN fun K hK => ?_
  | simp only [T.mv, sm, AO.ev, put, lk, enter, reduceIte, Nat.reduceEqDiff, Nat.reduceAdd, Nat.reduceMul, Nat.reduceSub, Int.reduceNeg, Int.reduceToNat, upto, renB, setAll]
  | (refine T.nil ?_; (first | refine hK _ _ _ (by rfl) ?_ | refine hK _ _ _ ?_); (try simp only [keep, List.map, lk, reduceIte, Nat.reduceEqDiff, enter]); clear hK K)
  | (show AKW _ _ _ _ _ _ _; first | refine N.now ?_)
  | (show AK _ _ _ _ _ _ _; first | refine N.seq ?_ | refine N.ret ?_)
  | (show RK _ _ _ _ _ _ _; simp only [rk, rk0, reduceIte, Nat.reduceEqDiff])
  | (show WOpsT _ _ _ _ _ _; first | refine L.st ?_ | refine L.zero ?_ | refine L.build ?_)
  | refine hQ _ _ _ rfl ?_
  | refine hQN _ _ _ rfl ?_)
  exact WS.gc [] 1 rfl rfl (Sub.cyN 1 a r)
theorem wrP_ok (a r : Int) (ss : List Stp) (n : Nat) : FnE Try.prog 187 [I a, I r, .psl 0 1 0 n] [⟨1, 4, ss.map stC⟩] (.agg [I 2, I a, I r, .psl 0 1 0 n]) [⟨1, 4, ss.map stC⟩] := by
  refine N.fn Try.func187 k187 lb q187 fun Q hQ hQN => ?_
  rw [c187]
  repeat' (first
  | refine N.regS fun K hK => ?_
  | refine N.dregS fun K hK => ?_
  | refine N.regN fun K hK => ?_
  | refine N.dregN fun K hK => ?_
  | simp only [T.mv, sm, AO.ev, put, lk, enter, reduceIte, Nat.reduceEqDiff, Nat.reduceAdd, Nat.reduceMul, Nat.reduceSub, Int.reduceNeg, Int.reduceToNat, upto, renB, setAll]
  | (refine T.nil ?_; (first | refine hK _ _ _ (by rfl) ?_ | refine hK _ _ _ ?_); (try simp only [keep, List.map, lk, reduceIte, Nat.reduceEqDiff, enter]); clear hK K)
  | (show AKW _ _ _ _ _ _ _; first | refine N.now ?_)
  | (show AK _ _ _ _ _ _ _; first | refine N.seq ?_ | refine N.ret ?_)
  | (show RK _ _ _ _ _ _ _; simp only [rk, rk0, reduceIte, Nat.reduceEqDiff])
  | (show WOpsT _ _ _ _ _ _; first | refine L.st ?_ | refine L.zero ?_ | refine L.build ?_)
  | refine hQ _ _ _ rfl ?_
  | refine hQN _ _ _ rfl ?_)
  exact WS.gc [0] 1 rfl (by first | rfl | (symm; unfold outH; simp only [List.map]; (repeat' (first | rfl | exact outB_bytes | exact outB_ints | exact outB_flat | refine consE ?_ ?_)); done)) .rfl
theorem wrN_ok (a r : Int) : FnE Try.prog 187 [I a, I r, .c (.slice none 0 0)] [] (.agg (cyC ⟨2, a, r, []⟩)) [] := by
  refine N.fn Try.func187 k187 lb q187 fun Q hQ hQN => ?_
  rw [c187]
  repeat' (first
  | refine N.regS fun K hK => ?_
  | refine N.dregS fun K hK => ?_
  | refine N.regN fun K hK => ?_
  | refine N.dregN fun K hK => ?_
  | simp only [T.mv, sm, AO.ev, put, lk, enter, reduceIte, Nat.reduceEqDiff, Nat.reduceAdd, Nat.reduceMul, Nat.reduceSub, Int.reduceNeg, Int.reduceToNat, upto, renB, setAll]
  | (refine T.nil ?_; (first | refine hK _ _ _ (by rfl) ?_ | refine hK _ _ _ ?_); (try simp only [keep, List.map, lk, reduceIte, Nat.reduceEqDiff, enter]); clear hK K)
  | (show AKW _ _ _ _ _ _ _; first | refine N.now ?_)
  | (show AK _ _ _ _ _ _ _; first | refine N.seq ?_ | refine N.ret ?_)
  | (show RK _ _ _ _ _ _ _; simp only [rk, rk0, reduceIte, Nat.reduceEqDiff])
  | (show WOpsT _ _ _ _ _ _; first | refine L.st ?_ | refine L.zero ?_ | refine L.build ?_)
  | refine hQ _ _ _ rfl ?_
  | refine hQN _ _ _ rfl ?_)
  exact WS.gc [] 1 rfl rfl (Sub.cyN 2 a r)
theorem noP_ok (ss : List Stp) (n : Nat) : FnE Try.prog 184 [.psl 0 1 0 n] [⟨1, 4, ss.map stC⟩] (.agg [I 0, I 0, I 0, .psl 0 1 0 n]) [⟨1, 4, ss.map stC⟩] := by
  refine N.fn Try.func184 k184 lb q184 fun Q hQ hQN => ?_
  rw [c184]
  repeat' (first
  | refine N.regS fun K hK => ?_
  | refine N.dregS fun K hK => ?_
  | refine N.regN fun K hK => ?_
  | refine N.dregN fun K hK => ?_
  | simp only [T.mv, sm, AO.ev, put, lk, enter, reduceIte, Nat.reduceEqDiff, Nat.reduceAdd, Nat.reduceMul, Nat.reduceSub, Int.reduceNeg, Int.reduceToNat, upto, renB, setAll]
  | (refine T.nil ?_; (first | refine hK _ _ _ (by rfl) ?_ | refine hK _ _ _ ?_); (try simp only [keep, List.map, lk, reduceIte, Nat.reduceEqDiff, enter]); clear hK K)
  | (show AKW _ _ _ _ _ _ _; first | refine N.now ?_)
  | (show AK _ _ _ _ _ _ _; first | refine N.seq ?_ | refine N.ret ?_)
  | (show RK _ _ _ _ _ _ _; simp only [rk, rk0, reduceIte, Nat.reduceEqDiff])
  | (show WOpsT _ _ _ _ _ _; first | refine L.st ?_ | refine L.zero ?_ | refine L.build ?_)
  | refine hQ _ _ _ rfl ?_
  | refine hQN _ _ _ rfl ?_)
  exact WS.gc [0] 1 rfl (by first | rfl | (symm; unfold outH; simp only [List.map]; (repeat' (first | rfl | exact outB_bytes | exact outB_ints | exact outB_flat | refine consE ?_ ?_)); done)) .rfl
theorem noN_ok : FnE Try.prog 184 [.c (.slice none 0 0)] [] (.agg (cyC ⟨0, 0, 0, []⟩)) [] := by
  refine N.fn Try.func184 k184 lb q184 fun Q hQ hQN => ?_
  rw [c184]
  repeat' (first
  | refine N.regS fun K hK => ?_
  | refine N.dregS fun K hK => ?_
  | refine N.regN fun K hK => ?_
  | refine N.dregN fun K hK => ?_
  | simp only [T.mv, sm, AO.ev, put, lk, enter, reduceIte, Nat.reduceEqDiff, Nat.reduceAdd, Nat.reduceMul, Nat.reduceSub, Int.reduceNeg, Int.reduceToNat, upto, renB, setAll]
  | (refine T.nil ?_; (first | refine hK _ _ _ (by rfl) ?_ | refine hK _ _ _ ?_); (try simp only [keep, List.map, lk, reduceIte, Nat.reduceEqDiff, enter]); clear hK K)
  | (show AKW _ _ _ _ _ _ _; first | refine N.now ?_)
  | (show AK _ _ _ _ _ _ _; first | refine N.seq ?_ | refine N.ret ?_)
  | (show RK _ _ _ _ _ _ _; simp only [rk, rk0, reduceIte, Nat.reduceEqDiff])
  | (show WOpsT _ _ _ _ _ _; first | refine L.st ?_ | refine L.zero ?_ | refine L.build ?_)
  | refine hQ _ _ _ rfl ?_
  | refine hQN _ _ _ rfl ?_)
  exact WS.gc [] 1 rfl rfl (Sub.cyN 0 0 0)
end Go.Proofs.Ytjmmompbmjhkpaa.Calc

namespace Go.Proofs.Ytjmmompbmjhkpaa.Calc
open Go Code
set_option linter.unusedSimpArgs false
set_option linter.unusedVariables false
set_option maxRecDepth 20000
set_option maxHeartbeats 4000000
attribute [local irreducible] WOpsT AW AK RK AKW UK UC
theorem lead2_ok : FnE Try.prog 194 [I 2] [] (.psl 0 1 0 1) [⟨1, 4, (leadM 2).map cyC⟩] := by
  refine N.fn Try.func194 k194 lb q194 fun Q hQ hQN => ?_
  rw [c194]
  repeat' (first
  | refine N.regS fun K hK => ?_
  | refine N.dregS fun K hK => ?_
  | refine N.regN fun K hK => ?_
  | refine N.dregN fun K hK => ?_
  | simp only [T.mv, sm, AO.ev, put, lk, enter, reduceIte, Nat.reduceEqDiff, Nat.reduceAdd, Nat.reduceMul, Nat.reduceSub, Int.reduceNeg, Int.reduceToNat, upto, renB, setAll]
  | (refine T.nil ?_; (first | refine hK _ _ _ (by rfl) ?_ | refine hK _ _ _ ?_); (try simp only [keep, List.map, lk, reduceIte, Nat.reduceEqDiff, enter]); clear hK K)
  | (show WOpsT _ (⟨_, .call _ _, none⟩ :: _) _ _ _ _; first | refine T.call0 e197 rfl (zero_ok) ?_ | refine T.call0 e185 rfl ((two_ok 18 8 5)) ?_ | refine T.call0 e185 rfl ((two_ok 19 8 5)) ?_ | refine T.call0 e185 rfl ((two_ok 22 8 1)) ?_ | refine T.call0 e185 rfl ((two_ok 22 8 2)) ?_ | refine T.call0 e185 rfl ((two_ok 20 5 8)) ?_ | refine T.cP [0] e148 ((rdP_ok 0 5 [zeroM, twoM 18 8 5] 2)) ?_ | refine T.cP [2] e148 ((rdP_ok 0 5 [twoM 18 8 5] 1)) ?_ | refine T.cP [4] e148 ((rdP_ok 0 5 [twoM 19 8 5] 1)) ?_)
  | (show WOpsT _ (⟨_, .ld _ _, none⟩ :: _) _ _ _ _; first | refine L.ld ?_ | refine L.ldd ?_ | refine L.ldn ?_ | refine L.lddn ?_)
  | (show WOpsT _ (⟨_, .bin _ _ _, none⟩ :: _) _ _ _ _; first | refine L.bin ?_)
  | (show AKW _ _ _ _ _ _ _; first | refine N.now ?_)
  | (show AK _ _ (.cond _ _ _) _ _ _ _; first | refine N.c1 ?_ | refine N.c2 ?_ | refine N.c3 ?_ | refine N.c4 ?_ | refine N.condD rfl (fun hcd => ?_) (fun hcd => ?_) | refine N.condB rfl (fun hcd => ?_) (fun hcd => ?_) | refine N.condU rfl ?_ ?_)
  | (show AK _ _ _ _ _ _ _; first | refine N.seq ?_ | refine N.block ?_ | refine N.skip ?_ | refine N.ret ?_)
  | (show RK _ _ _ _ _ _ _; simp only [rk, rk0, reduceIte, Nat.reduceEqDiff])
  | (show WOpsT _ _ _ _ _ _; first | refine L.fad ?_ | refine L.fadd ?_ | refine L.st ?_ | refine L.zero ?_ | refine L.bsl ?_)
  | refine hQ _ _ _ rfl ?_
  | refine hQN _ _ _ rfl ?_)
  exact WS.gc [6] 2 rfl rfl .rfl
theorem lead3_ok : FnE Try.prog 194 [I 3] [] (.psl 0 1 0 2) [⟨1, 4, (leadM 3).map cyC⟩] := by
  refine N.fn Try.func194 k194 lb q194 fun Q hQ hQN => ?_
  rw [c194]
  repeat' (first
  | (show WOpsT _ (⟨_, .app _ _ _ _, none⟩ :: _) _ _ _ _; refine T.app rfl rfl rfl ⟨by decide, by decide⟩ ⟨rfl, rfl, rfl, by decide⟩ ?_)
  | refine N.regS fun K hK => ?_
  | refine N.dregS fun K hK => ?_
  | refine N.regN fun K hK => ?_
  | refine N.dregN fun K hK => ?_
  | simp only [T.mv, sm, AO.ev, put, lk, enter, reduceIte, Nat.reduceEqDiff, Nat.reduceAdd, Nat.reduceMul, Nat.reduceSub, Int.reduceNeg, Int.reduceToNat, upto, renB, setAll]
  | (refine T.nil ?_; (first | refine hK _ _ _ (by rfl) ?_ | refine hK _ _ _ ?_); (try simp only [keep, List.map, lk, reduceIte, Nat.reduceEqDiff, enter]); clear hK K)
  | (show WOpsT _ (⟨_, .call _ _, none⟩ :: _) _ _ _ _; first | refine T.call0 e197 rfl (zero_ok) ?_ | refine T.call0 e185 rfl ((two_ok 18 8 5)) ?_ | refine T.call0 e185 rfl ((two_ok 19 8 5)) ?_ | refine T.call0 e185 rfl ((two_ok 22 8 1)) ?_ | refine T.call0 e185 rfl ((two_ok 22 8 2)) ?_ | refine T.call0 e185 rfl ((two_ok 20 5 8)) ?_ | refine T.cP [0] e148 ((rdP_ok 0 5 [zeroM, twoM 18 8 5] 2)) ?_ | refine T.cP [2] e148 ((rdP_ok 0 5 [twoM 18 8 5] 1)) ?_ | refine T.cP [4] e148 ((rdP_ok 0 5 [twoM 19 8 5] 1)) ?_ | refine T.cP [7] e184 ((noP_ok [twoM 20 5 8, zeroM, twoM 18 8 5] 3)) ?_)
  | (show WOpsT _ (⟨_, .ld _ _, none⟩ :: _) _ _ _ _; first | refine L.ld ?_ | refine L.ldd ?_ | refine L.ldn ?_ | refine L.lddn ?_)
  | (show WOpsT _ (⟨_, .bin _ _ _, none⟩ :: _) _ _ _ _; first | refine L.bin ?_)
  | (show AKW _ _ _ _ _ _ _; first | refine N.now ?_)
  | (show AK _ _ (.cond _ _ _) _ _ _ _; first | refine N.c1 ?_ | refine N.c2 ?_ | refine N.c3 ?_ | refine N.c4 ?_ | refine N.condD rfl (fun hcd => ?_) (fun hcd => ?_) | refine N.condB rfl (fun hcd => ?_) (fun hcd => ?_) | refine N.condU rfl ?_ ?_)
  | (show AK _ _ _ _ _ _ _; first | refine N.seq ?_ | refine N.block ?_ | refine N.skip ?_ | refine N.ret ?_)
  | (show RK _ _ _ _ _ _ _; simp only [rk, rk0, reduceIte, Nat.reduceEqDiff])
  | (show WOpsT _ _ _ _ _ _; first | refine L.fad ?_ | refine L.fadd ?_ | refine L.st ?_ | refine L.zero ?_ | refine L.bsl ?_)
  | refine hQ _ _ _ rfl ?_
  | refine hQN _ _ _ rfl ?_)
  exact WS.gc [8] 2 rfl rfl .rfl
theorem lead4_ok : FnE Try.prog 194 [I 4] [] (.psl 0 1 0 2) [⟨1, 4, (leadM 4).map cyC⟩] := by
  refine N.fn Try.func194 k194 lb q194 fun Q hQ hQN => ?_
  rw [c194]
  repeat' (first
  | refine N.regS fun K hK => ?_
  | refine N.dregS fun K hK => ?_
  | refine N.regN fun K hK => ?_
  | refine N.dregN fun K hK => ?_
  | simp only [T.mv, sm, AO.ev, put, lk, enter, reduceIte, Nat.reduceEqDiff, Nat.reduceAdd, Nat.reduceMul, Nat.reduceSub, Int.reduceNeg, Int.reduceToNat, upto, renB, setAll]
  | (refine T.nil ?_; (first | refine hK _ _ _ (by rfl) ?_ | refine hK _ _ _ ?_); (try simp only [keep, List.map, lk, reduceIte, Nat.reduceEqDiff, enter]); clear hK K)
  | (show WOpsT _ (⟨_, .call _ _, none⟩ :: _) _ _ _ _; first | refine T.call0 e197 rfl (zero_ok) ?_ | refine T.call0 e185 rfl ((two_ok 18 8 5)) ?_ | refine T.call0 e185 rfl ((two_ok 19 8 5)) ?_ | refine T.call0 e185 rfl ((two_ok 22 8 1)) ?_ | refine T.call0 e185 rfl ((two_ok 22 8 2)) ?_ | refine T.call0 e185 rfl ((two_ok 20 5 8)) ?_ | refine T.cP [0] e148 ((rdP_ok 0 5 [zeroM, twoM 18 8 5] 2)) ?_ | refine T.cP [2] e148 ((rdP_ok 0 5 [twoM 18 8 5] 1)) ?_ | refine T.cP [4] e148 ((rdP_ok 0 5 [twoM 19 8 5] 1)) ?_)
  | (show WOpsT _ (⟨_, .ld _ _, none⟩ :: _) _ _ _ _; first | refine L.ld ?_ | refine L.ldd ?_ | refine L.ldn ?_ | refine L.lddn ?_)
  | (show WOpsT _ (⟨_, .bin _ _ _, none⟩ :: _) _ _ _ _; first | refine L.bin ?_)
  | (show AKW _ _ _ _ _ _ _; first | refine N.now ?_)
  | (show AK _ _ (.cond _ _ _) _ _ _ _; first | refine N.c1 ?_ | refine N.c2 ?_ | refine N.c3 ?_ | refine N.c4 ?_ | refine N.condD rfl (fun hcd => ?_) (fun hcd => ?_) | refine N.condB rfl (fun hcd => ?_) (fun hcd => ?_) | refine N.condU rfl ?_ ?_)
  | (show AK _ _ _ _ _ _ _; first | refine N.seq ?_ | refine N.block ?_ | refine N.skip ?_ | refine N.ret ?_)
  | (show RK _ _ _ _ _ _ _; simp only [rk, rk0, reduceIte, Nat.reduceEqDiff])
  | (show WOpsT _ _ _ _ _ _; first | refine L.fad ?_ | refine L.fadd ?_ | refine L.st ?_ | refine L.zero ?_ | refine L.bsl ?_)
  | refine hQ _ _ _ rfl ?_
  | refine hQN _ _ _ rfl ?_)
  exact WS.gc [6] 2 rfl rfl .rfl
theorem lead5_ok : FnE Try.prog 194 [I 5] [] (.psl 0 1 0 3) [⟨1, 4, (leadM 5).map cyC⟩] := by
  refine N.fn Try.func194 k194 lb q194 fun Q hQ hQN => ?_
  rw [c194]
  repeat' (first
  | refine N.regS fun K hK => ?_
  | refine N.dregS fun K hK => ?_
  | refine N.regN fun K hK => ?_
  | refine N.dregN fun K hK => ?_
  | simp only [T.mv, sm, AO.ev, put, lk, enter, reduceIte, Nat.reduceEqDiff, Nat.reduceAdd, Nat.reduceMul, Nat.reduceSub, Int.reduceNeg, Int.reduceToNat, upto, renB, setAll]
  | (refine T.nil ?_; (first | refine hK _ _ _ (by rfl) ?_ | refine hK _ _ _ ?_); (try simp only [keep, List.map, lk, reduceIte, Nat.reduceEqDiff, enter]); clear hK K)
  | (show WOpsT _ (⟨_, .call _ _, none⟩ :: _) _ _ _ _; first | refine T.call0 e197 rfl (zero_ok) ?_ | refine T.call0 e185 rfl ((two_ok 18 8 5)) ?_ | refine T.call0 e185 rfl ((two_ok 19 8 5)) ?_ | refine T.call0 e185 rfl ((two_ok 22 8 1)) ?_ | refine T.call0 e185 rfl ((two_ok 22 8 2)) ?_ | refine T.call0 e185 rfl ((two_ok 20 5 8)) ?_ | refine T.cP [0] e148 ((rdP_ok 0 5 [zeroM, twoM 18 8 5] 2)) ?_ | refine T.cP [2] e148 ((rdP_ok 0 5 [twoM 18 8 5] 1)) ?_ | refine T.cP [4] e148 ((rdP_ok 0 5 [twoM 19 8 5] 1)) ?_ | refine T.cP [6] e184 ((noP_ok [twoM 22 8 1] 1)) ?_)
  | (show WOpsT _ (⟨_, .ld _ _, none⟩ :: _) _ _ _ _; first | refine L.ld ?_ | refine L.ldd ?_ | refine L.ldn ?_ | refine L.lddn ?_)
  | (show WOpsT _ (⟨_, .bin _ _ _, none⟩ :: _) _ _ _ _; first | refine L.bin ?_)
  | (show AKW _ _ _ _ _ _ _; first | refine N.now ?_)
  | (show AK _ _ (.cond _ _ _) _ _ _ _; first | refine N.c1 ?_ | refine N.c2 ?_ | refine N.c3 ?_ | refine N.c4 ?_ | refine N.condD rfl (fun hcd => ?_) (fun hcd => ?_) | refine N.condB rfl (fun hcd => ?_) (fun hcd => ?_) | refine N.condU rfl ?_ ?_)
  | (show AK _ _ _ _ _ _ _; first | refine N.seq ?_ | refine N.block ?_ | refine N.skip ?_ | refine N.ret ?_)
  | (show RK _ _ _ _ _ _ _; simp only [rk, rk0, reduceIte, Nat.reduceEqDiff])
  | (show WOpsT _ _ _ _ _ _; first | refine L.fad ?_ | refine L.fadd ?_ | refine L.st ?_ | refine L.zero ?_ | refine L.bsl ?_)
  | refine hQ _ _ _ rfl ?_
  | refine hQN _ _ _ rfl ?_)
  exact WS.gc [7] 2 rfl rfl .rfl
theorem lead6_ok : FnE Try.prog 194 [I 6] [] (.psl 0 1 0 3) [⟨1, 4, (leadM 6).map cyC⟩] := by
  refine N.fn Try.func194 k194 lb q194 fun Q hQ hQN => ?_
  rw [c194]
  repeat' (first
  | refine N.regS fun K hK => ?_
  | refine N.dregS fun K hK => ?_
  | refine N.regN fun K hK => ?_
  | refine N.dregN fun K hK => ?_
  | simp only [T.mv, sm, AO.ev, put, lk, enter, reduceIte, Nat.reduceEqDiff, Nat.reduceAdd, Nat.reduceMul, Nat.reduceSub, Int.reduceNeg, Int.reduceToNat, upto, renB, setAll]
  | (refine T.nil ?_; (first | refine hK _ _ _ (by rfl) ?_ | refine hK _ _ _ ?_); (try simp only [keep, List.map, lk, reduceIte, Nat.reduceEqDiff, enter]); clear hK K)
  | (show WOpsT _ (⟨_, .call _ _, none⟩ :: _) _ _ _ _; first | refine T.call0 e197 rfl (zero_ok) ?_ | refine T.call0 e185 rfl ((two_ok 18 8 5)) ?_ | refine T.call0 e185 rfl ((two_ok 19 8 5)) ?_ | refine T.call0 e185 rfl ((two_ok 22 8 1)) ?_ | refine T.call0 e185 rfl ((two_ok 22 8 2)) ?_ | refine T.call0 e185 rfl ((two_ok 20 5 8)) ?_ | refine T.cP [0] e148 ((rdP_ok 0 5 [zeroM, twoM 18 8 5] 2)) ?_ | refine T.cP [2] e148 ((rdP_ok 0 5 [twoM 18 8 5] 1)) ?_ | refine T.cP [4] e148 ((rdP_ok 0 5 [twoM 19 8 5] 1)) ?_ | refine T.cP [6] e184 ((noP_ok [twoM 22 8 2] 1)) ?_)
  | (show WOpsT _ (⟨_, .ld _ _, none⟩ :: _) _ _ _ _; first | refine L.ld ?_ | refine L.ldd ?_ | refine L.ldn ?_ | refine L.lddn ?_)
  | (show WOpsT _ (⟨_, .bin _ _ _, none⟩ :: _) _ _ _ _; first | refine L.bin ?_)
  | (show AKW _ _ _ _ _ _ _; first | refine N.now ?_)
  | (show AK _ _ (.cond _ _ _) _ _ _ _; first | refine N.c1 ?_ | refine N.c2 ?_ | refine N.c3 ?_ | refine N.c4 ?_ | refine N.condD rfl (fun hcd => ?_) (fun hcd => ?_) | refine N.condB rfl (fun hcd => ?_) (fun hcd => ?_) | refine N.condU rfl ?_ ?_)
  | (show AK _ _ _ _ _ _ _; first | refine N.seq ?_ | refine N.block ?_ | refine N.skip ?_ | refine N.ret ?_)
  | (show RK _ _ _ _ _ _ _; simp only [rk, rk0, reduceIte, Nat.reduceEqDiff])
  | (show WOpsT _ _ _ _ _ _; first | refine L.fad ?_ | refine L.fadd ?_ | refine L.st ?_ | refine L.zero ?_ | refine L.bsl ?_)
  | refine hQ _ _ _ rfl ?_
  | refine hQN _ _ _ rfl ?_)
  exact WS.gc [7] 2 rfl rfl .rfl
theorem lead8_ok : FnE Try.prog 194 [I 8] [] (.psl 0 1 0 3) [⟨1, 4, (leadM 8).map cyC⟩] := by
  refine N.fn Try.func194 k194 lb q194 fun Q hQ hQN => ?_
  rw [c194]
  repeat' (first
  | (show WOpsT _ (⟨_, .app _ _ _ _, none⟩ :: _) _ _ _ _; refine T.app rfl rfl rfl ⟨by decide, by decide⟩ ⟨rfl, rfl, rfl, by decide⟩ ?_)
  | refine N.regS fun K hK => ?_
  | refine N.dregS fun K hK => ?_
  | refine N.regN fun K hK => ?_
  | refine N.dregN fun K hK => ?_
  | simp only [T.mv, sm, AO.ev, put, lk, enter, reduceIte, Nat.reduceEqDiff, Nat.reduceAdd, Nat.reduceMul, Nat.reduceSub, Int.reduceNeg, Int.reduceToNat, upto, renB, setAll]
  | (refine T.nil ?_; (first | refine hK _ _ _ (by rfl) ?_ | refine hK _ _ _ ?_); (try simp only [keep, List.map, lk, reduceIte, Nat.reduceEqDiff, enter]); clear hK K)
  | (show WOpsT _ (⟨_, .call _ _, none⟩ :: _) _ _ _ _; first | refine T.call0 e197 rfl (zero_ok) ?_ | refine T.call0 e185 rfl ((two_ok 18 8 5)) ?_ | refine T.call0 e185 rfl ((two_ok 19 8 5)) ?_ | refine T.call0 e185 rfl ((two_ok 22 8 1)) ?_ | refine T.call0 e185 rfl ((two_ok 22 8 2)) ?_ | refine T.call0 e185 rfl ((two_ok 20 5 8)) ?_ | refine T.cP [0] e148 ((rdP_ok 0 5 [zeroM, twoM 18 8 5] 2)) ?_ | refine T.cP [2] e148 ((rdP_ok 0 5 [twoM 18 8 5] 1)) ?_ | refine T.cP [4] e148 ((rdP_ok 0 5 [twoM 19 8 5] 1)) ?_ | refine T.call0 e148 rfl ((rdN_ok 2 5)) ?_ | refine T.callN e149 rfl ((jump_ok 8)) (by simp) ?_ | refine T.cP [6] e148 ((rdQ_ok 3 6 [twoM 18 8 5, twoM 19 8 6, twoM 22 8 2] 3)) ?_)
  | (show WOpsT _ (⟨_, .ld _ _, none⟩ :: _) _ _ _ _; first | refine L.ld ?_ | refine L.ldd ?_ | refine L.ldn ?_ | refine L.lddn ?_)
  | (show WOpsT _ (⟨_, .bin _ _ _, none⟩ :: _) _ _ _ _; first | refine L.bin ?_)
  | (show AKW _ _ _ _ _ _ _; first | refine N.now ?_)
  | (show AK _ _ (.cond _ _ _) _ _ _ _; first | refine N.c1 ?_ | refine N.c2 ?_ | refine N.c3 ?_ | refine N.c4 ?_ | refine N.condD rfl (fun hcd => ?_) (fun hcd => ?_) | refine N.condB rfl (fun hcd => ?_) (fun hcd => ?_) | refine N.condU rfl ?_ ?_)
  | (show AK _ _ _ _ _ _ _; first | refine N.seq ?_ | refine N.block ?_ | refine N.skip ?_ | refine N.ret ?_)
  | (show RK _ _ _ _ _ _ _; simp only [rk, rk0, reduceIte, Nat.reduceEqDiff])
  | (show WOpsT _ _ _ _ _ _; first | refine L.fad ?_ | refine L.fadd ?_ | refine L.st ?_ | refine L.zero ?_ | refine L.bsl ?_)
  | refine hQ _ _ _ rfl ?_
  | refine hQN _ _ _ rfl ?_)
  exact WS.gc [8] 2 rfl rfl .rfl
theorem lead1_ok : FnE Try.prog 194 [I 1] [] (.c (.slice none 0 0)) [] := by
  refine N.fn Try.func194 k194 lb q194 fun Q hQ hQN => ?_
  rw [c194]
  repeat' (first
  | refine N.regS fun K hK => ?_
  | refine N.dregS fun K hK => ?_
  | refine N.regN fun K hK => ?_
  | refine N.dregN fun K hK => ?_
  | simp only [T.mv, sm, AO.ev, put, lk, enter, reduceIte, Nat.reduceEqDiff, Nat.reduceAdd, Nat.reduceMul, Nat.reduceSub, Int.reduceNeg, Int.reduceToNat, upto, renB, setAll]
  | (refine T.nil ?_; (first | refine hK _ _ _ (by rfl) ?_ | refine hK _ _ _ ?_); (try simp only [keep, List.map, lk, reduceIte, Nat.reduceEqDiff, enter]); clear hK K)
  | (show WOpsT _ (⟨_, .call _ _, none⟩ :: _) _ _ _ _; first | refine T.call0 e197 rfl (zero_ok) ?_ | refine T.call0 e185 rfl ((two_ok 18 8 5)) ?_ | refine T.call0 e185 rfl ((two_ok 19 8 5)) ?_ | refine T.call0 e185 rfl ((two_ok 22 8 1)) ?_ | refine T.call0 e185 rfl ((two_ok 22 8 2)) ?_ | refine T.call0 e185 rfl ((two_ok 20 5 8)) ?_ | refine T.cP [0] e148 ((rdP_ok 0 5 [zeroM, twoM 18 8 5] 2)) ?_ | refine T.cP [2] e148 ((rdP_ok 0 5 [twoM 18 8 5] 1)) ?_ | refine T.cP [4] e148 ((rdP_ok 0 5 [twoM 19 8 5] 1)) ?_)
  | (show WOpsT _ (⟨_, .ld _ _, none⟩ :: _) _ _ _ _; first | refine L.ld ?_ | refine L.ldd ?_ | refine L.ldn ?_ | refine L.lddn ?_)
  | (show WOpsT _ (⟨_, .bin _ _ _, none⟩ :: _) _ _ _ _; first | refine L.bin ?_)
  | (show AKW _ _ _ _ _ _ _; first | refine N.now ?_)
  | (show AK _ _ (.cond _ _ _) _ _ _ _; first | refine N.c1 ?_ | refine N.c2 ?_ | refine N.c3 ?_ | refine N.c4 ?_ | refine N.condD rfl (fun hcd => ?_) (fun hcd => ?_) | refine N.condB rfl (fun hcd => ?_) (fun hcd => ?_) | refine N.condU rfl ?_ ?_)
  | (show AK _ _ _ _ _ _ _; first | refine N.seq ?_ | refine N.block ?_ | refine N.skip ?_ | refine N.ret ?_)
  | (show RK _ _ _ _ _ _ _; simp only [rk, rk0, reduceIte, Nat.reduceEqDiff])
  | (show WOpsT _ _ _ _ _ _; first | refine L.fad ?_ | refine L.fadd ?_ | refine L.st ?_ | refine L.zero ?_ | refine L.bsl ?_)
  | refine hQ _ _ _ rfl ?_
  | refine hQN _ _ _ rfl ?_)
  exact WS.drop (n := 0) rfl rfl
def Adr (m : Int) : Prop := m = 2 ∨ m = 3 ∨ m = 4 ∨ m = 5 ∨ m = 6 ∨ m = 8
theorem lead_ok (m : Int) (hm : Adr m) : FnE Try.prog 194 [I m] [] (.psl 0 1 0 (leadM m).length) [⟨1, 4, (leadM m).map cyC⟩] := by
  rcases hm with rfl | rfl | rfl | rfl | rfl | rfl
  · exact lead2_ok
  · exact lead3_ok
  · exact lead4_ok
  · exact lead5_ok
  · exact lead6_ok
  · exact lead8_ok
theorem leadM_len (m : Int) : (leadM m).length ≤ 3 := by unfold leadM; (repeat' split) <;> decide
end Go.Proofs.Ytjmmompbmjhkpaa.Calc

namespace Go.Proofs.Ytjmmompbmjhkpaa.Calc
open Go Code
set_option linter.unusedSimpArgs false
set_option linter.unusedVariables false
set_option maxRecDepth 20000
set_option maxHeartbeats 4000000
attribute [local irreducible] WOpsT AW AK RK AKW UK UC
theorem outB_flatA {α : Type} {f : α → List V} [Flat f] {h : List Blk} {ids : List Nat} {n v e : Nat} {l : List α} {rows : List (List V)} : outB h ids n ⟨v, e, l.map f ++ rows⟩ = ⟨v, e, l.map f ++ rows.map (·.map (out h ids n))⟩ := by
  simp only [outB, List.map_append]; rw [flat_rows (fun _ => out_c) (fun _ _ => out_sl)]
theorem vcells_psl {h : List Blk} {b ver off len : Nat} {k : Blk} (hb : h[b]? = some k) (hv : k.ver = ver) : vcells (fun b => h[b]?) (.psl b ver off len) = some [.psl b ver off len] := by
  simp only [vcells, hb]; rw [if_pos hv]
theorem out_cyc {h : List Blk} {ids : List Nat} {b v p n len : Nat} {cs : List Cyc} {x : Cyc} (hp : pos ids b = none) (hp2 : pos ids p = none) (hb : h[b]? = some ⟨v, 4, cs.map cyC ++ [[I x.bus, I x.at_, I x.reg, .psl p 1 0 n]]⟩) (hb2 : h[p]? = some ⟨1, 4, x.steps.map stC⟩) (hn : x.steps.length ≤ n) (hl : cs.length + 1 ≤ len) :
    out h ids 2 (.psl b v 0 len) = .sl 4 ((cs ++ [x]).map cyC) := by
  rw [out_pslK hp hb rfl, List.drop_zero, List.take_of_length_le (by simpa using hl), List.map_append, rows_frz, List.map_append]
  congr 2
  simp only [List.map_cons, List.map_nil, frz_c]
  rw [frz_psl hb2 rfl (show (fun b => (pos ids b).isSome) p = false by dsimp only; rw [hp2]; rfl), List.drop_zero, List.take_of_length_le (by simpa using hn), rows_frz]
  rfl
def wR (m : Int) : Nat := if m = 1 then 0 else 1
theorem reads_ok (m : Int) (hm : m = 1 ∨ Adr m) (ss : List Stp) (n : Nat) : FnE Try.prog 193 [I m, .psl 0 1 0 n] [⟨1, 4, ss.map stC⟩] (.psl 1 (wR m + 1) 0 ((leadM m).length + 1))
    [⟨1, 4, ss.map stC⟩, ⟨wR m + 1, 4, (leadM m).map cyC ++ [[I 1, I (if m = 1 then 0 else 2), I 5, .psl 0 1 0 n]]⟩] := by
  rcases hm with rfl | hm
  · skip
    refine N.fn Try.func193 k193 lb q193 fun Q hQ hQN => ?_
    rw [c193]
    repeat' (first
    | rw [rows_ren]
    | (show WOpsT _ (⟨_, .app _ _ _ _, none⟩ :: _) _ _ _ _; refine T.appN rfl rfl ⟨by decide, by decide⟩ (by simp) (by simp) ?_)
    | refine N.regS fun K hK => ?_
    | refine N.dregS fun K hK => ?_
    | refine N.regN fun K hK => ?_
    | refine N.dregN fun K hK => ?_
    | simp only [T.mv, sm, AO.ev, put, lk, enter, reduceIte, Nat.reduceEqDiff, Nat.reduceAdd, Nat.reduceMul, Nat.reduceSub, Int.reduceNeg, Int.reduceToNat, upto, renB, setAll]
    | (refine T.nil ?_; (first | refine hK _ _ _ (by rfl) ?_ | refine hK _ _ _ ?_); (try simp only [keep, List.map, lk, reduceIte, Nat.reduceEqDiff, enter]); clear hK K)
    | (show WOpsT _ (⟨_, .call _ _, none⟩ :: _) _ _ _ _; first | refine T.call0 e194 rfl (lead1_ok) ?_ | refine T.cP [0] e148 ((rdP_ok 0 5 ss n)) ?_)
    | (show WOpsT _ (⟨_, .bin _ _ _, none⟩ :: _) _ _ _ _; first | refine L.bin ?_)
    | (show AKW _ _ _ _ _ _ _; first | refine N.now ?_)
    | (show AK _ _ (.cond _ _ _) _ _ _ _; first | refine N.c1 ?_ | refine N.c2 ?_ | refine N.c3 ?_ | refine N.c4 ?_ | refine N.condD rfl (fun hcd => ?_) (fun hcd => ?_) | refine N.condB rfl (fun hcd => ?_) (fun hcd => ?_) | refine N.condU rfl ?_ ?_)
    | (show AK _ _ _ _ _ _ _; first | refine N.seq ?_ | refine N.skip ?_ | refine N.ret ?_)
    | (show RK _ _ _ _ _ _ _; simp only [rk, rk0, reduceIte, Nat.reduceEqDiff])
    | (show WOpsT _ _ _ _ _ _; first | refine L.bsl ?_)
    | refine hQ _ _ _ rfl ?_
    | refine hQN _ _ _ rfl ?_)
    exact WS.gc [0, 2] 0 rfl (by show [(⟨1, 4, ss.map stC⟩ : Blk), _] = [outB _ _ _ ⟨1, 4, ss.map stC⟩, _]; rw [outB_flat]; rfl) .rfl
  · have h1 : m ≠ 1 := by unfold Adr at hm; omega
    have hl := lead_ok m hm
    have hn := leadM_len m
    have e : wR m = 1 := by unfold wR; rw [if_neg h1]
    rw [e, if_neg h1]
    refine N.fn Try.func193 k193 lb q193 fun Q hQ hQN => ?_
    rw [c193]
    repeat' (first
    | rw [rows_ren]
    | (show WOpsT _ (⟨_, .app _ _ _ _, none⟩ :: _) _ _ _ _; refine T.app rfl rfl rfl ⟨by decide, by decide⟩ ⟨rfl, rfl, by rw [List.length_map, Nat.zero_add], by simp; omega⟩ ?_)
    | refine N.regS fun K hK => ?_
    | refine N.dregS fun K hK => ?_
    | refine N.regN fun K hK => ?_
    | refine N.dregN fun K hK => ?_
    | simp only [T.mv, sm, AO.ev, put, lk, enter, reduceIte, Nat.reduceEqDiff, Nat.reduceAdd, Nat.reduceMul, Nat.reduceSub, Int.reduceNeg, Int.reduceToNat, upto, renB, setAll]
    | (refine T.nil ?_; (first | refine hK _ _ _ (by rfl) ?_ | refine hK _ _ _ ?_); (try simp only [keep, List.map, lk, reduceIte, Nat.reduceEqDiff, enter]); clear hK K)
    | (show WOpsT _ (⟨_, .call _ _, none⟩ :: _) _ _ _ _; first | refine T.callN e194 rfl (hl) (by simp) ?_ | refine T.cP [0] e148 ((rdP_ok 2 5 ss n)) ?_)
    | (show WOpsT _ (⟨_, .bin _ _ _, none⟩ :: _) _ _ _ _; first | refine L.bin ?_)
    | (show AKW _ _ _ _ _ _ _; first | refine N.now ?_)
    | (show AK _ _ (.cond _ _ _) _ _ _ _; first | refine N.c1 ?_ | refine N.c2 ?_ | refine N.c3 ?_ | refine N.c4 ?_ | refine N.condD rfl (fun hcd => ?_) (fun hcd => ?_) | refine N.condB rfl (fun hcd => ?_) (fun hcd => ?_) | refine N.condU rfl ?_ ?_)
    | (show AK _ _ _ _ _ _ _; first | refine N.seq ?_ | refine N.skip ?_ | refine N.ret ?_)
    | (show RK _ _ _ _ _ _ _; simp only [rk, rk0, reduceIte, Nat.reduceEqDiff])
    | (show WOpsT _ _ _ _ _ _; first | refine L.bsl ?_)
    | refine hQ _ _ _ rfl ?_
    | refine hQN _ _ _ rfl ?_)
    exact WS.gc [0, 1] 0 rfl (by show [(⟨1, 4, ss.map stC⟩ : Blk), ⟨2, 4, (leadM m).map cyC ++ _⟩] = [outB _ _ _ ⟨1, 4, ss.map stC⟩, outB _ _ _ ⟨2, 4, (leadM m).map cyC ++ [[I 1, I 2, I 5, .psl 0 1 0 n]]⟩]; rw [outB_flat, outB_flatA]; rfl) .rfl
def mkA (p : Nat) (l : List Ins) : Blk := ⟨1, 1, [[.psl p l.length 0 l.length]]⟩
def mkB (l : List Ins) : Blk := ⟨l.length, 4, l.map inC⟩
def insN (l : List Ins) (s : ByteArray) (m : Int) (cy : List Cyc) : Ins := ⟨(l.length : Int) + 1, s, m, cy⟩
theorem mkA_snoc (p : Nat) (l : List Ins) (x : Ins) : mkA p (l ++ [x]) = ⟨1, 1, [[.psl p (l.length + 1) 0 (l.length + 1)]]⟩ := by simp [mkA]
theorem mkB_snoc (l : List Ins) (x : Ins) : mkB (l ++ [x]) = ⟨l.length + 1, 4, l.map inC ++ [inC x]⟩ := by simp [mkB]
theorem add_ok (l : List Ins) (hl : 0 < l.length ∧ l.length ≤ 250) (s : ByteArray) (m : Int) (cy : List Cyc) : FnE Try.prog 183 [.ptr 0 1 0 0, .c (.string s), I m, .sl 4 (cy.map cyC)] [mkA 1 l, mkB l] (.tup []) [mkA 1 (l ++ [insN l s m cy]), mkB (l ++ [insN l s m cy])] := by
  refine N.fn Try.func183 k183 lb q183 fun Q hQ hQN => ?_
  rw [c183]
  repeat' (first
  | (show WOpsT _ (⟨_, .app _ _ _ _, none⟩ :: _) _ _ _ _; refine T.app rfl rfl rfl ⟨by decide, by decide⟩ ⟨rfl, rfl, by rw [Nat.zero_add]; exact (List.length_map _).symm, by simp; omega⟩ ?_)
  | (show WOpsT _ (⟨_, .st _ _ _, none⟩ :: _) _ _ _ _; refine T.st rfl rfl (vcells_psl rfl rfl) ⟨rfl, rfl⟩ rfl (Nat.le_of_ble_eq_true rfl) ?_)
  | refine N.regS fun K hK => ?_
  | refine N.dregS fun K hK => ?_
  | refine N.regN fun K hK => ?_
  | refine N.dregN fun K hK => ?_
  | simp only [T.mv, sm, AO.ev, put, lk, enter, reduceIte, Nat.reduceEqDiff, Nat.reduceAdd, Nat.reduceMul, Nat.reduceSub, Int.reduceNeg, Int.reduceToNat, upto, renB, setAll]
  | (refine T.nil ?_; (first | refine hK _ _ _ (by rfl) ?_ | refine hK _ _ _ ?_); (try simp only [keep, List.map, lk, reduceIte, Nat.reduceEqDiff, enter]); clear hK K)
  | (show WOpsT _ (⟨_, .ld _ _, none⟩ :: _) _ _ _ _; first | refine L.ld ?_ | refine L.ldd ?_)
  | (show WOpsT _ (⟨_, .bin _ _ _, none⟩ :: _) _ _ _ _; first | refine L.add ?_ | refine L.bin ?_)
  | (show AKW _ _ _ _ _ _ _; first | refine N.now ?_)
  | (show AK _ _ _ _ _ _ _; first | refine N.seq ?_ | refine N.ret ?_)
  | (show RK _ _ _ _ _ _ _; simp only [rk, rk0, reduceIte, Nat.reduceEqDiff])
  | (show WOpsT _ _ _ _ _ _; first | refine L.fad ?_ | refine L.fadd ?_ | refine L.nilc ?_ | refine L.nilcd ?_ | refine T.nilcf rfl ?_ | refine T.nilci rfl ?_ | refine L.st ?_ | refine L.build ?_ | refine L.len ?_ | refine L.lenS ?_ | refine L.lenN ?_ | refine L.bsl ?_)
  | refine hQ _ _ _ rfl ?_
  | refine hQN _ _ _ rfl ?_)
  exact WS.gc [0, 1] 0 rfl (by rw [mkA_snoc, mkB_snoc]; show [_, _] = [_, outB _ _ _ ⟨l.length + 1, 4, l.map inC ++ [inC (insN l s m cy)]⟩]; rw [outB_flatA]; rfl) .rfl
theorem add0_ok (s : ByteArray) (m : Int) (cy : List Cyc) : FnE Try.prog 183 [.ptr 0 1 0 0, .c (.string s), I m, .sl 4 (cy.map cyC)] [⟨1, 1, [[.c (.slice none 0 0)]]⟩] (.tup []) [mkA 1 [insN [] s m cy], mkB [insN [] s m cy]] := by
  refine N.fn Try.func183 k183 lb q183 fun Q hQ hQN => ?_
  rw [c183]
  repeat' (first
  | (show WOpsT _ (⟨_, .app _ _ _ _, none⟩ :: _) _ _ _ _; refine T.appN rfl rfl ⟨by decide, by decide⟩ (by simp) (by simp) ?_)
  | (show WOpsT _ (⟨_, .st _ _ _, none⟩ :: _) _ _ _ _; refine T.st rfl rfl (vcells_psl rfl rfl) ⟨rfl, rfl⟩ rfl (Nat.le_of_ble_eq_true rfl) ?_)
  | refine N.regS fun K hK => ?_
  | refine N.dregS fun K hK => ?_
  | refine N.regN fun K hK => ?_
  | refine N.dregN fun K hK => ?_
  | simp only [T.mv, sm, AO.ev, put, lk, enter, reduceIte, Nat.reduceEqDiff, Nat.reduceAdd, Nat.reduceMul, Nat.reduceSub, Int.reduceNeg, Int.reduceToNat, upto, renB, setAll]
  | (refine T.nil ?_; (first | refine hK _ _ _ (by rfl) ?_ | refine hK _ _ _ ?_); (try simp only [keep, List.map, lk, reduceIte, Nat.reduceEqDiff, enter]); clear hK K)
  | (show WOpsT _ (⟨_, .ld _ _, none⟩ :: _) _ _ _ _; first | refine L.ld ?_ | refine L.ldd ?_)
  | (show WOpsT _ (⟨_, .bin _ _ _, none⟩ :: _) _ _ _ _; first | refine L.add ?_ | refine L.bin ?_)
  | (show AKW _ _ _ _ _ _ _; first | refine N.now ?_)
  | (show AK _ _ _ _ _ _ _; first | refine N.seq ?_ | refine N.ret ?_)
  | (show RK _ _ _ _ _ _ _; simp only [rk, rk0, reduceIte, Nat.reduceEqDiff])
  | (show WOpsT _ _ _ _ _ _; first | refine L.fad ?_ | refine L.fadd ?_ | refine L.nilc ?_ | refine L.nilcd ?_ | refine T.nilcf rfl ?_ | refine T.nilci rfl ?_ | refine L.st ?_ | refine L.build ?_ | refine L.len ?_ | refine L.lenS ?_ | refine L.lenN ?_ | refine L.bsl ?_)
  | refine hQ _ _ _ rfl ?_
  | refine hQN _ _ _ rfl ?_)
  exact WS.gc [0, 2] 0 rfl rfl .rfl
end Go.Proofs.Ytjmmompbmjhkpaa.Calc

namespace Go.Proofs.Ytjmmompbmjhkpaa.Calc
open Go Code
set_option linter.unusedSimpArgs false
set_option linter.unusedVariables false
set_option maxRecDepth 20000
set_option maxHeartbeats 4000000
attribute [local irreducible] WOpsT AW AK RK AKW UK UC
theorem rows_renA {α : Type} {f : α → List V} [Flat f] (l : List α) (rows : List (List V)) (ks : List Nat) : (l.map f ++ rows).map (fun x => x.map (ren ks)) = l.map f ++ rows.map (fun x => x.map (ren ks)) := by
  rw [List.map_append, rows_ren]
theorem Sub.of_eq {a b : V} (h : a = b) : Sub a b := by rw [h]; exact .rfl
theorem renB_mkB {ids : List Nat} {l : List Ins} : renB ids (mkB l) = mkB l := renB_flat
theorem outB_mkB {h : List Blk} {ids : List Nat} {n : Nat} {l : List Ins} : outB h ids n (mkB l) = mkB l := outB_flat
def grow (l : List Ins) (F : Int → Row) (ms : List Int) (i : Nat) : List Ins := l ++ number l.length ((ms.take i).map F)
theorem grow_zero (l : List Ins) (F : Int → Row) (ms : List Int) : grow l F ms 0 = l := by simp [grow, number]
theorem grow_len (l : List Ins) (F : Int → Row) (ms : List Int) (i : Nat) (hi : i ≤ ms.length) : (grow l F ms i).length = l.length + i := by
  simp [grow, number_len]; omega
theorem grow_succ (l : List Ins) (F : Int → Row) (ms : List Int) (i : Nat) (hi : i < ms.length) : grow l F ms (i + 1) = grow l F ms i ++ [insN (grow l F ms i) (F ms[i]).1 (F ms[i]).2.1 (F ms[i]).2.2] := by
  have e := grow_len l F ms i (by omega)
  unfold insN
  rw [e]
  unfold grow
  rw [List.take_succ_eq_append_getElem hi, List.map_append, number_app, List.append_assoc, List.length_map, List.length_take, Nat.min_eq_left (by omega)]
  congr 1
theorem grow_all (l : List Ins) (F : Int → Row) (ms : List Int) : grow l F ms ms.length = l ++ number l.length (ms.map F) := by
  unfold grow; rw [List.take_length]
theorem cget (l : List Int) (i : Nat) (hi : i < l.length) : (cells l)[i]? = some [I l[i]] := by
  simp [cells, hi]
theorem loads_ok (l : List Ins) (s : ByteArray) (r : Int) (ms : List Int) (hl : 0 < l.length) (hb : l.length + ms.length ≤ 250) (hms : ∀ m ∈ ms, m = 1 ∨ Adr m) :
    FnE Try.prog 179 [.ptr 0 1 0 0, .c (.string s), I r, .psl 2 1 0 ms.length] [mkA 1 l, mkB l, ⟨1, 1, cells ms⟩] (.tup [])
      [mkA 1 (l ++ number l.length (loadsM s r ms)), mkB (l ++ number l.length (loadsM s r ms)), ⟨1, 1, cells ms⟩] := by
  obtain ⟨F, hF⟩ : ∃ F : Int → Row, F = fun m => (s, m, readsM m [twoM 1 r 5, oneM 3 r]) := ⟨_, rfl⟩
  have hfin : l ++ number l.length (loadsM s r ms) = grow l F ms ms.length := by rw [grow_all, hF]; rfl
  rw [hfin]
  obtain ⟨g, hg⟩ : ∃ g, grow l F ms = g := ⟨_, rfl⟩
  have hg0 : g 0 = l := by rw [← hg, grow_zero]
  have hgl : ∀ i, i ≤ ms.length → (g i).length = l.length + i := fun i hi => by rw [← hg, grow_len l F ms i hi]
  have hgs : ∀ (i : Nat) (hi : i < ms.length), g (i + 1) = g i ++ [insN (g i) s ms[i] (readsM ms[i] [twoM 1 r 5, oneM 3 r])] := fun i hi => by rw [← hg, grow_succ l F ms i hi, hF]
  rw [hg]
  clear hfin hg hF
  refine N.fn Try.func179 k179 lb q179 fun Q hQ hQN => ?_
  rw [c179]
  repeat' (first
  | refine N.regS fun K hK => ?_
  | refine N.dregS fun K hK => ?_
  | refine N.regN fun K hK => ?_
  | refine N.dregN fun K hK => ?_
  | simp only [T.mv, sm, AO.ev, put, lk, enter, reduceIte, Nat.reduceEqDiff, Nat.reduceAdd, Nat.reduceMul, Nat.reduceSub, Int.reduceNeg, Int.reduceToNat, upto, renB, setAll]
  | (refine T.nil ?_; (first | refine hK _ _ _ (by rfl) ?_ | refine hK _ _ _ ?_); (try simp only [keep, List.map, lk, reduceIte, Nat.reduceEqDiff, enter]); clear hK K)
  | (show WOpsT _ (⟨_, .ld _ _, none⟩ :: _) _ _ _ _; first | refine L.ld ?_ | refine L.ldd ?_)
  | (show WOpsT _ (⟨_, .idx _ _ _ _, none⟩ :: _) _ _ _ _; first | refine L.idx ?_ | refine L.idxs ?_)
  | (show WOpsT _ (⟨_, .bin _ _ _, none⟩ :: _) _ _ _ _; first | refine L.add ?_ | refine L.bin ?_)
  | (show AKW _ _ _ _ _ _ _; first | refine N.now ?_)
  | (show AK _ _ (.cond _ _ _) _ _ _ _; first | refine N.c1 ?_ | refine N.c2 ?_ | refine N.c3 ?_ | refine N.c4 ?_ | refine N.condD rfl (fun hcd => ?_) (fun hcd => ?_) | refine N.condB rfl (fun hcd => ?_) (fun hcd => ?_) | refine N.condU rfl ?_ ?_)
  | (show AK _ _ _ _ _ _ _; first | refine N.seq ?_ | refine N.block ?_ | refine N.skip ?_ | refine N.exit ?_ | refine N.ret ?_)
  | (show RK _ _ _ _ _ _ _; simp only [rk, rk0, reduceIte, Nat.reduceEqDiff])
  | (show WOpsT _ _ _ _ _ _; first | refine L.len ?_ | refine L.lenS ?_ | refine L.lenN ?_ | refine L.bsl ?_)
  | refine hQ _ _ _ rfl ?_
  | refine hQN _ _ _ rfl ?_)
  refine N.loop (σ := Nat) (fun i => [(0, .ptr 0 1 0 0), (1, .c (.string s)), (2, I r), (10, .psl 2 1 0 ms.length), (11, I ms.length), (12, I i)]) (fun i => [mkA 1 (g i), mkB (g i), ⟨1, 1, cells ms⟩]) (fun i => i ≤ ms.length) (fun i => ms.length - i) 0 (by omega) (Weaks.sel (by repeat (first | exact trivial | refine ⟨.rfl, ?_⟩ | refine ⟨.any, ?_⟩)) (by rw [hg0])) fun i hi R hC => ?_
  by_cases hil : i < ms.length
  · have e3 : 0 + (i : Int).toNat = i := by omega
    have hgt := cget ms i hil
    have hmi := hms _ (List.getElem_mem hil)
    have hn := hgs i hil
    have hlen := hgl i hi
    obtain ⟨m, hm⟩ : ∃ m, ms[i] = m := ⟨_, rfl⟩
    rw [hm] at hgt hmi hn
    have hr := reads_ok m hmi [twoM 1 r 5, oneM 3 r] 2
    have ha := add_ok (g i) (by omega) s m (readsM m [twoM 1 r 5, oneM 3 r])
    rw [← hn] at ha
    repeat' (first
    | rw [e3]
    | (show WOpsT _ (⟨_, .ld _ _, none⟩ :: _) _ _ _ _; refine T.ld rfl rfl rfl hgt rfl ?_)
    | rw [rows_renA]
    | (show AK _ _ (.reg (⟨some 16, _, _⟩ :: _) _) _ _ _ _; refine N.cutN 10 fun K hK => ?_)
    | (show AKW _ _ (.seq _ _) _ _ _ _; refine N.now ?_)
    | (show AKW _ _ (.block _ _) _ _ _ _; refine N.now ?_)
    | (show AKW _ _ (.cond _ _ _) _ _ _ _; refine N.now ?_)
    | (show AKW _ _ (.reg (⟨some 16, _, _⟩ :: _) _) _ _ _ _; refine N.now ?_)
    | refine N.regS fun K hK => ?_
    | refine N.dregS fun K hK => ?_
    | refine N.regN fun K hK => ?_
    | refine N.dregN fun K hK => ?_
    | simp only [T.mv, sm, AO.ev, put, lk, enter, reduceIte, Nat.reduceEqDiff, Nat.reduceAdd, Nat.reduceMul, Nat.reduceSub, Int.reduceNeg, Int.reduceToNat, upto, renB, setAll]
    | (refine T.nil ?_; (first | refine hK _ _ _ (by rfl) ?_ | refine hK _ _ _ ?_); (try simp only [keep, List.map, lk, reduceIte, Nat.reduceEqDiff, enter]); clear hK K)
    | (show WOpsT _ (⟨_, .call _ _, none⟩ :: _) _ _ _ _; first | refine T.call0 e185 rfl ((two_ok 1 r 5)) ?_ | refine T.call0 e186 rfl ((one_ok 3 r)) ?_ | refine T.cP [3] e193 (hr) ?_)
    | (show WOpsT _ (⟨_, .ld _ _, none⟩ :: _) _ _ _ _; first | refine L.ld ?_ | refine L.ldd ?_)
    | (show WOpsT _ (⟨_, .idx _ _ _ _, none⟩ :: _) _ _ _ _; first | refine L.idx ?_ | refine L.idxs ?_)
    | (show WOpsT _ (⟨_, .bin _ _ _, none⟩ :: _) _ _ _ _; first | refine L.add ?_ | refine L.bin ?_)
    | (show AK _ _ (.cond _ _ _) _ _ _ _; first | refine N.c1 ?_ | refine N.c2 ?_ | refine N.c3 ?_ | refine N.c4 ?_ | refine N.condD rfl (fun hcd => ?_) (fun hcd => ?_) | refine N.condB rfl (fun hcd => ?_) (fun hcd => ?_) | refine N.condU rfl ?_ ?_)
    | (show AK _ _ _ _ _ _ _; first | refine N.seq ?_ | refine N.block ?_ | refine N.skip ?_ | refine N.exit ?_ | refine N.ret ?_)
    | (show RK _ _ _ _ _ _ _; simp only [rk, rk0, reduceIte, Nat.reduceEqDiff])
    | (show WOpsT _ _ _ _ _ _; first | refine L.len ?_ | refine L.lenS ?_ | refine L.lenN ?_ | refine L.bsl ?_)
    | refine hQ _ _ _ rfl ?_
    | refine hQN _ _ _ rfl ?_)
    refine N.weak (fr1 := [(0, .ptr 0 1 0 0), (1, .c (.string s)), (2, I r), (10, .psl 2 1 0 ms.length), (11, I ms.length), (12, I i), (16, .ptr 0 1 0 0), (17, .c (.string s)), (18, I m), (25, .sl 4 ((readsM m [twoM 1 r 5, oneM 3 r]).map cyC))]) (h1 := [mkA 1 (g i), mkB (g i), ⟨1, 1, cells ms⟩]) (Weaks.gc [0, 1, 2] 2 rfl ⟨.rfl, .rfl, .rfl, .rfl, .rfl, .rfl, .rfl, .rfl, .rfl, ?_, trivial⟩ ?_) (N.now ?_)
    · exact Sub.of_eq (out_cyc (x := rdM (if m = 1 then 0 else 2) 5 [twoM 1 r 5, oneM 3 r]) rfl rfl rfl rfl (Nat.le_refl _) (Nat.le_refl _))
    · show [_, _, _] = [_, outB _ _ _ (mkB _), outB _ _ _ ⟨1, 1, cells ms⟩]
      rw [outB_mkB, outB_ints]; rfl
    repeat' (first
    | simp only [renB_mkB]
    | refine N.regS fun K hK => ?_
    | refine N.dregS fun K hK => ?_
    | refine N.regN fun K hK => ?_
    | refine N.dregN fun K hK => ?_
    | simp only [T.mv, sm, AO.ev, put, lk, enter, reduceIte, Nat.reduceEqDiff, Nat.reduceAdd, Nat.reduceMul, Nat.reduceSub, Int.reduceNeg, Int.reduceToNat, upto, renB, setAll]
    | (refine T.nil ?_; (first | refine hK _ _ _ (by rfl) ?_ | refine hK _ _ _ ?_); (try simp only [keep, List.map, lk, reduceIte, Nat.reduceEqDiff, enter]); clear hK K)
    | (show WOpsT _ (⟨_, .call _ _, none⟩ :: _) _ _ _ _; first | refine T.cP [0, 1] e183 (ha) ?_)
    | (show WOpsT _ (⟨_, .ld _ _, none⟩ :: _) _ _ _ _; first | refine L.ld ?_ | refine L.ldd ?_)
    | (show WOpsT _ (⟨_, .idx _ _ _ _, none⟩ :: _) _ _ _ _; first | refine L.idx ?_ | refine L.idxs ?_)
    | (show WOpsT _ (⟨_, .bin _ _ _, none⟩ :: _) _ _ _ _; first | refine L.add ?_ | refine L.bin ?_)
    | (show AKW _ _ _ _ _ _ _; first | refine N.now ?_)
    | (show AK _ _ (.cond _ _ _) _ _ _ _; first | refine N.c1 ?_ | refine N.c2 ?_ | refine N.c3 ?_ | refine N.c4 ?_ | refine N.condD rfl (fun hcd => ?_) (fun hcd => ?_) | refine N.condB rfl (fun hcd => ?_) (fun hcd => ?_) | refine N.condU rfl ?_ ?_)
    | (show AK _ _ _ _ _ _ _; first | refine N.seq ?_ | refine N.block ?_ | refine N.skip ?_ | refine N.exit ?_ | refine N.ret ?_)
    | (show RK _ _ _ _ _ _ _; simp only [rk, rk0, reduceIte, Nat.reduceEqDiff])
    | (show WOpsT _ _ _ _ _ _; first | refine L.len ?_ | refine L.lenS ?_ | refine L.lenN ?_ | refine L.bsl ?_)
    | refine hQ _ _ _ rfl ?_
    | refine hQN _ _ _ rfl ?_)
    exact hC _ _ (i + 1) (by omega) (by omega) (Weaks.sel (by repeat (first | exact trivial | refine ⟨.rfl, ?_⟩ | refine ⟨.any, ?_⟩)) (by show [_, _, _] = [renB [0, 1] (mkA 1 (g (i + 1))), renB [0, 1] (mkB (g (i + 1))), _]; rw [renB_mkB]; rfl))
  · obtain rfl : i = ms.length := by omega
    repeat' (first
    | refine N.regS fun K hK => ?_
    | refine N.dregS fun K hK => ?_
    | refine N.regN fun K hK => ?_
    | refine N.dregN fun K hK => ?_
    | simp only [T.mv, sm, AO.ev, put, lk, enter, reduceIte, Nat.reduceEqDiff, Nat.reduceAdd, Nat.reduceMul, Nat.reduceSub, Int.reduceNeg, Int.reduceToNat, upto, renB, setAll]
    | (refine T.nil ?_; (first | refine hK _ _ _ (by rfl) ?_ | refine hK _ _ _ ?_); (try simp only [keep, List.map, lk, reduceIte, Nat.reduceEqDiff, enter]); clear hK K)
    | (show WOpsT _ (⟨_, .ld _ _, none⟩ :: _) _ _ _ _; first | refine L.ld ?_ | refine L.ldd ?_)
    | (show WOpsT _ (⟨_, .idx _ _ _ _, none⟩ :: _) _ _ _ _; first | refine L.idx ?_ | refine L.idxs ?_)
    | (show WOpsT _ (⟨_, .bin _ _ _, none⟩ :: _) _ _ _ _; first | refine L.add ?_ | refine L.bin ?_)
    | (show AKW _ _ _ _ _ _ _; first | refine N.now ?_)
    | (show AK _ _ (.cond _ _ _) _ _ _ _; first | refine N.c1 ?_ | refine N.c2 ?_ | refine N.c3 ?_ | refine N.c4 ?_ | refine N.condD rfl (fun hcd => ?_) (fun hcd => ?_) | refine N.condB rfl (fun hcd => ?_) (fun hcd => ?_) | refine N.condU rfl ?_ ?_)
    | (show AK _ _ _ _ _ _ _; first | refine N.seq ?_ | refine N.block ?_ | refine N.skip ?_ | refine N.exit ?_ | refine N.ret ?_)
    | (show RK _ _ _ _ _ _ _; simp only [rk, rk0, reduceIte, Nat.reduceEqDiff])
    | (show WOpsT _ _ _ _ _ _; first | refine L.len ?_ | refine L.lenS ?_ | refine L.lenN ?_ | refine L.bsl ?_)
    | refine hQ _ _ _ rfl ?_
    | refine hQN _ _ _ rfl ?_)
    exact WS.gc [0, 1, 2] 0 rfl (by show [_, _, _] = [_, outB _ _ _ (mkB _), outB _ _ _ ⟨1, 1, cells ms⟩]; rw [outB_mkB, outB_ints]; rfl) .rfl
theorem stores_ok (l : List Ins) (s : ByteArray) (r : Int) (ms : List Int) (hl : 0 < l.length) (hb : l.length + ms.length ≤ 250) (hms : ∀ m ∈ ms, Adr m) :
    FnE Try.prog 180 [.ptr 0 1 0 0, .c (.string s), I r, .psl 2 1 0 ms.length] [mkA 1 l, mkB l, ⟨1, 1, cells ms⟩] (.tup [])
      [mkA 1 (l ++ number l.length (storesM s r ms)), mkB (l ++ number l.length (storesM s r ms)), ⟨1, 1, cells ms⟩] := by
  obtain ⟨F, hF⟩ : ∃ F : Int → Row, F = fun m => (s, m, leadM m ++ [wrM 2 r []]) := ⟨_, rfl⟩
  have hfin : l ++ number l.length (storesM s r ms) = grow l F ms ms.length := by rw [grow_all, hF]; rfl
  rw [hfin]
  obtain ⟨g, hg⟩ : ∃ g, grow l F ms = g := ⟨_, rfl⟩
  have hg0 : g 0 = l := by rw [← hg, grow_zero]
  have hgl : ∀ i, i ≤ ms.length → (g i).length = l.length + i := fun i hi => by rw [← hg, grow_len l F ms i hi]
  have hgs : ∀ (i : Nat) (hi : i < ms.length), g (i + 1) = g i ++ [insN (g i) s ms[i] (leadM ms[i] ++ [wrM 2 r []])] := fun i hi => by rw [← hg, grow_succ l F ms i hi, hF]
  rw [hg]
  clear hfin hg hF
  refine N.fn Try.func180 k180 lb q180 fun Q hQ hQN => ?_
  rw [c180]
  repeat' (first
  | refine N.regS fun K hK => ?_
  | refine N.dregS fun K hK => ?_
  | refine N.regN fun K hK => ?_
  | refine N.dregN fun K hK => ?_
  | simp only [T.mv, sm, AO.ev, put, lk, enter, reduceIte, Nat.reduceEqDiff, Nat.reduceAdd, Nat.reduceMul, Nat.reduceSub, Int.reduceNeg, Int.reduceToNat, upto, renB, setAll]
  | (refine T.nil ?_; (first | refine hK _ _ _ (by rfl) ?_ | refine hK _ _ _ ?_); (try simp only [keep, List.map, lk, reduceIte, Nat.reduceEqDiff, enter]); clear hK K)
  | (show WOpsT _ (⟨_, .ld _ _, none⟩ :: _) _ _ _ _; first | refine L.ld ?_ | refine L.ldd ?_)
  | (show WOpsT _ (⟨_, .idx _ _ _ _, none⟩ :: _) _ _ _ _; first | refine L.idx ?_ | refine L.idxs ?_)
  | (show WOpsT _ (⟨_, .bin _ _ _, none⟩ :: _) _ _ _ _; first | refine L.add ?_ | refine L.bin ?_)
  | (show AKW _ _ _ _ _ _ _; first | refine N.now ?_)
  | (show AK _ _ (.cond _ _ _) _ _ _ _; first | refine N.c1 ?_ | refine N.c2 ?_ | refine N.c3 ?_ | refine N.c4 ?_ | refine N.condD rfl (fun hcd => ?_) (fun hcd => ?_) | refine N.condB rfl (fun hcd => ?_) (fun hcd => ?_) | refine N.condU rfl ?_ ?_)
  | (show AK _ _ _ _ _ _ _; first | refine N.seq ?_ | refine N.block ?_ | refine N.skip ?_ | refine N.exit ?_ | refine N.ret ?_)
  | (show RK _ _ _ _ _ _ _; simp only [rk, rk0, reduceIte, Nat.reduceEqDiff])
  | (show WOpsT _ _ _ _ _ _; first | refine L.len ?_ | refine L.lenS ?_ | refine L.lenN ?_ | refine L.bsl ?_)
  | refine hQ _ _ _ rfl ?_
  | refine hQN _ _ _ rfl ?_)
  refine N.loop (σ := Nat) (fun i => [(0, .ptr 0 1 0 0), (1, .c (.string s)), (2, I r), (10, .psl 2 1 0 ms.length), (11, I ms.length), (12, I i)]) (fun i => [mkA 1 (g i), mkB (g i), ⟨1, 1, cells ms⟩]) (fun i => i ≤ ms.length) (fun i => ms.length - i) 0 (by omega) (Weaks.sel (by repeat (first | exact trivial | refine ⟨.rfl, ?_⟩ | refine ⟨.any, ?_⟩)) (by rw [hg0])) fun i hi R hC => ?_
  by_cases hil : i < ms.length
  · have e3 : 0 + (i : Int).toNat = i := by omega
    have hgt := cget ms i hil
    have hmi := hms _ (List.getElem_mem hil)
    have hn := hgs i hil
    have hlen := hgl i hi
    obtain ⟨m, hm⟩ : ∃ m, ms[i] = m := ⟨_, rfl⟩
    rw [hm] at hgt hmi hn
    have hr := lead_ok m hmi
    have hlm := leadM_len m
    have ha := add_ok (g i) (by omega) s m (leadM m ++ [wrM 2 r []])
    rw [← hn] at ha
    repeat' (first
    | rw [e3]
    | (show WOpsT _ (⟨_, .ld _ _, none⟩ :: _) _ _ _ _; refine T.ld rfl rfl rfl hgt rfl ?_)
    | rw [rows_ren]
    | (show WOpsT _ (⟨_, .app _ _ _ _, none⟩ :: _) _ _ _ _; refine T.app rfl rfl rfl ⟨by decide, by decide⟩ ⟨rfl, rfl, by rw [List.length_map, Nat.zero_add], by simp; omega⟩ ?_)
    | (show AK _ _ (.reg (⟨some 16, _, _⟩ :: _) _) _ _ _ _; refine N.cutN 9 fun K hK => ?_)
    | (show AKW _ _ (.seq _ _) _ _ _ _; refine N.now ?_)
    | (show AKW _ _ (.block _ _) _ _ _ _; refine N.now ?_)
    | (show AKW _ _ (.cond _ _ _) _ _ _ _; refine N.now ?_)
    | (show AKW _ _ (.reg (⟨some 16, _, _⟩ :: _) _) _ _ _ _; refine N.now ?_)
    | refine N.regS fun K hK => ?_
    | refine N.dregS fun K hK => ?_
    | refine N.regN fun K hK => ?_
    | refine N.dregN fun K hK => ?_
    | simp only [T.mv, sm, AO.ev, put, lk, enter, reduceIte, Nat.reduceEqDiff, Nat.reduceAdd, Nat.reduceMul, Nat.reduceSub, Int.reduceNeg, Int.reduceToNat, upto, renB, setAll]
    | (refine T.nil ?_; (first | refine hK _ _ _ (by rfl) ?_ | refine hK _ _ _ ?_); (try simp only [keep, List.map, lk, reduceIte, Nat.reduceEqDiff, enter]); clear hK K)
    | (show WOpsT _ (⟨_, .call _ _, none⟩ :: _) _ _ _ _; first | refine T.call0 e187 rfl ((wrN_ok 2 r)) ?_ | refine T.callN e194 rfl (hr) (by simp) ?_)
    | (show WOpsT _ (⟨_, .ld _ _, none⟩ :: _) _ _ _ _; first | refine L.ld ?_ | refine L.ldd ?_)
    | (show WOpsT _ (⟨_, .idx _ _ _ _, none⟩ :: _) _ _ _ _; first | refine L.idx ?_ | refine L.idxs ?_)
    | (show WOpsT _ (⟨_, .bin _ _ _, none⟩ :: _) _ _ _ _; first | refine L.add ?_ | refine L.bin ?_)
    | (show AK _ _ (.cond _ _ _) _ _ _ _; first | refine N.c1 ?_ | refine N.c2 ?_ | refine N.c3 ?_ | refine N.c4 ?_ | refine N.condD rfl (fun hcd => ?_) (fun hcd => ?_) | refine N.condB rfl (fun hcd => ?_) (fun hcd => ?_) | refine N.condU rfl ?_ ?_)
    | (show AK _ _ _ _ _ _ _; first | refine N.seq ?_ | refine N.block ?_ | refine N.skip ?_ | refine N.exit ?_ | refine N.ret ?_)
    | (show RK _ _ _ _ _ _ _; simp only [rk, rk0, reduceIte, Nat.reduceEqDiff])
    | (show WOpsT _ _ _ _ _ _; first | refine L.len ?_ | refine L.lenS ?_ | refine L.lenN ?_ | refine L.bsl ?_)
    | refine hQ _ _ _ rfl ?_
    | refine hQN _ _ _ rfl ?_)
    refine N.weak (fr1 := [(0, .ptr 0 1 0 0), (1, .c (.string s)), (2, I r), (10, .psl 2 1 0 ms.length), (11, I ms.length), (12, I i), (16, .ptr 0 1 0 0), (17, .c (.string s)), (18, I m), (24, .sl 4 ((leadM m ++ [wrM 2 r []]).map cyC))]) (h1 := [mkA 1 (g i), mkB (g i), ⟨1, 1, cells ms⟩]) (Weaks.gc [0, 1, 2] 2 rfl ⟨.rfl, .rfl, .rfl, .rfl, .rfl, .rfl, .rfl, .rfl, .rfl, ?_, trivial⟩ ?_) (N.now ?_)
    · exact Sub.of_eq (out_rowsK (f := cyC) (l := leadM m ++ [wrM 2 r []]) rfl (by rw [List.map_append]; rfl) (by rw [List.length_append]; exact Nat.le_refl _))
    · show [_, _, _] = [_, outB _ _ _ (mkB _), outB _ _ _ ⟨1, 1, cells ms⟩]
      rw [outB_mkB, outB_ints]; rfl
    repeat' (first
    | simp only [renB_mkB]
    | refine N.regS fun K hK => ?_
    | refine N.dregS fun K hK => ?_
    | refine N.regN fun K hK => ?_
    | refine N.dregN fun K hK => ?_
    | simp only [T.mv, sm, AO.ev, put, lk, enter, reduceIte, Nat.reduceEqDiff, Nat.reduceAdd, Nat.reduceMul, Nat.reduceSub, Int.reduceNeg, Int.reduceToNat, upto, renB, setAll]
    | (refine T.nil ?_; (first | refine hK _ _ _ (by rfl) ?_ | refine hK _ _ _ ?_); (try simp only [keep, List.map, lk, reduceIte, Nat.reduceEqDiff, enter]); clear hK K)
    | (show WOpsT _ (⟨_, .call _ _, none⟩ :: _) _ _ _ _; first | refine T.cP [0, 1] e183 (ha) ?_)
    | (show WOpsT _ (⟨_, .ld _ _, none⟩ :: _) _ _ _ _; first | refine L.ld ?_ | refine L.ldd ?_)
    | (show WOpsT _ (⟨_, .idx _ _ _ _, none⟩ :: _) _ _ _ _; first | refine L.idx ?_ | refine L.idxs ?_)
    | (show WOpsT _ (⟨_, .bin _ _ _, none⟩ :: _) _ _ _ _; first | refine L.add ?_ | refine L.bin ?_)
    | (show AKW _ _ _ _ _ _ _; first | refine N.now ?_)
    | (show AK _ _ (.cond _ _ _) _ _ _ _; first | refine N.c1 ?_ | refine N.c2 ?_ | refine N.c3 ?_ | refine N.c4 ?_ | refine N.condD rfl (fun hcd => ?_) (fun hcd => ?_) | refine N.condB rfl (fun hcd => ?_) (fun hcd => ?_) | refine N.condU rfl ?_ ?_)
    | (show AK _ _ _ _ _ _ _; first | refine N.seq ?_ | refine N.block ?_ | refine N.skip ?_ | refine N.exit ?_ | refine N.ret ?_)
    | (show RK _ _ _ _ _ _ _; simp only [rk, rk0, reduceIte, Nat.reduceEqDiff])
    | (show WOpsT _ _ _ _ _ _; first | refine L.len ?_ | refine L.lenS ?_ | refine L.lenN ?_ | refine L.bsl ?_)
    | refine hQ _ _ _ rfl ?_
    | refine hQN _ _ _ rfl ?_)
    exact hC _ _ (i + 1) (by omega) (by omega) (Weaks.sel (by repeat (first | exact trivial | refine ⟨.rfl, ?_⟩ | refine ⟨.any, ?_⟩)) (by show [_, _, _] = [renB [0, 1] (mkA 1 (g (i + 1))), renB [0, 1] (mkB (g (i + 1))), _]; rw [renB_mkB]; rfl))
  · obtain rfl : i = ms.length := by omega
    repeat' (first
    | refine N.regS fun K hK => ?_
    | refine N.dregS fun K hK => ?_
    | refine N.regN fun K hK => ?_
    | refine N.dregN fun K hK => ?_
    | simp only [T.mv, sm, AO.ev, put, lk, enter, reduceIte, Nat.reduceEqDiff, Nat.reduceAdd, Nat.reduceMul, Nat.reduceSub, Int.reduceNeg, Int.reduceToNat, upto, renB, setAll]
    | (refine T.nil ?_; (first | refine hK _ _ _ (by rfl) ?_ | refine hK _ _ _ ?_); (try simp only [keep, List.map, lk, reduceIte, Nat.reduceEqDiff, enter]); clear hK K)
    | (show WOpsT _ (⟨_, .ld _ _, none⟩ :: _) _ _ _ _; first | refine L.ld ?_ | refine L.ldd ?_)
    | (show WOpsT _ (⟨_, .idx _ _ _ _, none⟩ :: _) _ _ _ _; first | refine L.idx ?_ | refine L.idxs ?_)
    | (show WOpsT _ (⟨_, .bin _ _ _, none⟩ :: _) _ _ _ _; first | refine L.add ?_ | refine L.bin ?_)
    | (show AKW _ _ _ _ _ _ _; first | refine N.now ?_)
    | (show AK _ _ (.cond _ _ _) _ _ _ _; first | refine N.c1 ?_ | refine N.c2 ?_ | refine N.c3 ?_ | refine N.c4 ?_ | refine N.condD rfl (fun hcd => ?_) (fun hcd => ?_) | refine N.condB rfl (fun hcd => ?_) (fun hcd => ?_) | refine N.condU rfl ?_ ?_)
    | (show AK _ _ _ _ _ _ _; first | refine N.seq ?_ | refine N.block ?_ | refine N.skip ?_ | refine N.exit ?_ | refine N.ret ?_)
    | (show RK _ _ _ _ _ _ _; simp only [rk, rk0, reduceIte, Nat.reduceEqDiff])
    | (show WOpsT _ _ _ _ _ _; first | refine L.len ?_ | refine L.lenS ?_ | refine L.lenN ?_ | refine L.bsl ?_)
    | refine hQ _ _ _ rfl ?_
    | refine hQN _ _ _ rfl ?_)
    exact WS.gc [0, 1, 2] 0 rfl (by show [_, _, _] = [_, outB _ _ _ (mkB _), outB _ _ _ ⟨1, 1, cells ms⟩]; rw [outB_mkB, outB_ints]; rfl) .rfl
theorem joins_ok (l : List Ins) (s : ByteArray) (d r : Int) (ms : List Int) (hl : 0 < l.length) (hb : l.length + ms.length ≤ 250) (hms : ∀ m ∈ ms, m = 1 ∨ Adr m) :
    FnE Try.prog 181 [.ptr 0 1 0 0, .c (.string s), I d, I r, .psl 2 1 0 ms.length] [mkA 1 l, mkB l, ⟨1, 1, cells ms⟩] (.tup [])
      [mkA 1 (l ++ number l.length (joinsM s d r ms)), mkB (l ++ number l.length (joinsM s d r ms)), ⟨1, 1, cells ms⟩] := by
  obtain ⟨F, hF⟩ : ∃ F : Int → Row, F = fun m => (s, m, readsM m [twoM d r 5]) := ⟨_, rfl⟩
  have hfin : l ++ number l.length (joinsM s d r ms) = grow l F ms ms.length := by rw [grow_all, hF]; rfl
  rw [hfin]
  obtain ⟨g, hg⟩ : ∃ g, grow l F ms = g := ⟨_, rfl⟩
  have hg0 : g 0 = l := by rw [← hg, grow_zero]
  have hgl : ∀ i, i ≤ ms.length → (g i).length = l.length + i := fun i hi => by rw [← hg, grow_len l F ms i hi]
  have hgs : ∀ (i : Nat) (hi : i < ms.length), g (i + 1) = g i ++ [insN (g i) s ms[i] (readsM ms[i] [twoM d r 5])] := fun i hi => by rw [← hg, grow_succ l F ms i hi, hF]
  rw [hg]
  clear hfin hg hF
  refine N.fn Try.func181 k181 lb q181 fun Q hQ hQN => ?_
  rw [c181]
  repeat' (first
  | refine N.regS fun K hK => ?_
  | refine N.dregS fun K hK => ?_
  | refine N.regN fun K hK => ?_
  | refine N.dregN fun K hK => ?_
  | simp only [T.mv, sm, AO.ev, put, lk, enter, reduceIte, Nat.reduceEqDiff, Nat.reduceAdd, Nat.reduceMul, Nat.reduceSub, Int.reduceNeg, Int.reduceToNat, upto, renB, setAll]
  | (refine T.nil ?_; (first | refine hK _ _ _ (by rfl) ?_ | refine hK _ _ _ ?_); (try simp only [keep, List.map, lk, reduceIte, Nat.reduceEqDiff, enter]); clear hK K)
  | (show WOpsT _ (⟨_, .ld _ _, none⟩ :: _) _ _ _ _; first | refine L.ld ?_ | refine L.ldd ?_)
  | (show WOpsT _ (⟨_, .idx _ _ _ _, none⟩ :: _) _ _ _ _; first | refine L.idx ?_ | refine L.idxs ?_)
  | (show WOpsT _ (⟨_, .bin _ _ _, none⟩ :: _) _ _ _ _; first | refine L.add ?_ | refine L.bin ?_)
  | (show AKW _ _ _ _ _ _ _; first | refine N.now ?_)
  | (show AK _ _ (.cond _ _ _) _ _ _ _; first | refine N.c1 ?_ | refine N.c2 ?_ | refine N.c3 ?_ | refine N.c4 ?_ | refine N.condD rfl (fun hcd => ?_) (fun hcd => ?_) | refine N.condB rfl (fun hcd => ?_) (fun hcd => ?_) | refine N.condU rfl ?_ ?_)
  | (show AK _ _ _ _ _ _ _; first | refine N.seq ?_ | refine N.block ?_ | refine N.skip ?_ | refine N.exit ?_ | refine N.ret ?_)
  | (show RK _ _ _ _ _ _ _; simp only [rk, rk0, reduceIte, Nat.reduceEqDiff])
  | (show WOpsT _ _ _ _ _ _; first | refine L.len ?_ | refine L.lenS ?_ | refine L.lenN ?_ | refine L.bsl ?_)
  | refine hQ _ _ _ rfl ?_
  | refine hQN _ _ _ rfl ?_)
  refine N.loop (σ := Nat) (fun i => [(0, .ptr 0 1 0 0), (1, .c (.string s)), (2, I d), (3, I r), (12, .psl 2 1 0 ms.length), (13, I ms.length), (14, I i)]) (fun i => [mkA 1 (g i), mkB (g i), ⟨1, 1, cells ms⟩]) (fun i => i ≤ ms.length) (fun i => ms.length - i) 0 (by omega) (Weaks.sel (by repeat (first | exact trivial | refine ⟨.rfl, ?_⟩ | refine ⟨.any, ?_⟩)) (by rw [hg0])) fun i hi R hC => ?_
  by_cases hil : i < ms.length
  · have e3 : 0 + (i : Int).toNat = i := by omega
    have hgt := cget ms i hil
    have hmi := hms _ (List.getElem_mem hil)
    have hn := hgs i hil
    have hlen := hgl i hi
    obtain ⟨m, hm⟩ : ∃ m, ms[i] = m := ⟨_, rfl⟩
    rw [hm] at hgt hmi hn
    have hr := reads_ok m hmi [twoM d r 5] 1
    have ha := add_ok (g i) (by omega) s m (readsM m [twoM d r 5])
    rw [← hn] at ha
    repeat' (first
    | rw [e3]
    | (show WOpsT _ (⟨_, .ld _ _, none⟩ :: _) _ _ _ _; refine T.ld rfl rfl rfl hgt rfl ?_)
    | rw [rows_renA]
    | (show AK _ _ (.reg (⟨some 18, _, _⟩ :: _) _) _ _ _ _; refine N.cutN 9 fun K hK => ?_)
    | (show AKW _ _ (.seq _ _) _ _ _ _; refine N.now ?_)
    | (show AKW _ _ (.block _ _) _ _ _ _; refine N.now ?_)
    | (show AKW _ _ (.cond _ _ _) _ _ _ _; refine N.now ?_)
    | (show AKW _ _ (.reg (⟨some 18, _, _⟩ :: _) _) _ _ _ _; refine N.now ?_)
    | refine N.regS fun K hK => ?_
    | refine N.dregS fun K hK => ?_
    | refine N.regN fun K hK => ?_
    | refine N.dregN fun K hK => ?_
    | simp only [T.mv, sm, AO.ev, put, lk, enter, reduceIte, Nat.reduceEqDiff, Nat.reduceAdd, Nat.reduceMul, Nat.reduceSub, Int.reduceNeg, Int.reduceToNat, upto, renB, setAll]
    | (refine T.nil ?_; (first | refine hK _ _ _ (by rfl) ?_ | refine hK _ _ _ ?_); (try simp only [keep, List.map, lk, reduceIte, Nat.reduceEqDiff, enter]); clear hK K)
    | (show WOpsT _ (⟨_, .call _ _, none⟩ :: _) _ _ _ _; first | refine T.call0 e185 rfl ((two_ok d r 5)) ?_ | refine T.cP [3] e193 (hr) ?_)
    | (show WOpsT _ (⟨_, .ld _ _, none⟩ :: _) _ _ _ _; first | refine L.ld ?_ | refine L.ldd ?_)
    | (show WOpsT _ (⟨_, .idx _ _ _ _, none⟩ :: _) _ _ _ _; first | refine L.idx ?_ | refine L.idxs ?_)
    | (show WOpsT _ (⟨_, .bin _ _ _, none⟩ :: _) _ _ _ _; first | refine L.add ?_ | refine L.bin ?_)
    | (show AK _ _ (.cond _ _ _) _ _ _ _; first | refine N.c1 ?_ | refine N.c2 ?_ | refine N.c3 ?_ | refine N.c4 ?_ | refine N.condD rfl (fun hcd => ?_) (fun hcd => ?_) | refine N.condB rfl (fun hcd => ?_) (fun hcd => ?_) | refine N.condU rfl ?_ ?_)
    | (show AK _ _ _ _ _ _ _; first | refine N.seq ?_ | refine N.block ?_ | refine N.skip ?_ | refine N.exit ?_ | refine N.ret ?_)
    | (show RK _ _ _ _ _ _ _; simp only [rk, rk0, reduceIte, Nat.reduceEqDiff])
    | (show WOpsT _ _ _ _ _ _; first | refine L.len ?_ | refine L.lenS ?_ | refine L.lenN ?_ | refine L.bsl ?_)
    | refine hQ _ _ _ rfl ?_
    | refine hQN _ _ _ rfl ?_)
    refine N.weak (fr1 := [(0, .ptr 0 1 0 0), (1, .c (.string s)), (2, I d), (3, I r), (12, .psl 2 1 0 ms.length), (13, I ms.length), (14, I i), (18, .ptr 0 1 0 0), (19, .c (.string s)), (20, I m), (26, .sl 4 ((readsM m [twoM d r 5]).map cyC))]) (h1 := [mkA 1 (g i), mkB (g i), ⟨1, 1, cells ms⟩]) (Weaks.gc [0, 1, 2] 2 rfl ⟨.rfl, .rfl, .rfl, .rfl, .rfl, .rfl, .rfl, .rfl, .rfl, .rfl, ?_, trivial⟩ ?_) (N.now ?_)
    · exact Sub.of_eq (out_cyc (x := rdM (if m = 1 then 0 else 2) 5 [twoM d r 5]) rfl rfl rfl rfl (Nat.le_refl _) (Nat.le_refl _))
    · show [_, _, _] = [_, outB _ _ _ (mkB _), outB _ _ _ ⟨1, 1, cells ms⟩]
      rw [outB_mkB, outB_ints]; rfl
    repeat' (first
    | simp only [renB_mkB]
    | refine N.regS fun K hK => ?_
    | refine N.dregS fun K hK => ?_
    | refine N.regN fun K hK => ?_
    | refine N.dregN fun K hK => ?_
    | simp only [T.mv, sm, AO.ev, put, lk, enter, reduceIte, Nat.reduceEqDiff, Nat.reduceAdd, Nat.reduceMul, Nat.reduceSub, Int.reduceNeg, Int.reduceToNat, upto, renB, setAll]
    | (refine T.nil ?_; (first | refine hK _ _ _ (by rfl) ?_ | refine hK _ _ _ ?_); (try simp only [keep, List.map, lk, reduceIte, Nat.reduceEqDiff, enter]); clear hK K)
    | (show WOpsT _ (⟨_, .call _ _, none⟩ :: _) _ _ _ _; first | refine T.cP [0, 1] e183 (ha) ?_)
    | (show WOpsT _ (⟨_, .ld _ _, none⟩ :: _) _ _ _ _; first | refine L.ld ?_ | refine L.ldd ?_)
    | (show WOpsT _ (⟨_, .idx _ _ _ _, none⟩ :: _) _ _ _ _; first | refine L.idx ?_ | refine L.idxs ?_)
    | (show WOpsT _ (⟨_, .bin _ _ _, none⟩ :: _) _ _ _ _; first | refine L.add ?_ | refine L.bin ?_)
    | (show AKW _ _ _ _ _ _ _; first | refine N.now ?_)
    | (show AK _ _ (.cond _ _ _) _ _ _ _; first | refine N.c1 ?_ | refine N.c2 ?_ | refine N.c3 ?_ | refine N.c4 ?_ | refine N.condD rfl (fun hcd => ?_) (fun hcd => ?_) | refine N.condB rfl (fun hcd => ?_) (fun hcd => ?_) | refine N.condU rfl ?_ ?_)
    | (show AK _ _ _ _ _ _ _; first | refine N.seq ?_ | refine N.block ?_ | refine N.skip ?_ | refine N.exit ?_ | refine N.ret ?_)
    | (show RK _ _ _ _ _ _ _; simp only [rk, rk0, reduceIte, Nat.reduceEqDiff])
    | (show WOpsT _ _ _ _ _ _; first | refine L.len ?_ | refine L.lenS ?_ | refine L.lenN ?_ | refine L.bsl ?_)
    | refine hQ _ _ _ rfl ?_
    | refine hQN _ _ _ rfl ?_)
    exact hC _ _ (i + 1) (by omega) (by omega) (Weaks.sel (by repeat (first | exact trivial | refine ⟨.rfl, ?_⟩ | refine ⟨.any, ?_⟩)) (by show [_, _, _] = [renB [0, 1] (mkA 1 (g (i + 1))), renB [0, 1] (mkB (g (i + 1))), _]; rw [renB_mkB]; rfl))
  · obtain rfl : i = ms.length := by omega
    repeat' (first
    | refine N.regS fun K hK => ?_
    | refine N.dregS fun K hK => ?_
    | refine N.regN fun K hK => ?_
    | refine N.dregN fun K hK => ?_
    | simp only [T.mv, sm, AO.ev, put, lk, enter, reduceIte, Nat.reduceEqDiff, Nat.reduceAdd, Nat.reduceMul, Nat.reduceSub, Int.reduceNeg, Int.reduceToNat, upto, renB, setAll]
    | (refine T.nil ?_; (first | refine hK _ _ _ (by rfl) ?_ | refine hK _ _ _ ?_); (try simp only [keep, List.map, lk, reduceIte, Nat.reduceEqDiff, enter]); clear hK K)
    | (show WOpsT _ (⟨_, .ld _ _, none⟩ :: _) _ _ _ _; first | refine L.ld ?_ | refine L.ldd ?_)
    | (show WOpsT _ (⟨_, .idx _ _ _ _, none⟩ :: _) _ _ _ _; first | refine L.idx ?_ | refine L.idxs ?_)
    | (show WOpsT _ (⟨_, .bin _ _ _, none⟩ :: _) _ _ _ _; first | refine L.add ?_ | refine L.bin ?_)
    | (show AKW _ _ _ _ _ _ _; first | refine N.now ?_)
    | (show AK _ _ (.cond _ _ _) _ _ _ _; first | refine N.c1 ?_ | refine N.c2 ?_ | refine N.c3 ?_ | refine N.c4 ?_ | refine N.condD rfl (fun hcd => ?_) (fun hcd => ?_) | refine N.condB rfl (fun hcd => ?_) (fun hcd => ?_) | refine N.condU rfl ?_ ?_)
    | (show AK _ _ _ _ _ _ _; first | refine N.seq ?_ | refine N.block ?_ | refine N.skip ?_ | refine N.exit ?_ | refine N.ret ?_)
    | (show RK _ _ _ _ _ _ _; simp only [rk, rk0, reduceIte, Nat.reduceEqDiff])
    | (show WOpsT _ _ _ _ _ _; first | refine L.len ?_ | refine L.lenS ?_ | refine L.lenN ?_ | refine L.bsl ?_)
    | refine hQ _ _ _ rfl ?_
    | refine hQN _ _ _ rfl ?_)
    exact WS.gc [0, 1, 2] 0 rfl (by show [_, _, _] = [_, outB _ _ _ (mkB _), outB _ _ _ ⟨1, 1, cells ms⟩]; rw [outB_mkB, outB_ints]; rfl) .rfl
theorem out_cycY {h : List Blk} {ids : List Nat} {b v p n len : Nat} {cs ds : List Cyc} {x : Cyc} (hp : pos ids b = none) (hp2 : pos ids p = none) (hb : h[b]? = some ⟨v, 4, cs.map cyC ++ ([I x.bus, I x.at_, I x.reg, .psl p 1 0 n] :: ds.map cyC)⟩) (hb2 : h[p]? = some ⟨1, 4, x.steps.map stC⟩) (hn : x.steps.length ≤ n) (hl : cs.length + (ds.length + 1) ≤ len) :
    out h ids 2 (.psl b v 0 len) = .sl 4 ((cs ++ x :: ds).map cyC) := by
  rw [out_pslK hp hb rfl, List.drop_zero, List.take_of_length_le (by simpa using hl), List.map_append, rows_frz, List.map_append, List.map_cons, List.map_cons, rows_frz]
  congr 3
  simp only [List.map_cons, List.map_nil, frz_c]
  rw [frz_psl hb2 rfl (show (fun b => (pos ids b).isSome) p = false by dsimp only; rw [hp2]; rfl), List.drop_zero, List.take_of_length_le (by simpa using hn), rows_frz]
  rfl
theorem turns_ok (l : List Ins) (s : ByteArray) (d : Int) (ms : List Int) (hl : 0 < l.length) (hb : l.length + ms.length ≤ 250) (hms : ∀ m ∈ ms, m = 0 ∨ Adr m) :
    FnE Try.prog 182 [.ptr 0 1 0 0, .c (.string s), I d, .psl 2 1 0 ms.length] [mkA 1 l, mkB l, ⟨1, 1, cells ms⟩] (.tup [])
      [mkA 1 (l ++ number l.length (turnsM s d ms)), mkB (l ++ number l.length (turnsM s d ms)), ⟨1, 1, cells ms⟩] := by
  obtain ⟨F, hF⟩ : ∃ F : Int → Row, F = fun m => (s, m, if m = 0 then [noM [oneM d 0]] else leadM m ++ [rdM 2 5 [oneM d 5], wrM 2 5 []]) := ⟨_, rfl⟩
  have hfin : l ++ number l.length (turnsM s d ms) = grow l F ms ms.length := by rw [grow_all, hF]; rfl
  rw [hfin]
  obtain ⟨g, hg⟩ : ∃ g, grow l F ms = g := ⟨_, rfl⟩
  have hg0 : g 0 = l := by rw [← hg, grow_zero]
  have hgl : ∀ i, i ≤ ms.length → (g i).length = l.length + i := fun i hi => by rw [← hg, grow_len l F ms i hi]
  have hgs : ∀ (i : Nat) (hi : i < ms.length), g (i + 1) = g i ++ [insN (g i) s ms[i] (if ms[i] = 0 then [noM [oneM d 0]] else leadM ms[i] ++ [rdM 2 5 [oneM d 5], wrM 2 5 []])] := fun i hi => by rw [← hg, grow_succ l F ms i hi, hF]
  rw [hg]
  clear hfin hg hF
  refine N.fn Try.func182 k182 lb q182 fun Q hQ hQN => ?_
  rw [c182]
  repeat' (first
  | refine N.regS fun K hK => ?_
  | refine N.dregS fun K hK => ?_
  | refine N.regN fun K hK => ?_
  | refine N.dregN fun K hK => ?_
  | simp only [T.mv, sm, AO.ev, put, lk, enter, reduceIte, Nat.reduceEqDiff, Nat.reduceAdd, Nat.reduceMul, Nat.reduceSub, Int.reduceNeg, Int.reduceToNat, upto, renB, setAll]
  | (refine T.nil ?_; (first | refine hK _ _ _ (by rfl) ?_ | refine hK _ _ _ ?_); (try simp only [keep, List.map, lk, reduceIte, Nat.reduceEqDiff, enter]); clear hK K)
  | (show WOpsT _ (⟨_, .ld _ _, none⟩ :: _) _ _ _ _; first | refine L.ld ?_ | refine L.ldd ?_)
  | (show WOpsT _ (⟨_, .idx _ _ _ _, none⟩ :: _) _ _ _ _; first | refine L.idx ?_ | refine L.idxs ?_)
  | (show WOpsT _ (⟨_, .bin _ _ _, none⟩ :: _) _ _ _ _; first | refine L.add ?_ | refine L.bin ?_)
  | (show AKW _ _ _ _ _ _ _; first | refine N.now ?_)
  | (show AK _ _ (.cond _ _ _) _ _ _ _; first | refine N.c1 ?_ | refine N.c2 ?_ | refine N.c3 ?_ | refine N.c4 ?_ | refine N.condD rfl (fun hcd => ?_) (fun hcd => ?_) | refine N.condB rfl (fun hcd => ?_) (fun hcd => ?_) | refine N.condU rfl ?_ ?_)
  | (show AK _ _ _ _ _ _ _; first | refine N.seq ?_ | refine N.block ?_ | refine N.skip ?_ | refine N.exit ?_ | refine N.ret ?_)
  | (show RK _ _ _ _ _ _ _; simp only [rk, rk0, reduceIte, Nat.reduceEqDiff])
  | (show WOpsT _ _ _ _ _ _; first | refine L.len ?_ | refine L.lenS ?_ | refine L.lenN ?_ | refine L.bsl ?_)
  | refine hQ _ _ _ rfl ?_
  | refine hQN _ _ _ rfl ?_)
  refine N.loop (σ := Nat) (fun i => [(0, .ptr 0 1 0 0), (1, .c (.string s)), (2, I d), (10, .psl 2 1 0 ms.length), (11, I ms.length), (12, I i)]) (fun i => [mkA 1 (g i), mkB (g i), ⟨1, 1, cells ms⟩]) (fun i => i ≤ ms.length) (fun i => ms.length - i) 0 (by omega) (Weaks.sel (by repeat (first | exact trivial | refine ⟨.rfl, ?_⟩ | refine ⟨.any, ?_⟩)) (by rw [hg0])) fun i hi R hC => ?_
  by_cases hil : i < ms.length
  · have e3 : 0 + (i : Int).toNat = i := by omega
    have hgt := cget ms i hil
    have hmi := hms _ (List.getElem_mem hil)
    have hn := hgs i hil
    have hlen := hgl i hi
    obtain ⟨m, hm⟩ : ∃ m, ms[i] = m := ⟨_, rfl⟩
    rw [hm] at hgt hmi hn
    rcases hmi with rfl | hmi
    · have hn := hn
      rw [if_pos rfl] at hn
      have ha := add_ok (g i) (by omega) s 0 [noM [oneM d 0]]
      rw [← hn] at ha
      repeat' (first
      | rw [e3]
      | (show WOpsT _ (⟨_, .ld _ _, none⟩ :: _) _ _ _ _; refine T.ld rfl rfl rfl hgt rfl ?_)
      | (show AKW _ _ (.seq (.reg (⟨some 26, _, _⟩ :: _) _) _) _ _ _ _; fail)
      | (show AK _ _ (.seq (.reg (⟨some 18, _, _⟩ :: _) _) _) _ _ _ _; refine N.cut 8 fun K hK => ?_)
      | (show AKW _ _ (.seq (.reg (⟨some 14, _, _⟩ :: _) _) _) _ _ _ _; refine N.now ?_)
      | (show AKW _ _ (.seq (.cond _ _ _) _) _ _ _ _; refine N.now ?_)
      | (show AKW _ _ (.seq (.seq _ _) _) _ _ _ _; refine N.now ?_)
      | (show AKW _ _ (.seq (.block _ _) _) _ _ _ _; refine N.now ?_)
      | (show AKW _ _ (.block _ _) _ _ _ _; refine N.now ?_)
      | (show AKW _ _ (.cond _ _ _) _ _ _ _; refine N.now ?_)
      | refine N.regS fun K hK => ?_
      | refine N.dregS fun K hK => ?_
      | refine N.regN fun K hK => ?_
      | refine N.dregN fun K hK => ?_
      | simp only [T.mv, sm, AO.ev, put, lk, enter, reduceIte, Nat.reduceEqDiff, Nat.reduceAdd, Nat.reduceMul, Nat.reduceSub, Int.reduceNeg, Int.reduceToNat, upto, renB, setAll]
      | (refine T.nil ?_; (first | refine hK _ _ _ (by rfl) ?_ | refine hK _ _ _ ?_); (try simp only [keep, List.map, lk, reduceIte, Nat.reduceEqDiff, enter]); clear hK K)
      | (show WOpsT _ (⟨_, .call _ _, none⟩ :: _) _ _ _ _; first | refine T.call0 e186 rfl ((one_ok d 0)) ?_ | refine T.cP [3] e184 ((noP_ok [oneM d 0] 1)) ?_)
      | (show WOpsT _ (⟨_, .ld _ _, none⟩ :: _) _ _ _ _; first | refine L.ld ?_ | refine L.ldd ?_)
      | (show WOpsT _ (⟨_, .idx _ _ _ _, none⟩ :: _) _ _ _ _; first | refine L.idx ?_ | refine L.idxs ?_)
      | (show WOpsT _ (⟨_, .bin _ _ _, none⟩ :: _) _ _ _ _; first | refine L.add ?_ | refine L.bin ?_)
      | (show AK _ _ (.cond _ _ _) _ _ _ _; first | refine N.c1 ?_ | refine N.c2 ?_ | refine N.c3 ?_ | refine N.c4 ?_ | refine N.condD rfl (fun hcd => ?_) (fun hcd => ?_) | refine N.condB rfl (fun hcd => ?_) (fun hcd => ?_) | refine N.condU rfl ?_ ?_)
      | (show AK _ _ _ _ _ _ _; first | refine N.seq ?_ | refine N.block ?_ | refine N.skip ?_ | refine N.exit ?_ | refine N.ret ?_)
      | (show RK _ _ _ _ _ _ _; simp only [rk, rk0, reduceIte, Nat.reduceEqDiff])
      | (show WOpsT _ _ _ _ _ _; first | refine L.len ?_ | refine L.lenS ?_ | refine L.lenN ?_ | refine L.bsl ?_)
      | refine hQ _ _ _ rfl ?_
      | refine hQN _ _ _ rfl ?_)
      refine N.weak (fr1 := [(0, .ptr 0 1 0 0), (1, .c (.string s)), (2, I d), (10, .psl 2 1 0 ms.length), (11, I ms.length), (12, I i), (18, .ptr 0 1 0 0), (19, .c (.string s)), (20, I 0), (25, .sl 4 (([noM [oneM d 0]]).map cyC))]) (h1 := [mkA 1 (g i), mkB (g i), ⟨1, 1, cells ms⟩]) (Weaks.gc [0, 1, 2] 2 rfl ⟨.rfl, .rfl, .rfl, .rfl, .rfl, .rfl, .rfl, .rfl, .rfl, ?_, trivial⟩ ?_) (N.now ?_)
      · exact .rfl
      · show [_, _, _] = [_, outB _ _ _ (mkB _), outB _ _ _ ⟨1, 1, cells ms⟩]
        rw [outB_mkB, outB_ints]; rfl
      repeat' (first
      | simp only [renB_mkB]
      | refine N.regS fun K hK => ?_
      | refine N.dregS fun K hK => ?_
      | refine N.regN fun K hK => ?_
      | refine N.dregN fun K hK => ?_
      | simp only [T.mv, sm, AO.ev, put, lk, enter, reduceIte, Nat.reduceEqDiff, Nat.reduceAdd, Nat.reduceMul, Nat.reduceSub, Int.reduceNeg, Int.reduceToNat, upto, renB, setAll]
      | (refine T.nil ?_; (first | refine hK _ _ _ (by rfl) ?_ | refine hK _ _ _ ?_); (try simp only [keep, List.map, lk, reduceIte, Nat.reduceEqDiff, enter]); clear hK K)
      | (show WOpsT _ (⟨_, .call _ _, none⟩ :: _) _ _ _ _; first | refine T.cP [0, 1] e183 (ha) ?_)
      | (show WOpsT _ (⟨_, .ld _ _, none⟩ :: _) _ _ _ _; first | refine L.ld ?_ | refine L.ldd ?_)
      | (show WOpsT _ (⟨_, .idx _ _ _ _, none⟩ :: _) _ _ _ _; first | refine L.idx ?_ | refine L.idxs ?_)
      | (show WOpsT _ (⟨_, .bin _ _ _, none⟩ :: _) _ _ _ _; first | refine L.add ?_ | refine L.bin ?_)
      | (show AKW _ _ _ _ _ _ _; first | refine N.now ?_)
      | (show AK _ _ (.cond _ _ _) _ _ _ _; first | refine N.c1 ?_ | refine N.c2 ?_ | refine N.c3 ?_ | refine N.c4 ?_ | refine N.condD rfl (fun hcd => ?_) (fun hcd => ?_) | refine N.condB rfl (fun hcd => ?_) (fun hcd => ?_) | refine N.condU rfl ?_ ?_)
      | (show AK _ _ _ _ _ _ _; first | refine N.seq ?_ | refine N.block ?_ | refine N.skip ?_ | refine N.exit ?_ | refine N.ret ?_)
      | (show RK _ _ _ _ _ _ _; simp only [rk, rk0, reduceIte, Nat.reduceEqDiff])
      | (show WOpsT _ _ _ _ _ _; first | refine L.len ?_ | refine L.lenS ?_ | refine L.lenN ?_ | refine L.bsl ?_)
      | refine hQ _ _ _ rfl ?_
      | refine hQN _ _ _ rfl ?_)
      exact hC _ _ (i + 1) (by omega) (by omega) (Weaks.sel (by repeat (first | exact trivial | refine ⟨.rfl, ?_⟩ | refine ⟨.any, ?_⟩)) (by show [_, _, _] = [renB [0, 1] (mkA 1 (g (i + 1))), renB [0, 1] (mkB (g (i + 1))), _]; rw [renB_mkB]; rfl))
    · have hm0 : m ≠ 0 := by unfold Adr at hmi; omega
      have hn := hn
      rw [if_neg hm0] at hn
      have ha := add_ok (g i) (by omega) s m (leadM m ++ [rdM 2 5 [oneM d 5], wrM 2 5 []])
      rw [← hn] at ha
      have hr := lead_ok m hmi
      have hlm := leadM_len m
      repeat' (first
      | rw [e3]
      | (show WOpsT _ (⟨_, .ld _ _, none⟩ :: _) _ _ _ _; refine T.ld rfl rfl rfl hgt rfl ?_)
      | rw [rows_ren]
      | (show WOpsT _ (⟨_, .app _ _ _ _, none⟩ :: _) _ _ _ _; refine T.app rfl rfl rfl ⟨by decide, by decide⟩ ⟨rfl, rfl, by rw [List.length_map, Nat.zero_add], by simp; omega⟩ ?_)
      | (show AK _ _ (.reg (⟨some 27, _, _⟩ :: _) _) _ _ _ _; refine N.cutN 12 fun K hK => ?_)
      | (show AKW _ _ (.reg (⟨some 27, _, _⟩ :: _) _) _ _ _ _; refine N.now ?_)
      | (show AKW _ _ (.seq _ _) _ _ _ _; refine N.now ?_)
      | (show AKW _ _ (.block _ _) _ _ _ _; refine N.now ?_)
      | (show AKW _ _ (.cond _ _ _) _ _ _ _; refine N.now ?_)
      | refine N.regS fun K hK => ?_
      | refine N.dregS fun K hK => ?_
      | refine N.regN fun K hK => ?_
      | refine N.dregN fun K hK => ?_
      | simp only [T.mv, sm, AO.ev, put, lk, enter, reduceIte, Nat.reduceEqDiff, Nat.reduceAdd, Nat.reduceMul, Nat.reduceSub, Int.reduceNeg, Int.reduceToNat, upto, renB, setAll]
      | (refine T.nil ?_; (first | refine hK _ _ _ (by rfl) ?_ | refine hK _ _ _ ?_); (try simp only [keep, List.map, lk, reduceIte, Nat.reduceEqDiff, enter]); clear hK K)
      | (show WOpsT _ (⟨_, .call _ _, none⟩ :: _) _ _ _ _; first | refine T.callN e194 rfl (hr) (by simp) ?_ | refine T.call0 e186 rfl ((one_ok d 5)) ?_ | refine T.cP [4] e148 ((rdP_ok 2 5 [oneM d 5] 1)) ?_ | refine T.call0 e187 rfl ((wrN_ok 2 5)) ?_)
      | (show WOpsT _ (⟨_, .ld _ _, none⟩ :: _) _ _ _ _; first | refine L.ld ?_ | refine L.ldd ?_)
      | (show WOpsT _ (⟨_, .idx _ _ _ _, none⟩ :: _) _ _ _ _; first | refine L.idx ?_ | refine L.idxs ?_)
      | (show WOpsT _ (⟨_, .bin _ _ _, none⟩ :: _) _ _ _ _; first | refine L.add ?_ | refine L.bin ?_)
      | (show AK _ _ (.cond _ _ _) _ _ _ _; first | refine N.c1 ?_ | refine N.c2 ?_ | refine N.c3 ?_ | refine N.c4 ?_ | refine N.condD rfl (fun hcd => ?_) (fun hcd => ?_) | refine N.condB rfl (fun hcd => ?_) (fun hcd => ?_) | refine N.condU rfl ?_ ?_)
      | (show AK _ _ _ _ _ _ _; first | refine N.seq ?_ | refine N.block ?_ | refine N.skip ?_ | refine N.exit ?_ | refine N.ret ?_)
      | (show RK _ _ _ _ _ _ _; simp only [rk, rk0, reduceIte, Nat.reduceEqDiff])
      | (show WOpsT _ _ _ _ _ _; first | refine L.len ?_ | refine L.lenS ?_ | refine L.lenN ?_ | refine L.bsl ?_)
      | refine hQ _ _ _ rfl ?_
      | refine hQN _ _ _ rfl ?_)
      refine N.weak (fr1 := [(0, .ptr 0 1 0 0), (1, .c (.string s)), (2, I d), (10, .psl 2 1 0 ms.length), (11, I ms.length), (12, I i), (27, .ptr 0 1 0 0), (28, .c (.string s)), (29, I m), (38, .sl 4 ((leadM m ++ [rdM 2 5 [oneM d 5], wrM 2 5 []]).map cyC))]) (h1 := [mkA 1 (g i), mkB (g i), ⟨1, 1, cells ms⟩]) (Weaks.gc [0, 1, 2] 2 rfl ⟨.rfl, .rfl, .rfl, .rfl, .rfl, .rfl, .rfl, .rfl, .rfl, ?_, trivial⟩ ?_) (N.now ?_)
      · exact Sub.of_eq (out_cycY (x := rdM 2 5 [oneM d 5]) (ds := [wrM 2 5 []]) rfl rfl rfl rfl (Nat.le_refl _) (Nat.le_refl _))
      · show [_, _, _] = [_, outB _ _ _ (mkB _), outB _ _ _ ⟨1, 1, cells ms⟩]
        rw [outB_mkB, outB_ints]; rfl
      repeat' (first
      | simp only [renB_mkB]
      | refine N.regS fun K hK => ?_
      | refine N.dregS fun K hK => ?_
      | refine N.regN fun K hK => ?_
      | refine N.dregN fun K hK => ?_
      | simp only [T.mv, sm, AO.ev, put, lk, enter, reduceIte, Nat.reduceEqDiff, Nat.reduceAdd, Nat.reduceMul, Nat.reduceSub, Int.reduceNeg, Int.reduceToNat, upto, renB, setAll]
      | (refine T.nil ?_; (first | refine hK _ _ _ (by rfl) ?_ | refine hK _ _ _ ?_); (try simp only [keep, List.map, lk, reduceIte, Nat.reduceEqDiff, enter]); clear hK K)
      | (show WOpsT _ (⟨_, .call _ _, none⟩ :: _) _ _ _ _; first | refine T.cP [0, 1] e183 (ha) ?_)
      | (show WOpsT _ (⟨_, .ld _ _, none⟩ :: _) _ _ _ _; first | refine L.ld ?_ | refine L.ldd ?_)
      | (show WOpsT _ (⟨_, .idx _ _ _ _, none⟩ :: _) _ _ _ _; first | refine L.idx ?_ | refine L.idxs ?_)
      | (show WOpsT _ (⟨_, .bin _ _ _, none⟩ :: _) _ _ _ _; first | refine L.add ?_ | refine L.bin ?_)
      | (show AKW _ _ _ _ _ _ _; first | refine N.now ?_)
      | (show AK _ _ (.cond _ _ _) _ _ _ _; first | refine N.c1 ?_ | refine N.c2 ?_ | refine N.c3 ?_ | refine N.c4 ?_ | refine N.condD rfl (fun hcd => ?_) (fun hcd => ?_) | refine N.condB rfl (fun hcd => ?_) (fun hcd => ?_) | refine N.condU rfl ?_ ?_)
      | (show AK _ _ _ _ _ _ _; first | refine N.seq ?_ | refine N.block ?_ | refine N.skip ?_ | refine N.exit ?_ | refine N.ret ?_)
      | (show RK _ _ _ _ _ _ _; simp only [rk, rk0, reduceIte, Nat.reduceEqDiff])
      | (show WOpsT _ _ _ _ _ _; first | refine L.len ?_ | refine L.lenS ?_ | refine L.lenN ?_ | refine L.bsl ?_)
      | refine hQ _ _ _ rfl ?_
      | refine hQN _ _ _ rfl ?_)
      exact hC _ _ (i + 1) (by omega) (by omega) (Weaks.sel (by repeat (first | exact trivial | refine ⟨.rfl, ?_⟩ | refine ⟨.any, ?_⟩)) (by show [_, _, _] = [renB [0, 1] (mkA 1 (g (i + 1))), renB [0, 1] (mkB (g (i + 1))), _]; rw [renB_mkB]; rfl))
  · obtain rfl : i = ms.length := by omega
    repeat' (first
    | refine N.regS fun K hK => ?_
    | refine N.dregS fun K hK => ?_
    | refine N.regN fun K hK => ?_
    | refine N.dregN fun K hK => ?_
    | simp only [T.mv, sm, AO.ev, put, lk, enter, reduceIte, Nat.reduceEqDiff, Nat.reduceAdd, Nat.reduceMul, Nat.reduceSub, Int.reduceNeg, Int.reduceToNat, upto, renB, setAll]
    | (refine T.nil ?_; (first | refine hK _ _ _ (by rfl) ?_ | refine hK _ _ _ ?_); (try simp only [keep, List.map, lk, reduceIte, Nat.reduceEqDiff, enter]); clear hK K)
    | (show WOpsT _ (⟨_, .ld _ _, none⟩ :: _) _ _ _ _; first | refine L.ld ?_ | refine L.ldd ?_)
    | (show WOpsT _ (⟨_, .idx _ _ _ _, none⟩ :: _) _ _ _ _; first | refine L.idx ?_ | refine L.idxs ?_)
    | (show WOpsT _ (⟨_, .bin _ _ _, none⟩ :: _) _ _ _ _; first | refine L.add ?_ | refine L.bin ?_)
    | (show AKW _ _ _ _ _ _ _; first | refine N.now ?_)
    | (show AK _ _ (.cond _ _ _) _ _ _ _; first | refine N.c1 ?_ | refine N.c2 ?_ | refine N.c3 ?_ | refine N.c4 ?_ | refine N.condD rfl (fun hcd => ?_) (fun hcd => ?_) | refine N.condB rfl (fun hcd => ?_) (fun hcd => ?_) | refine N.condU rfl ?_ ?_)
    | (show AK _ _ _ _ _ _ _; first | refine N.seq ?_ | refine N.block ?_ | refine N.skip ?_ | refine N.exit ?_ | refine N.ret ?_)
    | (show RK _ _ _ _ _ _ _; simp only [rk, rk0, reduceIte, Nat.reduceEqDiff])
    | (show WOpsT _ _ _ _ _ _; first | refine L.len ?_ | refine L.lenS ?_ | refine L.lenN ?_ | refine L.bsl ?_)
    | refine hQ _ _ _ rfl ?_
    | refine hQN _ _ _ rfl ?_)
    exact WS.gc [0, 1, 2] 0 rfl (by show [_, _, _] = [_, outB _ _ _ (mkB _), outB _ _ _ ⟨1, 1, cells ms⟩]; rw [outB_mkB, outB_ints]; rfl) .rfl
end Go.Proofs.Ytjmmompbmjhkpaa.Calc

namespace Go.Proofs.Ytjmmompbmjhkpaa.Calc
open Go Code
set_option linter.unusedSimpArgs false
set_option linter.unusedVariables false
set_option maxRecDepth 20000
set_option maxHeartbeats 4000000
attribute [local irreducible] WOpsT AW AK RK AKW UK UC
def mkH (ms : List Int) (g : Nat → List Ins) : Nat → List Blk
  | 0 => [⟨1, 1, [[.c (.slice none 0 0)]]⟩, ⟨1, 1, cells ms⟩]
  | i + 1 => [mkA 2 (g (i + 1)), ⟨1, 1, cells ms⟩, mkB (g (i + 1))]
theorem loads0_ok (s : ByteArray) (r : Int) (ms : List Int) (h0 : 0 < ms.length) (hb : ms.length ≤ 250) (hms : ∀ m ∈ ms, m = 1 ∨ Adr m) :
    FnE Try.prog 179 [.ptr 0 1 0 0, .c (.string s), I r, .psl 1 1 0 ms.length] [⟨1, 1, [[.c (.slice none 0 0)]]⟩, ⟨1, 1, cells ms⟩] (.tup [])
      [mkA 2 (number 0 (loadsM s r ms)), ⟨1, 1, cells ms⟩, mkB (number 0 (loadsM s r ms))] := by
  obtain ⟨F, hF⟩ : ∃ F : Int → Row, F = fun m => (s, m, readsM m [twoM 1 r 5, oneM 3 r]) := ⟨_, rfl⟩
  have hfin : number 0 (loadsM s r ms) = grow [] F ms ms.length := by rw [grow_all, hF]; rfl
  rw [hfin]
  obtain ⟨g, hg⟩ : ∃ g, grow [] F ms = g := ⟨_, rfl⟩
  have hg0 : g 0 = [] := by rw [← hg, grow_zero]
  have hgl : ∀ i, i ≤ ms.length → (g i).length = i := fun i hi => by rw [← hg, grow_len [] F ms i hi]; exact Nat.zero_add _
  have hgs : ∀ (i : Nat) (hi : i < ms.length), g (i + 1) = g i ++ [insN (g i) s ms[i] (readsM ms[i] [twoM 1 r 5, oneM 3 r])] := fun i hi => by rw [← hg, grow_succ [] F ms i hi, hF]
  rw [hg]
  clear hfin hg hF
  refine N.fn Try.func179 k179 lb q179 fun Q hQ hQN => ?_
  rw [c179]
  repeat' (first
  | refine N.regS fun K hK => ?_
  | refine N.dregS fun K hK => ?_
  | refine N.regN fun K hK => ?_
  | refine N.dregN fun K hK => ?_
  | simp only [T.mv, sm, AO.ev, put, lk, enter, reduceIte, Nat.reduceEqDiff, Nat.reduceAdd, Nat.reduceMul, Nat.reduceSub, Int.reduceNeg, Int.reduceToNat, upto, renB, setAll]
  | (refine T.nil ?_; (first | refine hK _ _ _ (by rfl) ?_ | refine hK _ _ _ ?_); (try simp only [keep, List.map, lk, reduceIte, Nat.reduceEqDiff, enter]); clear hK K)
  | (show WOpsT _ (⟨_, .ld _ _, none⟩ :: _) _ _ _ _; first | refine L.ld ?_ | refine L.ldd ?_)
  | (show WOpsT _ (⟨_, .idx _ _ _ _, none⟩ :: _) _ _ _ _; first | refine L.idx ?_ | refine L.idxs ?_)
  | (show WOpsT _ (⟨_, .bin _ _ _, none⟩ :: _) _ _ _ _; first | refine L.add ?_ | refine L.bin ?_)
  | (show AKW _ _ _ _ _ _ _; first | refine N.now ?_)
  | (show AK _ _ (.cond _ _ _) _ _ _ _; first | refine N.c1 ?_ | refine N.c2 ?_ | refine N.c3 ?_ | refine N.c4 ?_ | refine N.condD rfl (fun hcd => ?_) (fun hcd => ?_) | refine N.condB rfl (fun hcd => ?_) (fun hcd => ?_) | refine N.condU rfl ?_ ?_)
  | (show AK _ _ _ _ _ _ _; first | refine N.seq ?_ | refine N.block ?_ | refine N.skip ?_ | refine N.exit ?_ | refine N.ret ?_)
  | (show RK _ _ _ _ _ _ _; simp only [rk, rk0, reduceIte, Nat.reduceEqDiff])
  | (show WOpsT _ _ _ _ _ _; first | refine L.len ?_ | refine L.lenS ?_ | refine L.lenN ?_ | refine L.bsl ?_)
  | refine hQ _ _ _ rfl ?_
  | refine hQN _ _ _ rfl ?_)
  refine N.loop (σ := Nat) (fun i => [(0, .ptr 0 1 0 0), (1, .c (.string s)), (2, I r), (10, .psl 1 1 0 ms.length), (11, I ms.length), (12, I i)]) (mkH ms g) (fun i => i ≤ ms.length) (fun i => ms.length - i) 0 (by omega) (Weaks.sel (by repeat (first | exact trivial | refine ⟨.rfl, ?_⟩ | refine ⟨.any, ?_⟩)) rfl) fun i hi R hC => ?_
  by_cases hil : i < ms.length
  · have e3 : 0 + (i : Int).toNat = i := by omega
    have hgt := cget ms i hil
    have hmi := hms _ (List.getElem_mem hil)
    have hn := hgs i hil
    have hlen := hgl i hi
    obtain ⟨m, hm⟩ : ∃ m, ms[i] = m := ⟨_, rfl⟩
    rw [hm] at hgt hmi hn
    have hr := reads_ok m hmi [twoM 1 r 5, oneM 3 r] 2
    rcases i with _ | i
    · rw [hg0] at hn
      have ha := add0_ok s m (readsM m [twoM 1 r 5, oneM 3 r])
      repeat' (first
      | rw [e3]
      | (show WOpsT _ (⟨_, .ld _ _, none⟩ :: _) _ _ _ _; refine T.ld rfl rfl rfl hgt rfl ?_)
      | rw [rows_renA]
      | (show AK _ _ (.reg (⟨some 16, _, _⟩ :: _) _) _ _ _ _; refine N.cutN 10 fun K hK => ?_)
      | (show AKW _ _ (.seq _ _) _ _ _ _; refine N.now ?_)
      | (show AKW _ _ (.block _ _) _ _ _ _; refine N.now ?_)
      | (show AKW _ _ (.cond _ _ _) _ _ _ _; refine N.now ?_)
      | (show AKW _ _ (.reg (⟨some 16, _, _⟩ :: _) _) _ _ _ _; refine N.now ?_)
      | refine N.regS fun K hK => ?_
      | refine N.dregS fun K hK => ?_
      | refine N.regN fun K hK => ?_
      | refine N.dregN fun K hK => ?_
      | simp only [T.mv, sm, AO.ev, put, lk, enter, reduceIte, Nat.reduceEqDiff, Nat.reduceAdd, Nat.reduceMul, Nat.reduceSub, Int.reduceNeg, Int.reduceToNat, upto, renB, setAll]
      | (refine T.nil ?_; (first | refine hK _ _ _ (by rfl) ?_ | refine hK _ _ _ ?_); (try simp only [keep, List.map, lk, reduceIte, Nat.reduceEqDiff, enter]); clear hK K)
      | (show WOpsT _ (⟨_, .call _ _, none⟩ :: _) _ _ _ _; first | refine T.call0 e185 rfl ((two_ok 1 r 5)) ?_ | refine T.call0 e186 rfl ((one_ok 3 r)) ?_ | refine T.cP [2] e193 (hr) ?_)
      | (show WOpsT _ (⟨_, .ld _ _, none⟩ :: _) _ _ _ _; first | refine L.ld ?_ | refine L.ldd ?_)
      | (show WOpsT _ (⟨_, .idx _ _ _ _, none⟩ :: _) _ _ _ _; first | refine L.idx ?_ | refine L.idxs ?_)
      | (show WOpsT _ (⟨_, .bin _ _ _, none⟩ :: _) _ _ _ _; first | refine L.add ?_ | refine L.bin ?_)
      | (show AK _ _ (.cond _ _ _) _ _ _ _; first | refine N.c1 ?_ | refine N.c2 ?_ | refine N.c3 ?_ | refine N.c4 ?_ | refine N.condD rfl (fun hcd => ?_) (fun hcd => ?_) | refine N.condB rfl (fun hcd => ?_) (fun hcd => ?_) | refine N.condU rfl ?_ ?_)
      | (show AK _ _ _ _ _ _ _; first | refine N.seq ?_ | refine N.block ?_ | refine N.skip ?_ | refine N.exit ?_ | refine N.ret ?_)
      | (show RK _ _ _ _ _ _ _; simp only [rk, rk0, reduceIte, Nat.reduceEqDiff])
      | (show WOpsT _ _ _ _ _ _; first | refine L.len ?_ | refine L.lenS ?_ | refine L.lenN ?_ | refine L.bsl ?_)
      | refine hQ _ _ _ rfl ?_
      | refine hQN _ _ _ rfl ?_)
      refine N.weak (fr1 := [(0, .ptr 0 1 0 0), (1, .c (.string s)), (2, I r), (10, .psl 1 1 0 ms.length), (11, I ms.length), (12, I ((0 : Nat) : Int)), (16, .ptr 0 1 0 0), (17, .c (.string s)), (18, I m), (25, .sl 4 ((readsM m [twoM 1 r 5, oneM 3 r]).map cyC))]) (h1 := [⟨1, 1, [[.c (.slice none 0 0)]]⟩, ⟨1, 1, cells ms⟩]) (Weaks.gc [0, 1] 2 rfl ⟨.rfl, .rfl, .rfl, .rfl, .rfl, .rfl, .rfl, .rfl, .rfl, ?_, trivial⟩ ?_) (N.now ?_)
      · exact Sub.of_eq (out_cyc (x := rdM (if m = 1 then 0 else 2) 5 [twoM 1 r 5, oneM 3 r]) rfl rfl rfl rfl (Nat.le_refl _) (Nat.le_refl _))
      · show [_, _] = [_, outB _ _ _ ⟨1, 1, cells ms⟩]; rw [outB_ints]; rfl
      repeat' (first
      | simp only [renB_mkB]
      | refine N.regS fun K hK => ?_
      | refine N.dregS fun K hK => ?_
      | refine N.regN fun K hK => ?_
      | refine N.dregN fun K hK => ?_
      | simp only [T.mv, sm, AO.ev, put, lk, enter, reduceIte, Nat.reduceEqDiff, Nat.reduceAdd, Nat.reduceMul, Nat.reduceSub, Int.reduceNeg, Int.reduceToNat, upto, renB, setAll]
      | (refine T.nil ?_; (first | refine hK _ _ _ (by rfl) ?_ | refine hK _ _ _ ?_); (try simp only [keep, List.map, lk, reduceIte, Nat.reduceEqDiff, enter]); clear hK K)
      | (show WOpsT _ (⟨_, .call _ _, none⟩ :: _) _ _ _ _; first | refine T.cP [0] e183 (ha) ?_)
      | (show WOpsT _ (⟨_, .ld _ _, none⟩ :: _) _ _ _ _; first | refine L.ld ?_ | refine L.ldd ?_)
      | (show WOpsT _ (⟨_, .idx _ _ _ _, none⟩ :: _) _ _ _ _; first | refine L.idx ?_ | refine L.idxs ?_)
      | (show WOpsT _ (⟨_, .bin _ _ _, none⟩ :: _) _ _ _ _; first | refine L.add ?_ | refine L.bin ?_)
      | (show AKW _ _ _ _ _ _ _; first | refine N.now ?_)
      | (show AK _ _ (.cond _ _ _) _ _ _ _; first | refine N.c1 ?_ | refine N.c2 ?_ | refine N.c3 ?_ | refine N.c4 ?_ | refine N.condD rfl (fun hcd => ?_) (fun hcd => ?_) | refine N.condB rfl (fun hcd => ?_) (fun hcd => ?_) | refine N.condU rfl ?_ ?_)
      | (show AK _ _ _ _ _ _ _; first | refine N.seq ?_ | refine N.block ?_ | refine N.skip ?_ | refine N.exit ?_ | refine N.ret ?_)
      | (show RK _ _ _ _ _ _ _; simp only [rk, rk0, reduceIte, Nat.reduceEqDiff])
      | (show WOpsT _ _ _ _ _ _; first | refine L.len ?_ | refine L.lenS ?_ | refine L.lenN ?_ | refine L.bsl ?_)
      | refine hQ _ _ _ rfl ?_
      | refine hQN _ _ _ rfl ?_)
      exact hC _ _ (0 + 1) (by omega) (by omega) (Weaks.sel (by repeat (first | exact trivial | refine ⟨.rfl, ?_⟩ | refine ⟨.any, ?_⟩)) (by show [mkA 2 (g (0 + 1)), _, mkB (g (0 + 1))] = [renB [0, 2] (mkA 1 [_]), _, renB [0, 2] (mkB [_])]; rw [renB_mkB, hn]; rfl))
    · have ha := add_ok (g (i + 1)) (by omega) s m (readsM m [twoM 1 r 5, oneM 3 r])
      rw [← hn] at ha
      repeat' (first
      | rw [e3]
      | (show WOpsT _ (⟨_, .ld _ _, none⟩ :: _) _ _ _ _; refine T.ld rfl rfl rfl hgt rfl ?_)
      | rw [rows_renA]
      | (show AK _ _ (.reg (⟨some 16, _, _⟩ :: _) _) _ _ _ _; refine N.cutN 10 fun K hK => ?_)
      | (show AKW _ _ (.seq _ _) _ _ _ _; refine N.now ?_)
      | (show AKW _ _ (.block _ _) _ _ _ _; refine N.now ?_)
      | (show AKW _ _ (.cond _ _ _) _ _ _ _; refine N.now ?_)
      | (show AKW _ _ (.reg (⟨some 16, _, _⟩ :: _) _) _ _ _ _; refine N.now ?_)
      | refine N.regS fun K hK => ?_
      | refine N.dregS fun K hK => ?_
      | refine N.regN fun K hK => ?_
      | refine N.dregN fun K hK => ?_
      | simp only [T.mv, sm, AO.ev, put, lk, enter, reduceIte, Nat.reduceEqDiff, Nat.reduceAdd, Nat.reduceMul, Nat.reduceSub, Int.reduceNeg, Int.reduceToNat, upto, renB, setAll]
      | (refine T.nil ?_; (first | refine hK _ _ _ (by rfl) ?_ | refine hK _ _ _ ?_); (try simp only [keep, List.map, lk, reduceIte, Nat.reduceEqDiff, enter]); clear hK K)
      | (show WOpsT _ (⟨_, .call _ _, none⟩ :: _) _ _ _ _; first | refine T.call0 e185 rfl ((two_ok 1 r 5)) ?_ | refine T.call0 e186 rfl ((one_ok 3 r)) ?_ | refine T.cP [3] e193 (hr) ?_)
      | (show WOpsT _ (⟨_, .ld _ _, none⟩ :: _) _ _ _ _; first | refine L.ld ?_ | refine L.ldd ?_)
      | (show WOpsT _ (⟨_, .idx _ _ _ _, none⟩ :: _) _ _ _ _; first | refine L.idx ?_ | refine L.idxs ?_)
      | (show WOpsT _ (⟨_, .bin _ _ _, none⟩ :: _) _ _ _ _; first | refine L.add ?_ | refine L.bin ?_)
      | (show AK _ _ (.cond _ _ _) _ _ _ _; first | refine N.c1 ?_ | refine N.c2 ?_ | refine N.c3 ?_ | refine N.c4 ?_ | refine N.condD rfl (fun hcd => ?_) (fun hcd => ?_) | refine N.condB rfl (fun hcd => ?_) (fun hcd => ?_) | refine N.condU rfl ?_ ?_)
      | (show AK _ _ _ _ _ _ _; first | refine N.seq ?_ | refine N.block ?_ | refine N.skip ?_ | refine N.exit ?_ | refine N.ret ?_)
      | (show RK _ _ _ _ _ _ _; simp only [rk, rk0, reduceIte, Nat.reduceEqDiff])
      | (show WOpsT _ _ _ _ _ _; first | refine L.len ?_ | refine L.lenS ?_ | refine L.lenN ?_ | refine L.bsl ?_)
      | refine hQ _ _ _ rfl ?_
      | refine hQN _ _ _ rfl ?_)
      refine N.weak (fr1 := [(0, .ptr 0 1 0 0), (1, .c (.string s)), (2, I r), (10, .psl 1 1 0 ms.length), (11, I ms.length), (12, I ((i + 1 : Nat) : Int)), (16, .ptr 0 1 0 0), (17, .c (.string s)), (18, I m), (25, .sl 4 ((readsM m [twoM 1 r 5, oneM 3 r]).map cyC))]) (h1 := [mkA 2 (g (i + 1)), ⟨1, 1, cells ms⟩, mkB (g (i + 1))]) (Weaks.gc [0, 1, 2] 2 rfl ⟨.rfl, .rfl, .rfl, .rfl, .rfl, .rfl, .rfl, .rfl, .rfl, ?_, trivial⟩ ?_) (N.now ?_)
      · exact Sub.of_eq (out_cyc (x := rdM (if m = 1 then 0 else 2) 5 [twoM 1 r 5, oneM 3 r]) rfl rfl rfl rfl (Nat.le_refl _) (Nat.le_refl _))
      · show [_, _, _] = [_, outB _ _ _ ⟨1, 1, cells ms⟩, outB _ _ _ (mkB _)]; rw [outB_mkB, outB_ints]; rfl
      repeat' (first
      | simp only [renB_mkB]
      | refine N.regS fun K hK => ?_
      | refine N.dregS fun K hK => ?_
      | refine N.regN fun K hK => ?_
      | refine N.dregN fun K hK => ?_
      | simp only [T.mv, sm, AO.ev, put, lk, enter, reduceIte, Nat.reduceEqDiff, Nat.reduceAdd, Nat.reduceMul, Nat.reduceSub, Int.reduceNeg, Int.reduceToNat, upto, renB, setAll]
      | (refine T.nil ?_; (first | refine hK _ _ _ (by rfl) ?_ | refine hK _ _ _ ?_); (try simp only [keep, List.map, lk, reduceIte, Nat.reduceEqDiff, enter]); clear hK K)
      | (show WOpsT _ (⟨_, .call _ _, none⟩ :: _) _ _ _ _; first | refine T.cP [0, 2] e183 (ha) ?_)
      | (show WOpsT _ (⟨_, .ld _ _, none⟩ :: _) _ _ _ _; first | refine L.ld ?_ | refine L.ldd ?_)
      | (show WOpsT _ (⟨_, .idx _ _ _ _, none⟩ :: _) _ _ _ _; first | refine L.idx ?_ | refine L.idxs ?_)
      | (show WOpsT _ (⟨_, .bin _ _ _, none⟩ :: _) _ _ _ _; first | refine L.add ?_ | refine L.bin ?_)
      | (show AKW _ _ _ _ _ _ _; first | refine N.now ?_)
      | (show AK _ _ (.cond _ _ _) _ _ _ _; first | refine N.c1 ?_ | refine N.c2 ?_ | refine N.c3 ?_ | refine N.c4 ?_ | refine N.condD rfl (fun hcd => ?_) (fun hcd => ?_) | refine N.condB rfl (fun hcd => ?_) (fun hcd => ?_) | refine N.condU rfl ?_ ?_)
      | (show AK _ _ _ _ _ _ _; first | refine N.seq ?_ | refine N.block ?_ | refine N.skip ?_ | refine N.exit ?_ | refine N.ret ?_)
      | (show RK _ _ _ _ _ _ _; simp only [rk, rk0, reduceIte, Nat.reduceEqDiff])
      | (show WOpsT _ _ _ _ _ _; first | refine L.len ?_ | refine L.lenS ?_ | refine L.lenN ?_ | refine L.bsl ?_)
      | refine hQ _ _ _ rfl ?_
      | refine hQN _ _ _ rfl ?_)
      exact hC _ _ (i + 1 + 1) (by omega) (by omega) (Weaks.sel (by repeat (first | exact trivial | refine ⟨.rfl, ?_⟩ | refine ⟨.any, ?_⟩)) (by show [_, _, _] = [renB [0, 2] (mkA 1 (g (i + 1 + 1))), _, renB [0, 2] (mkB (g (i + 1 + 1)))]; rw [renB_mkB]; rfl))
  · obtain rfl : i = ms.length := by omega
    obtain ⟨j, hj⟩ : ∃ j, ms.length = j + 1 := ⟨ms.length - 1, by omega⟩
    rw [show mkH ms g ms.length = [mkA 2 (g ms.length), ⟨1, 1, cells ms⟩, mkB (g ms.length)] by rw [hj]; rfl]
    repeat' (first
    | refine N.regS fun K hK => ?_
    | refine N.dregS fun K hK => ?_
    | refine N.regN fun K hK => ?_
    | refine N.dregN fun K hK => ?_
    | simp only [T.mv, sm, AO.ev, put, lk, enter, reduceIte, Nat.reduceEqDiff, Nat.reduceAdd, Nat.reduceMul, Nat.reduceSub, Int.reduceNeg, Int.reduceToNat, upto, renB, setAll]
    | (refine T.nil ?_; (first | refine hK _ _ _ (by rfl) ?_ | refine hK _ _ _ ?_); (try simp only [keep, List.map, lk, reduceIte, Nat.reduceEqDiff, enter]); clear hK K)
    | (show WOpsT _ (⟨_, .ld _ _, none⟩ :: _) _ _ _ _; first | refine L.ld ?_ | refine L.ldd ?_)
    | (show WOpsT _ (⟨_, .idx _ _ _ _, none⟩ :: _) _ _ _ _; first | refine L.idx ?_ | refine L.idxs ?_)
    | (show WOpsT _ (⟨_, .bin _ _ _, none⟩ :: _) _ _ _ _; first | refine L.add ?_ | refine L.bin ?_)
    | (show AKW _ _ _ _ _ _ _; first | refine N.now ?_)
    | (show AK _ _ (.cond _ _ _) _ _ _ _; first | refine N.c1 ?_ | refine N.c2 ?_ | refine N.c3 ?_ | refine N.c4 ?_ | refine N.condD rfl (fun hcd => ?_) (fun hcd => ?_) | refine N.condB rfl (fun hcd => ?_) (fun hcd => ?_) | refine N.condU rfl ?_ ?_)
    | (show AK _ _ _ _ _ _ _; first | refine N.seq ?_ | refine N.block ?_ | refine N.skip ?_ | refine N.exit ?_ | refine N.ret ?_)
    | (show RK _ _ _ _ _ _ _; simp only [rk, rk0, reduceIte, Nat.reduceEqDiff])
    | (show WOpsT _ _ _ _ _ _; first | refine L.len ?_ | refine L.lenS ?_ | refine L.lenN ?_ | refine L.bsl ?_)
    | refine hQ _ _ _ rfl ?_
    | refine hQN _ _ _ rfl ?_)
    exact WS.gc [0, 1, 2] 0 rfl (by show [_, _, _] = [_, outB _ _ _ ⟨1, 1, cells ms⟩, outB _ _ _ (mkB _)]; rw [outB_mkB, outB_ints]; rfl) .rfl
end Go.Proofs.Ytjmmompbmjhkpaa.Calc

namespace Go.Proofs.Ytjmmompbmjhkpaa.Calc
open Go Code
set_option linter.unusedSimpArgs false
set_option linter.unusedVariables false
set_option maxRecDepth 20000
set_option maxHeartbeats 4000000
attribute [local irreducible] WOpsT AW AK RK AKW UK UC
def mA (k : Nat) : Blk := mkA 1 (number 0 (memR k))
def mB (k : Nat) : Blk := mkB (number 0 (memR k))
theorem renB_mB {ids : List Nat} {k : Nat} : renB ids (mB k) = mB k := renB_flat
theorem outB_mB {h : List Blk} {ids : List Nat} {n k : Nat} : outB h ids n (mB k) = mB k := outB_flat
theorem num_succ {k : Nat} {c : List Row} (hc : stdL[k]? = some c) : number 0 (memR k) ++ number (number 0 (memR k)).length c = number 0 (memR (k + 1)) := by
  rw [memR_succ k c hc, number_app, number_len, Nat.zero_add]
theorem num_len (k : Nat) (hk : k < 50 ∧ 1 ≤ k) : 0 < (number 0 (memR k)).length ∧ (number 0 (memR k)).length ≤ 92 := by
  rw [number_len]; exact memR_len k hk.1 hk.2
theorem loadsK (k : Nat) (hk : k < 50 ∧ 1 ≤ k) (s : ByteArray) (r : Int) (ms : List Int) (hc : stdL[k]? = some (loadsM s r ms)) (hn : ms.length ≤ 7) (hms : ∀ m ∈ ms, m = 1 ∨ Adr m) :
    FnE Try.prog 179 [.ptr 0 1 0 0, .c (.string s), I r, .psl 2 1 0 ms.length] [mA k, mB k, ⟨1, 1, cells ms⟩] (.tup []) [mA (k + 1), mB (k + 1), ⟨1, 1, cells ms⟩] := by
  have hl := num_len k hk
  have h := loads_ok (number 0 (memR k)) s r ms hl.1 (by omega) hms
  rw [num_succ hc] at h; exact h
theorem storesK (k : Nat) (hk : k < 50 ∧ 1 ≤ k) (s : ByteArray) (r : Int) (ms : List Int) (hc : stdL[k]? = some (storesM s r ms)) (hn : ms.length ≤ 7) (hms : ∀ m ∈ ms, Adr m) :
    FnE Try.prog 180 [.ptr 0 1 0 0, .c (.string s), I r, .psl 2 1 0 ms.length] [mA k, mB k, ⟨1, 1, cells ms⟩] (.tup []) [mA (k + 1), mB (k + 1), ⟨1, 1, cells ms⟩] := by
  have hl := num_len k hk
  have h := stores_ok (number 0 (memR k)) s r ms hl.1 (by omega) hms
  rw [num_succ hc] at h; exact h
theorem joinsK (k : Nat) (hk : k < 50 ∧ 1 ≤ k) (s : ByteArray) (d r : Int) (ms : List Int) (hc : stdL[k]? = some (joinsM s d r ms)) (hn : ms.length ≤ 7) (hms : ∀ m ∈ ms, m = 1 ∨ Adr m) :
    FnE Try.prog 181 [.ptr 0 1 0 0, .c (.string s), I d, I r, .psl 2 1 0 ms.length] [mA k, mB k, ⟨1, 1, cells ms⟩] (.tup []) [mA (k + 1), mB (k + 1), ⟨1, 1, cells ms⟩] := by
  have hl := num_len k hk
  have h := joins_ok (number 0 (memR k)) s d r ms hl.1 (by omega) hms
  rw [num_succ hc] at h; exact h
theorem turnsK (k : Nat) (hk : k < 50 ∧ 1 ≤ k) (s : ByteArray) (d : Int) (ms : List Int) (hc : stdL[k]? = some (turnsM s d ms)) (hn : ms.length ≤ 7) (hms : ∀ m ∈ ms, m = 0 ∨ Adr m) :
    FnE Try.prog 182 [.ptr 0 1 0 0, .c (.string s), I d, .psl 2 1 0 ms.length] [mA k, mB k, ⟨1, 1, cells ms⟩] (.tup []) [mA (k + 1), mB (k + 1), ⟨1, 1, cells ms⟩] := by
  have hl := num_len k hk
  have h := turns_ok (number 0 (memR k)) s d ms hl.1 (by omega) hms
  rw [num_succ hc] at h; exact h
theorem addK (k : Nat) (hk : k < 50 ∧ 1 ≤ k) (s : ByteArray) (m : Int) (cy : List Cyc) (hc : stdL[k]? = some [(s, m, cy)]) :
    FnE Try.prog 183 [.ptr 0 1 0 0, .c (.string s), I m, .sl 4 (cy.map cyC)] [mA k, mB k] (.tup []) [mA (k + 1), mB (k + 1)] := by
  have hl := num_len k hk
  have h := add_ok (number 0 (memR k)) ⟨hl.1, by omega⟩ s m cy
  rw [show number 0 (memR k) ++ [insN (number 0 (memR k)) s m cy] = number 0 (memR (k + 1)) from num_succ hc] at h; exact h
def joinL : List (ByteArray × Int) := [(⟨#[97, 100, 99]⟩, 4), (⟨#[115, 98, 99]⟩, 5), (⟨#[97, 110, 100]⟩, 7), (⟨#[111, 114, 97]⟩, 8), (⟨#[101, 111, 114]⟩, 9), (⟨#[99, 109, 112]⟩, 6)]
section
variable {P : Program} {q : Nat} {st : List KF} {Q : Exit → Fr → List Blk → Prop} {fr : Fr} {h : List Blk} {c : AC}
theorem wC (k : Nat) (hA : AK P q c st Q [(0, .ptr 0 1 0 0)] [mA k, mB k]) (hids : gcOk q h.length [0, 1] = true := by rfl) (hs : selO h [0, 1] 0 fr [(0, .ptr 0 1 0 0)] := by exact ⟨.rfl, trivial⟩) (h0 : h.getD 0 default = renB [0, 1, 2] (mA k) := by rfl) (h1 : h.getD 1 default = renB [0, 1, 2] (mB k) := by rfl) : AKW P q c st Q fr h :=
  N.weak (Weaks.gc [0, 1] 0 hids hs (by
    show [_, _] = [outB h [0, 1] 0 (h.getD 0 default), outB h [0, 1] 0 (h.getD 1 default)]
    rw [h0, h1, renB_mB, outB_mB]; rfl)) (N.now hA)
end
theorem memory_ok : FnE Try.prog 145 [.ptr 0 1 0 0] [⟨1, 1, [[.c (.slice none 0 0)]]⟩] (.tup []) [mA 20, mB 20] := by
  refine N.fn Try.func145 k145 lb q145 fun Q hQ hQN => ?_
  rw [c145]
  repeat' (first
  | refine N.regS fun K hK => ?_
  | refine N.dregS fun K hK => ?_
  | refine N.regN fun K hK => ?_
  | refine N.dregN fun K hK => ?_
  | simp only [T.mv, sm, AO.ev, put, lk, enter, reduceIte, Nat.reduceEqDiff, Nat.reduceAdd, Nat.reduceMul, Nat.reduceSub, Int.reduceNeg, Int.reduceToNat, upto, renB, setAll]
  | (refine T.nil ?_; (first | refine hK _ _ _ (by rfl) ?_ | refine hK _ _ _ ?_); (try simp only [keep, List.map, lk, reduceIte, Nat.reduceEqDiff, enter]); clear hK K)
  | (show WOpsT _ (⟨_, .call _ _, none⟩ :: _) _ _ _ _; first | refine T.cP [0, 1] e179 ((loads0_ok ⟨#[108, 100, 97]⟩ 0 [1, 2, 3, 4, 5, 6, 8] (by decide) (by decide) (by unfold Adr; decide))) ?_)
  | (show WOpsT _ (⟨_, .ld _ _, none⟩ :: _) _ _ _ _; first | refine L.ld ?_ | refine L.ldd ?_ | refine L.ldn ?_ | refine L.lddn ?_)
  | (show WOpsT _ (⟨_, .idx _ _ _ _, none⟩ :: _) _ _ _ _; first | refine L.idx ?_ | refine L.idxs ?_)
  | (show WOpsT _ (⟨_, .bin _ _ _, none⟩ :: _) _ _ _ _; first | refine L.add ?_ | refine L.bin ?_)
  | (show AK _ _ (.cond _ _ _) _ _ _ _; first | refine N.c1 ?_ | refine N.c2 ?_ | refine N.c3 ?_ | refine N.c4 ?_ | refine N.condD rfl (fun hcd => ?_) (fun hcd => ?_) | refine N.condB rfl (fun hcd => ?_) (fun hcd => ?_) | refine N.condU rfl ?_ ?_)
  | (show AK _ _ _ _ _ _ _; first | refine N.seq ?_ | refine N.block ?_ | refine N.skip ?_ | refine N.exit ?_ | refine N.ret ?_)
  | (show RK _ _ _ _ _ _ _; simp only [rk, rk0, reduceIte, Nat.reduceEqDiff])
  | (show WOpsT _ _ _ _ _ _; first | refine L.fad ?_ | refine L.fadd ?_ | refine L.st ?_ | refine L.zero ?_ | refine L.build ?_ | refine L.len ?_ | refine L.lenS ?_ | refine L.lenN ?_ | refine L.bsl ?_)
  | refine hQ _ _ _ rfl ?_
  | refine hQN _ _ _ rfl ?_)
  refine N.weak (fr1 := [(0, .ptr 0 1 0 0)]) (h1 := [mA 1, mB 1]) (Weaks.gc [0, 2] 0 rfl ⟨.rfl, trivial⟩ (by show [mA 1, mB 1] = [outB _ [0, 2] 0 (renB [0, 1, 2] (mkA 2 (number 0 (memR 1)))), outB _ _ _ (renB _ (mB 1))]; rw [renB_mB, outB_mB]; rfl)) (N.now ?_)
  repeat' (first
  | (show AKW _ _ (.seq (.reg (⟨some 10, _, _⟩ :: _) _) _) _ _ _ _; refine wC 2 ?_)
  | (show AKW _ _ (.seq (.reg (⟨some 13, _, _⟩ :: _) _) _) _ _ _ _; refine wC 3 ?_)
  | (show AKW _ _ (.seq (.reg (⟨some 16, _, _⟩ :: _) _) _) _ _ _ _; refine wC 4 ?_)
  | (show AKW _ _ (.seq (.reg (⟨some 19, _, _⟩ :: _) _) _) _ _ _ _; refine wC 5 ?_)
  | refine N.regS fun K hK => ?_
  | refine N.dregS fun K hK => ?_
  | refine N.regN fun K hK => ?_
  | refine N.dregN fun K hK => ?_
  | simp only [T.mv, sm, AO.ev, put, lk, enter, reduceIte, Nat.reduceEqDiff, Nat.reduceAdd, Nat.reduceMul, Nat.reduceSub, Int.reduceNeg, Int.reduceToNat, upto, renB, setAll]
  | (refine T.nil ?_; (first | refine hK _ _ _ (by rfl) ?_ | refine hK _ _ _ ?_); (try simp only [keep, List.map, lk, reduceIte, Nat.reduceEqDiff, enter]); clear hK K)
  | (show WOpsT _ (⟨_, .call _ _, none⟩ :: _) _ _ _ _; first | refine T.cP [0, 1, 2] e179 ((loadsK 1 (by decide) ⟨#[108, 100, 120]⟩ 1 [1, 2, 4] rfl (by decide) (by unfold Adr; decide))) ?_ | refine T.cP [0, 1, 2] e179 ((loadsK 2 (by decide) ⟨#[108, 100, 121]⟩ 2 [1, 2, 4] rfl (by decide) (by unfold Adr; decide))) ?_ | refine T.cP [0, 1, 2] e180 ((storesK 3 (by decide) ⟨#[115, 116, 97]⟩ 0 [2, 3, 4, 5, 6, 8] rfl (by decide) (by unfold Adr; decide))) ?_ | refine T.cP [0, 1, 2] e180 ((storesK 4 (by decide) ⟨#[115, 116, 120]⟩ 1 [2, 4] rfl (by decide) (by unfold Adr; decide))) ?_ | refine T.cP [0, 1, 2] e180 ((storesK 5 (by decide) ⟨#[115, 116, 121]⟩ 2 [2, 4] rfl (by decide) (by unfold Adr; decide))) ?_)
  | (show WOpsT _ (⟨_, .ld _ _, none⟩ :: _) _ _ _ _; first | refine L.ld ?_ | refine L.ldd ?_ | refine L.ldn ?_ | refine L.lddn ?_)
  | (show WOpsT _ (⟨_, .idx _ _ _ _, none⟩ :: _) _ _ _ _; first | refine L.idx ?_ | refine L.idxs ?_)
  | (show WOpsT _ (⟨_, .bin _ _ _, none⟩ :: _) _ _ _ _; first | refine L.add ?_ | refine L.bin ?_)
  | (show AK _ _ (.cond _ _ _) _ _ _ _; first | refine N.c1 ?_ | refine N.c2 ?_ | refine N.c3 ?_ | refine N.c4 ?_ | refine N.condD rfl (fun hcd => ?_) (fun hcd => ?_) | refine N.condB rfl (fun hcd => ?_) (fun hcd => ?_) | refine N.condU rfl ?_ ?_)
  | (show AK _ _ _ _ _ _ _; first | refine N.seq ?_ | refine N.block ?_ | refine N.skip ?_ | refine N.exit ?_ | refine N.ret ?_)
  | (show RK _ _ _ _ _ _ _; simp only [rk, rk0, reduceIte, Nat.reduceEqDiff])
  | (show WOpsT _ _ _ _ _ _; first | refine L.fad ?_ | refine L.fadd ?_ | refine L.st ?_ | refine L.zero ?_ | refine L.build ?_ | refine L.len ?_ | refine L.lenS ?_ | refine L.lenN ?_ | refine L.bsl ?_)
  | refine hQ _ _ _ rfl ?_
  | refine hQN _ _ _ rfl ?_)
  refine wC 6 ?_
  repeat' (first
  | refine N.regS fun K hK => ?_
  | refine N.dregS fun K hK => ?_
  | refine N.regN fun K hK => ?_
  | refine N.dregN fun K hK => ?_
  | simp only [T.mv, sm, AO.ev, put, lk, enter, reduceIte, Nat.reduceEqDiff, Nat.reduceAdd, Nat.reduceMul, Nat.reduceSub, Int.reduceNeg, Int.reduceToNat, upto, renB, setAll]
  | (refine T.nil ?_; (first | refine hK _ _ _ (by rfl) ?_ | refine hK _ _ _ ?_); (try simp only [keep, List.map, lk, reduceIte, Nat.reduceEqDiff, enter]); clear hK K)
  | (show WOpsT _ (⟨_, .ld _ _, none⟩ :: _) _ _ _ _; first | refine L.ld ?_ | refine L.ldd ?_ | refine L.ldn ?_ | refine L.lddn ?_)
  | (show WOpsT _ (⟨_, .idx _ _ _ _, none⟩ :: _) _ _ _ _; first | refine L.idx ?_ | refine L.idxs ?_)
  | (show WOpsT _ (⟨_, .bin _ _ _, none⟩ :: _) _ _ _ _; first | refine L.add ?_ | refine L.bin ?_)
  | (show AK _ _ (.cond _ _ _) _ _ _ _; first | refine N.c1 ?_ | refine N.c2 ?_ | refine N.c3 ?_ | refine N.c4 ?_ | refine N.condD rfl (fun hcd => ?_) (fun hcd => ?_) | refine N.condB rfl (fun hcd => ?_) (fun hcd => ?_) | refine N.condU rfl ?_ ?_)
  | (show AK _ _ _ _ _ _ _; first | refine N.seq ?_ | refine N.block ?_ | refine N.skip ?_ | refine N.exit ?_ | refine N.ret ?_)
  | (show RK _ _ _ _ _ _ _; simp only [rk, rk0, reduceIte, Nat.reduceEqDiff])
  | (show WOpsT _ _ _ _ _ _; first | refine L.fad ?_ | refine L.fadd ?_ | refine L.st ?_ | refine L.zero ?_ | refine L.build ?_ | refine L.len ?_ | refine L.lenS ?_ | refine L.lenN ?_ | refine L.bsl ?_)
  | refine hQ _ _ _ rfl ?_
  | refine hQN _ _ _ rfl ?_)
  refine N.weak (fr1 := [(0, .ptr 0 1 0 0), (28, .psl 2 1 0 6), (29, I 6), (30, I 0)]) (h1 := [mA 6, mB 6, ⟨1, 2, joinL.map fun p => [.c (.string p.1), I p.2]⟩]) (Weaks.sel (by repeat (first | exact trivial | refine ⟨.rfl, ?_⟩ | refine ⟨.any, ?_⟩)) rfl) (N.now ?_)
  repeat' (first
  | refine N.regS fun K hK => ?_
  | refine N.dregS fun K hK => ?_
  | refine N.regN fun K hK => ?_
  | refine N.dregN fun K hK => ?_
  | simp only [T.mv, sm, AO.ev, put, lk, enter, reduceIte, Nat.reduceEqDiff, Nat.reduceAdd, Nat.reduceMul, Nat.reduceSub, Int.reduceNeg, Int.reduceToNat, upto, renB, setAll]
  | (refine T.nil ?_; (first | refine hK _ _ _ (by rfl) ?_ | refine hK _ _ _ ?_); (try simp only [keep, List.map, lk, reduceIte, Nat.reduceEqDiff, enter]); clear hK K)
  | (show WOpsT _ (⟨_, .ld _ _, none⟩ :: _) _ _ _ _; first | refine L.ld ?_ | refine L.ldd ?_ | refine L.ldn ?_ | refine L.lddn ?_)
  | (show WOpsT _ (⟨_, .idx _ _ _ _, none⟩ :: _) _ _ _ _; first | refine L.idx ?_ | refine L.idxs ?_)
  | (show WOpsT _ (⟨_, .bin _ _ _, none⟩ :: _) _ _ _ _; first | refine L.add ?_ | refine L.bin ?_)
  | (show AK _ _ (.cond _ _ _) _ _ _ _; first | refine N.c1 ?_ | refine N.c2 ?_ | refine N.c3 ?_ | refine N.c4 ?_ | refine N.condD rfl (fun hcd => ?_) (fun hcd => ?_) | refine N.condB rfl (fun hcd => ?_) (fun hcd => ?_) | refine N.condU rfl ?_ ?_)
  | (show AK _ _ _ _ _ _ _; first | refine N.seq ?_ | refine N.block ?_ | refine N.skip ?_ | refine N.exit ?_ | refine N.ret ?_)
  | (show RK _ _ _ _ _ _ _; simp only [rk, rk0, reduceIte, Nat.reduceEqDiff])
  | (show WOpsT _ _ _ _ _ _; first | refine L.fad ?_ | refine L.fadd ?_ | refine L.st ?_ | refine L.zero ?_ | refine L.build ?_ | refine L.len ?_ | refine L.lenS ?_ | refine L.lenN ?_ | refine L.bsl ?_)
  | refine hQ _ _ _ rfl ?_
  | refine hQN _ _ _ rfl ?_)
  refine N.loop (σ := Nat) (fun i => [(0, .ptr 0 1 0 0), (28, .psl 2 1 0 6), (29, I 6), (30, I i)]) (fun i => [mA (6 + i), mB (6 + i), ⟨1, 2, joinL.map fun p => [.c (.string p.1), I p.2]⟩]) (fun i => i ≤ 6) (fun i => 6 - i) 0 (by omega) (Weaks.sel (by repeat (first | exact trivial | refine ⟨.rfl, ?_⟩ | refine ⟨.any, ?_⟩)) rfl) fun i hi R hC => ?_
  by_cases hil : i < 6
  · have e3 : 0 + (i : Int).toNat = i := by omega
    obtain ⟨p, hp⟩ : ∃ p, joinL[i]? = some p := ⟨joinL[i]'hil, List.getElem?_eq_getElem hil⟩
    have hrow : (joinL.map fun p => [.c (.string p.1), I p.2])[i]? = some [V.c (.string p.1), I p.2] := by rw [List.getElem?_map, hp]; rfl
    have hst : stdL[6 + i]? = some (joinsM p.1 p.2 0 [1, 2, 4, 5]) := by
      have : ∀ j, j < 6 → ∀ q, joinL[j]? = some q → stdL[6 + j]? = some (joinsM q.1 q.2 0 [1, 2, 4, 5]) := by
        intro j hj q hq
        match j, hj with
        | 0, _ => cases hq; rfl
        | 1, _ => cases hq; rfl
        | 2, _ => cases hq; rfl
        | 3, _ => cases hq; rfl
        | 4, _ => cases hq; rfl
        | 5, _ => cases hq; rfl
      exact this i hil p hp
    have hj := joinsK (6 + i) (by omega) p.1 p.2 0 [1, 2, 4, 5] hst (by decide) (by unfold Adr; decide)
    repeat' (first
    | rw [e3]
    | (show WOpsT _ (⟨_, .ld _ _, none⟩ :: _) _ _ _ _; refine T.ldn rfl rfl rfl hrow (Nat.le_of_ble_eq_true rfl) ?_)
    | simp only [renB_mB]
    | refine N.regS fun K hK => ?_
    | refine N.dregS fun K hK => ?_
    | refine N.regN fun K hK => ?_
    | refine N.dregN fun K hK => ?_
    | simp only [T.mv, sm, AO.ev, put, lk, enter, reduceIte, Nat.reduceEqDiff, Nat.reduceAdd, Nat.reduceMul, Nat.reduceSub, Int.reduceNeg, Int.reduceToNat, upto, renB, setAll]
    | (refine T.nil ?_; (first | refine hK _ _ _ (by rfl) ?_ | refine hK _ _ _ ?_); (try simp only [keep, List.map, lk, reduceIte, Nat.reduceEqDiff, enter]); clear hK K)
    | (show WOpsT _ (⟨_, .call _ _, none⟩ :: _) _ _ _ _; first | refine T.cP [0, 1, 4] e181 (hj) ?_)
    | (show WOpsT _ (⟨_, .ld _ _, none⟩ :: _) _ _ _ _; first | refine L.ld ?_ | refine L.ldd ?_ | refine L.ldn ?_ | refine L.lddn ?_)
    | (show WOpsT _ (⟨_, .idx _ _ _ _, none⟩ :: _) _ _ _ _; first | refine L.idx ?_ | refine L.idxs ?_)
    | (show WOpsT _ (⟨_, .bin _ _ _, none⟩ :: _) _ _ _ _; first | refine L.add ?_ | refine L.bin ?_)
    | (show AKW _ _ _ _ _ _ _; first | refine N.now ?_)
    | (show AK _ _ (.cond _ _ _) _ _ _ _; first | refine N.c1 ?_ | refine N.c2 ?_ | refine N.c3 ?_ | refine N.c4 ?_ | refine N.condD rfl (fun hcd => ?_) (fun hcd => ?_) | refine N.condB rfl (fun hcd => ?_) (fun hcd => ?_) | refine N.condU rfl ?_ ?_)
    | (show AK _ _ _ _ _ _ _; first | refine N.seq ?_ | refine N.block ?_ | refine N.skip ?_ | refine N.exit ?_ | refine N.ret ?_)
    | (show RK _ _ _ _ _ _ _; simp only [rk, rk0, reduceIte, Nat.reduceEqDiff])
    | (show WOpsT _ _ _ _ _ _; first | refine L.fad ?_ | refine L.fadd ?_ | refine L.st ?_ | refine L.zero ?_ | refine L.build ?_ | refine L.len ?_ | refine L.lenS ?_ | refine L.lenN ?_ | refine L.bsl ?_)
    | refine hQ _ _ _ rfl ?_
    | refine hQN _ _ _ rfl ?_)
    exact hC _ _ (i + 1) (by omega) (by omega) (Weaks.gc [0, 1, 2] 0 rfl (by repeat (first | exact trivial | refine ⟨.rfl, ?_⟩ | refine ⟨.any, ?_⟩)) (by show [mA (6 + i + 1), mB (6 + i + 1), _] = [outB _ [0, 1, 2] 0 (renB [0, 1, 4] (mA (6 + i + 1))), outB _ _ _ (renB _ (mB (6 + i + 1))), outB _ _ _ ⟨1, 2, joinL.map fun p => [.c (.string p.1), I p.2]⟩]; rw [renB_mB, outB_mB]; rfl))
  · obtain rfl : i = 6 := by omega
    repeat' (first
    | (show AKW _ _ (.seq (.cond _ _ _) _) _ _ _ _; refine N.now ?_)
    | refine N.regS fun K hK => ?_
    | refine N.dregS fun K hK => ?_
    | refine N.regN fun K hK => ?_
    | refine N.dregN fun K hK => ?_
    | simp only [T.mv, sm, AO.ev, put, lk, enter, reduceIte, Nat.reduceEqDiff, Nat.reduceAdd, Nat.reduceMul, Nat.reduceSub, Int.reduceNeg, Int.reduceToNat, upto, renB, setAll]
    | (refine T.nil ?_; (first | refine hK _ _ _ (by rfl) ?_ | refine hK _ _ _ ?_); (try simp only [keep, List.map, lk, reduceIte, Nat.reduceEqDiff, enter]); clear hK K)
    | (show WOpsT _ (⟨_, .ld _ _, none⟩ :: _) _ _ _ _; first | refine L.ld ?_ | refine L.ldd ?_ | refine L.ldn ?_ | refine L.lddn ?_)
    | (show WOpsT _ (⟨_, .idx _ _ _ _, none⟩ :: _) _ _ _ _; first | refine L.idx ?_ | refine L.idxs ?_)
    | (show WOpsT _ (⟨_, .bin _ _ _, none⟩ :: _) _ _ _ _; first | refine L.add ?_ | refine L.bin ?_)
    | (show AK _ _ (.cond _ _ _) _ _ _ _; first | refine N.c1 ?_ | refine N.c2 ?_ | refine N.c3 ?_ | refine N.c4 ?_ | refine N.condD rfl (fun hcd => ?_) (fun hcd => ?_) | refine N.condB rfl (fun hcd => ?_) (fun hcd => ?_) | refine N.condU rfl ?_ ?_)
    | (show AK _ _ _ _ _ _ _; first | refine N.seq ?_ | refine N.block ?_ | refine N.skip ?_ | refine N.exit ?_ | refine N.ret ?_)
    | (show RK _ _ _ _ _ _ _; simp only [rk, rk0, reduceIte, Nat.reduceEqDiff])
    | (show WOpsT _ _ _ _ _ _; first | refine L.fad ?_ | refine L.fadd ?_ | refine L.st ?_ | refine L.zero ?_ | refine L.build ?_ | refine L.len ?_ | refine L.lenS ?_ | refine L.lenN ?_ | refine L.bsl ?_)
    | refine hQ _ _ _ rfl ?_
    | refine hQN _ _ _ rfl ?_)
    refine N.weak (fr1 := [(0, .ptr 0 1 0 0)]) (h1 := [mA 12, mB 12]) (Weaks.gc [0, 1] 0 rfl ⟨.rfl, trivial⟩ (by show [mA 12, mB 12] = [outB _ [0, 1] 0 (mA 12), outB _ _ _ (mB 12)]; rw [outB_mB]; rfl)) (N.now ?_)
    repeat' (first
    | (show AKW _ _ (.seq (.reg (⟨some 45, _, _⟩ :: _) _) _) _ _ _ _; refine wC 13 ?_)
    | (show AKW _ _ (.seq (.reg (⟨some 48, _, _⟩ :: _) _) _) _ _ _ _; refine wC 14 ?_)
    | (show AKW _ _ (.seq (.reg (⟨some 51, _, _⟩ :: _) _) _) _ _ _ _; refine wC 15 ?_)
    | (show AKW _ _ (.seq (.reg (⟨some 54, _, _⟩ :: _) _) _) _ _ _ _; refine wC 16 ?_)
    | (show AKW _ _ (.seq (.reg (⟨some 57, _, _⟩ :: _) _) _) _ _ _ _; refine wC 17 ?_)
    | (show AKW _ _ (.seq (.reg (⟨some 60, _, _⟩ :: _) _) _) _ _ _ _; refine wC 18 ?_)
    | (show AKW _ _ (.reg (⟨some 63, _, _⟩ :: _) _) _ _ _ _; refine wC 19 ?_)
    | refine N.regS fun K hK => ?_
    | refine N.dregS fun K hK => ?_
    | refine N.regN fun K hK => ?_
    | refine N.dregN fun K hK => ?_
    | simp only [T.mv, sm, AO.ev, put, lk, enter, reduceIte, Nat.reduceEqDiff, Nat.reduceAdd, Nat.reduceMul, Nat.reduceSub, Int.reduceNeg, Int.reduceToNat, upto, renB, setAll]
    | (refine T.nil ?_; (first | refine hK _ _ _ (by rfl) ?_ | refine hK _ _ _ ?_); (try simp only [keep, List.map, lk, reduceIte, Nat.reduceEqDiff, enter]); clear hK K)
    | (show WOpsT _ (⟨_, .call _ _, none⟩ :: _) _ _ _ _; first | refine T.cP [0, 1, 2] e181 ((joinsK 12 (by decide) ⟨#[99, 112, 120]⟩ 6 1 [1, 2] rfl (by decide) (by unfold Adr; decide))) ?_ | refine T.cP [0, 1, 2] e181 ((joinsK 13 (by decide) ⟨#[99, 112, 121]⟩ 6 2 [1, 2] rfl (by decide) (by unfold Adr; decide))) ?_ | refine T.cP [0, 1, 2] e182 ((turnsK 14 (by decide) ⟨#[105, 110, 99]⟩ 10 [2, 4] rfl (by decide) (by unfold Adr; decide))) ?_ | refine T.cP [0, 1, 2] e182 ((turnsK 15 (by decide) ⟨#[100, 101, 99]⟩ 11 [2, 4] rfl (by decide) (by unfold Adr; decide))) ?_ | refine T.cP [0, 1, 2] e182 ((turnsK 16 (by decide) ⟨#[97, 115, 108]⟩ 12 [0, 2] rfl (by decide) (by unfold Adr; decide))) ?_ | refine T.cP [0, 1, 2] e182 ((turnsK 17 (by decide) ⟨#[108, 115, 114]⟩ 13 [0, 2] rfl (by decide) (by unfold Adr; decide))) ?_ | refine T.cP [0, 1, 2] e182 ((turnsK 18 (by decide) ⟨#[114, 111, 108]⟩ 14 [0, 2] rfl (by decide) (by unfold Adr; decide))) ?_ | refine T.cP [0, 1, 2] e182 ((turnsK 19 (by decide) ⟨#[114, 111, 114]⟩ 15 [0, 2] rfl (by decide) (by unfold Adr; decide))) ?_)
    | (show WOpsT _ (⟨_, .ld _ _, none⟩ :: _) _ _ _ _; first | refine L.ld ?_ | refine L.ldd ?_ | refine L.ldn ?_ | refine L.lddn ?_)
    | (show WOpsT _ (⟨_, .idx _ _ _ _, none⟩ :: _) _ _ _ _; first | refine L.idx ?_ | refine L.idxs ?_)
    | (show WOpsT _ (⟨_, .bin _ _ _, none⟩ :: _) _ _ _ _; first | refine L.add ?_ | refine L.bin ?_)
    | (show AKW _ _ _ _ _ _ _; first | refine N.now ?_)
    | (show AK _ _ (.cond _ _ _) _ _ _ _; first | refine N.c1 ?_ | refine N.c2 ?_ | refine N.c3 ?_ | refine N.c4 ?_ | refine N.condD rfl (fun hcd => ?_) (fun hcd => ?_) | refine N.condB rfl (fun hcd => ?_) (fun hcd => ?_) | refine N.condU rfl ?_ ?_)
    | (show AK _ _ _ _ _ _ _; first | refine N.seq ?_ | refine N.block ?_ | refine N.skip ?_ | refine N.exit ?_ | refine N.ret ?_)
    | (show RK _ _ _ _ _ _ _; simp only [rk, rk0, reduceIte, Nat.reduceEqDiff])
    | (show WOpsT _ _ _ _ _ _; first | refine L.fad ?_ | refine L.fadd ?_ | refine L.st ?_ | refine L.zero ?_ | refine L.build ?_ | refine L.len ?_ | refine L.lenS ?_ | refine L.lenN ?_ | refine L.bsl ?_)
    | refine hQ _ _ _ rfl ?_
    | refine hQN _ _ _ rfl ?_)
    exact WS.gc [0, 1] 0 rfl (by show [mA 20, mB 20] = [outB _ [0, 1] 0 (renB [0, 1, 2] (mA 20)), outB _ _ _ (renB _ (mB 20))]; rw [renB_mB, outB_mB]; rfl) .rfl
end Go.Proofs.Ytjmmompbmjhkpaa.Calc

