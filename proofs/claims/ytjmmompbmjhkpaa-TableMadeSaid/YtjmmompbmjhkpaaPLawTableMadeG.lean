/- Several texts in one (FnSame, FnLawTable), for the proof of LawTableMade. No condition beyond those in each lemma. -/
import Derived.Test.YtjmmompbmjhkpaaPLawTableMadeF
import Derived.Test.YtjmmompbmjhkpaaPLawTableMadeD
import Derived.Test.YtjmmompbmjhkpaaPLawTableMadeE
namespace Go.Proofs.Ytjmmompbmjhkpaa.Calc
open Go Code
set_option linter.unusedSimpArgs false
set_option linter.unusedVariables false
set_option maxRecDepth 20000
set_option maxHeartbeats 4000000
attribute [local irreducible] WOpsT AW AK RK AKW UK UC
theorem eqSt_ok (l : List Stp) (hl : l.length ≤ 100000) : FnE Try.prog 167 [.sl 4 (l.map stC), .sl 4 (l.map stC)] [] (.c (.bool true)) [] := by
  refine N.fn Try.func167 k167 lb q167 fun Q hQ hQN => ?_
  rw [c167]
  repeat' (first
  | rw [List.length_map]
  | refine N.regS fun K hK => ?_
  | refine N.dregS fun K hK => ?_
  | refine N.regN fun K hK => ?_
  | refine N.dregN fun K hK => ?_
  | simp only [T.mv, sm, AO.ev, put, lk, enter, reduceIte, Nat.reduceEqDiff, Nat.reduceAdd, Nat.reduceMul, Nat.reduceSub, Int.reduceNeg, Int.reduceToNat, upto, renB, setAll]
  | (refine T.nil ?_; (first | refine hK _ _ _ (by rfl) ?_ | refine hK _ _ _ ?_); (try simp only [keep, List.map, lk, reduceIte, Nat.reduceEqDiff, enter]); clear hK K)
  | (show WOpsT _ (⟨_, .ld _ _, none⟩ :: _) _ _ _ _; first | refine L.ldn ?_ | refine L.lddn ?_)
  | (show WOpsT _ (⟨_, .idx _ _ _ _, none⟩ :: _) _ _ _ _; first | refine L.idx ?_ | refine L.idxs ?_)
  | (show WOpsT _ (⟨_, .bin _ _ _, none⟩ :: _) _ _ _ _; first | refine L.add ?_ | refine L.bin ?_)
  | (show AKW _ _ _ _ _ _ _; first | refine N.now ?_)
  | (show AK _ _ (.cond _ _ _) _ _ _ _; first | refine N.c1 ?_ | refine N.c2 ?_ | refine N.c3 ?_ | refine N.c4 ?_ | refine N.condD rfl (fun hcd => ?_) (fun hcd => ?_) | refine N.condB rfl (fun hcd => ?_) (fun hcd => ?_) | refine N.condU rfl ?_ ?_)
  | (show AK _ _ _ _ _ _ _; first | refine N.seq ?_ | refine N.block ?_ | refine N.skip ?_ | refine N.exit ?_ | refine N.ret ?_)
  | (show RK _ _ _ _ _ _ _; simp only [rk, rk0, reduceIte, Nat.reduceEqDiff])
  | (show WOpsT _ _ _ _ _ _; first | refine L.len ?_ | refine L.lenS ?_ | refine L.lenN ?_)
  | refine hQ _ _ _ rfl ?_
  | refine hQN _ _ _ rfl ?_)
  all_goals first
    | (exfalso; omega)
    | skip
  refine N.loop (σ := Nat) (fun i => [(0, .sl 4 (l.map stC)), (1, .sl 4 (l.map stC)), (12, I l.length), (13, I i)]) (fun i => []) (fun i => i ≤ l.length) (fun i => l.length - i) 0 (Nat.zero_le _) (Weaks.gc [] 1 rfl (by repeat (first | exact trivial | refine ⟨.rfl, ?_⟩ | refine ⟨.any, ?_⟩)) (by first | rfl | (symm; unfold outH; simp only [List.map]; (repeat' (first | rfl | exact outB_bytes | exact outB_ints | exact outB_flat | refine consE ?_ ?_)); done))) fun i hi R hC => ?_
  by_cases hil : i < l.length
  · have hm := mget stC l i hil
    generalize l[i] = x at *
    obtain ⟨x1, x2, x3, x4⟩ := x
    dsimp only [stC] at hm
    repeat' (first
    | (show WOpsT _ (⟨_, .idx _ _ _ _, none⟩ :: _) _ _ _ _; refine T.idxs rfl rfl rfl (by omega) hm ?_)
    | (show WOpsT _ (⟨_, .eqs _ _ _ _, none⟩ :: _) _ _ _ _; refine T.eqs (b := true) rfl rfl (by simp [eqLv, eqC]) ?_)
    | refine N.regS fun K hK => ?_
    | refine N.dregS fun K hK => ?_
    | refine N.regN fun K hK => ?_
    | refine N.dregN fun K hK => ?_
    | simp only [T.mv, sm, AO.ev, put, lk, enter, reduceIte, Nat.reduceEqDiff, Nat.reduceAdd, Nat.reduceMul, Nat.reduceSub, Int.reduceNeg, Int.reduceToNat, upto, renB, setAll]
    | (refine T.nil ?_; (first | refine hK _ _ _ (by rfl) ?_ | refine hK _ _ _ ?_); (try simp only [keep, List.map, lk, reduceIte, Nat.reduceEqDiff, enter]); clear hK K)
    | (show WOpsT _ (⟨_, .ld _ _, none⟩ :: _) _ _ _ _; first | refine L.ldn ?_ | refine L.lddn ?_)
    | (show WOpsT _ (⟨_, .idx _ _ _ _, none⟩ :: _) _ _ _ _; first | refine L.idx ?_ | refine L.idxs ?_)
    | (show WOpsT _ (⟨_, .bin _ _ _, none⟩ :: _) _ _ _ _; first | refine L.add ?_ | refine L.bin ?_)
    | (show AKW _ _ _ _ _ _ _; first | refine N.now ?_)
    | (show AK _ _ (.cond _ _ _) _ _ _ _; first | refine N.c1 ?_ | refine N.c2 ?_ | refine N.c3 ?_ | refine N.c4 ?_ | refine N.condD rfl (fun hcd => ?_) (fun hcd => ?_) | refine N.condB rfl (fun hcd => ?_) (fun hcd => ?_) | refine N.condU rfl ?_ ?_)
    | (show AK _ _ _ _ _ _ _; first | refine N.seq ?_ | refine N.block ?_ | refine N.skip ?_ | refine N.exit ?_ | refine N.ret ?_)
    | (show RK _ _ _ _ _ _ _; simp only [rk, rk0, reduceIte, Nat.reduceEqDiff])
    | (show WOpsT _ _ _ _ _ _; first | refine L.len ?_ | refine L.lenS ?_ | refine L.lenN ?_)
    | refine hQ _ _ _ rfl ?_
    | refine hQN _ _ _ rfl ?_)
    all_goals first
      | exact hC _ _ (i + 1) (by omega) (by omega) (Weaks.gc [] 1 rfl (by repeat (first | exact trivial | refine ⟨.rfl, ?_⟩ | refine ⟨.any, ?_⟩)) (by first | rfl | (symm; unfold outH; simp only [List.map]; (repeat' (first | rfl | exact outB_bytes | exact outB_ints | exact outB_flat | refine consE ?_ ?_)); done)))
      | (exfalso; omega)
      | (exfalso; simp at *; done)
  · obtain rfl : i = l.length := by omega
    repeat' (first
    | refine N.regS fun K hK => ?_
    | refine N.dregS fun K hK => ?_
    | refine N.regN fun K hK => ?_
    | refine N.dregN fun K hK => ?_
    | simp only [T.mv, sm, AO.ev, put, lk, enter, reduceIte, Nat.reduceEqDiff, Nat.reduceAdd, Nat.reduceMul, Nat.reduceSub, Int.reduceNeg, Int.reduceToNat, upto, renB, setAll]
    | (refine T.nil ?_; (first | refine hK _ _ _ (by rfl) ?_ | refine hK _ _ _ ?_); (try simp only [keep, List.map, lk, reduceIte, Nat.reduceEqDiff, enter]); clear hK K)
    | (show WOpsT _ (⟨_, .ld _ _, none⟩ :: _) _ _ _ _; first | refine L.ldn ?_ | refine L.lddn ?_)
    | (show WOpsT _ (⟨_, .idx _ _ _ _, none⟩ :: _) _ _ _ _; first | refine L.idx ?_ | refine L.idxs ?_)
    | (show WOpsT _ (⟨_, .bin _ _ _, none⟩ :: _) _ _ _ _; first | refine L.add ?_ | refine L.bin ?_)
    | (show AKW _ _ _ _ _ _ _; first | refine N.now ?_)
    | (show AK _ _ (.cond _ _ _) _ _ _ _; first | refine N.c1 ?_ | refine N.c2 ?_ | refine N.c3 ?_ | refine N.c4 ?_ | refine N.condD rfl (fun hcd => ?_) (fun hcd => ?_) | refine N.condB rfl (fun hcd => ?_) (fun hcd => ?_) | refine N.condU rfl ?_ ?_)
    | (show AK _ _ _ _ _ _ _; first | refine N.seq ?_ | refine N.block ?_ | refine N.skip ?_ | refine N.exit ?_ | refine N.ret ?_)
    | (show RK _ _ _ _ _ _ _; simp only [rk, rk0, reduceIte, Nat.reduceEqDiff])
    | (show WOpsT _ _ _ _ _ _; first | refine L.len ?_ | refine L.lenS ?_ | refine L.lenN ?_)
    | refine hQ _ _ _ rfl ?_
    | refine hQN _ _ _ rfl ?_)
    exact WS.c rfl rfl
theorem eqCy_ok (l : List Cyc) (hl : l.length ≤ 100000) (f : Nat) (he : enters Try.prog f = true) (hf : ∀ x ∈ l, FnE Try.prog f [.agg (cyC x), .agg (cyC x)] [] (.c (.bool true)) []) : FnE Try.prog 165 [.sl 4 (l.map cyC), .sl 4 (l.map cyC), .fn f []] [] (.c (.bool true)) [] := by
  refine N.fn Try.func165 k165 lb q165 fun Q hQ hQN => ?_
  rw [c165]
  repeat' (first
  | rw [List.length_map]
  | refine N.regS fun K hK => ?_
  | refine N.dregS fun K hK => ?_
  | refine N.regN fun K hK => ?_
  | refine N.dregN fun K hK => ?_
  | simp only [T.mv, sm, AO.ev, put, lk, enter, reduceIte, Nat.reduceEqDiff, Nat.reduceAdd, Nat.reduceMul, Nat.reduceSub, Int.reduceNeg, Int.reduceToNat, upto, renB, setAll]
  | (refine T.nil ?_; (first | refine hK _ _ _ (by rfl) ?_ | refine hK _ _ _ ?_); (try simp only [keep, List.map, lk, reduceIte, Nat.reduceEqDiff, enter]); clear hK K)
  | (show WOpsT _ (⟨_, .ld _ _, none⟩ :: _) _ _ _ _; first | refine L.ldn ?_ | refine L.lddn ?_)
  | (show WOpsT _ (⟨_, .idx _ _ _ _, none⟩ :: _) _ _ _ _; first | refine L.idx ?_ | refine L.idxs ?_)
  | (show WOpsT _ (⟨_, .bin _ _ _, none⟩ :: _) _ _ _ _; first | refine L.add ?_ | refine L.bin ?_)
  | (show AKW _ _ _ _ _ _ _; first | refine N.now ?_)
  | (show AK _ _ (.cond _ _ _) _ _ _ _; first | refine N.c1 ?_ | refine N.c2 ?_ | refine N.c3 ?_ | refine N.c4 ?_ | refine N.condD rfl (fun hcd => ?_) (fun hcd => ?_) | refine N.condB rfl (fun hcd => ?_) (fun hcd => ?_) | refine N.condU rfl ?_ ?_)
  | (show AK _ _ _ _ _ _ _; first | refine N.seq ?_ | refine N.block ?_ | refine N.skip ?_ | refine N.exit ?_ | refine N.ret ?_)
  | (show RK _ _ _ _ _ _ _; simp only [rk, rk0, reduceIte, Nat.reduceEqDiff])
  | (show WOpsT _ _ _ _ _ _; first | refine T.notD rfl ?_ | refine T.not rfl ?_ | refine L.st ?_ | refine L.zero ?_ | refine L.len ?_ | refine L.lenS ?_ | refine L.lenN ?_)
  | refine hQ _ _ _ rfl ?_
  | refine hQN _ _ _ rfl ?_)
  all_goals first
    | (exfalso; omega)
    | skip
  refine N.loop (σ := Nat) (fun i => [(1, .sl 4 (l.map cyC)), (2, .fn f []), (15, .sl 4 (l.map cyC)), (16, I l.length), (17, I i)]) (fun i => []) (fun i => i ≤ l.length) (fun i => l.length - i) 0 (Nat.zero_le _) (Weaks.gc [] 1 rfl (by repeat (first | exact trivial | refine ⟨.rfl, ?_⟩ | refine ⟨.any, ?_⟩)) (by first | rfl | (symm; unfold outH; simp only [List.map]; (repeat' (first | rfl | exact outB_bytes | exact outB_ints | exact outB_flat | refine consE ?_ ?_)); done))) fun i hi R hC => ?_
  by_cases hil : i < l.length
  · have hm := mget cyC l i hil
    have hx := hf _ (List.getElem_mem hil)
    generalize l[i] = x at *
    obtain ⟨x1, x2, x3, x4⟩ := x
    dsimp only [cyC] at hm hx
    repeat' (first
    | (show WOpsT _ (⟨_, .idx _ _ _ _, none⟩ :: _) _ _ _ _; refine T.idxs rfl rfl rfl (by omega) hm ?_)
    | refine T.ofFn rfl (C.zero he rfl hx ?_)
    | rw [Bool.not_true]
    | refine N.regS fun K hK => ?_
    | refine N.dregS fun K hK => ?_
    | refine N.regN fun K hK => ?_
    | refine N.dregN fun K hK => ?_
    | simp only [T.mv, sm, AO.ev, put, lk, enter, reduceIte, Nat.reduceEqDiff, Nat.reduceAdd, Nat.reduceMul, Nat.reduceSub, Int.reduceNeg, Int.reduceToNat, upto, renB, setAll]
    | (refine T.nil ?_; (first | refine hK _ _ _ (by rfl) ?_ | refine hK _ _ _ ?_); (try simp only [keep, List.map, lk, reduceIte, Nat.reduceEqDiff, enter]); clear hK K)
    | (show WOpsT _ (⟨_, .ld _ _, none⟩ :: _) _ _ _ _; first | refine L.ldn ?_ | refine L.lddn ?_)
    | (show WOpsT _ (⟨_, .idx _ _ _ _, none⟩ :: _) _ _ _ _; first | refine L.idx ?_ | refine L.idxs ?_)
    | (show WOpsT _ (⟨_, .bin _ _ _, none⟩ :: _) _ _ _ _; first | refine L.add ?_ | refine L.bin ?_)
    | (show AKW _ _ _ _ _ _ _; first | refine N.now ?_)
    | (show AK _ _ (.cond _ _ _) _ _ _ _; first | refine N.c1 ?_ | refine N.c2 ?_ | refine N.c3 ?_ | refine N.c4 ?_ | refine N.condD rfl (fun hcd => ?_) (fun hcd => ?_) | refine N.condB rfl (fun hcd => ?_) (fun hcd => ?_) | refine N.condU rfl ?_ ?_)
    | (show AK _ _ _ _ _ _ _; first | refine N.seq ?_ | refine N.block ?_ | refine N.skip ?_ | refine N.exit ?_ | refine N.ret ?_)
    | (show RK _ _ _ _ _ _ _; simp only [rk, rk0, reduceIte, Nat.reduceEqDiff])
    | (show WOpsT _ _ _ _ _ _; first | refine T.notD rfl ?_ | refine T.not rfl ?_ | refine L.st ?_ | refine L.zero ?_ | refine L.len ?_ | refine L.lenS ?_ | refine L.lenN ?_)
    | refine hQ _ _ _ rfl ?_
    | refine hQN _ _ _ rfl ?_)
    all_goals first
      | exact hC _ _ (i + 1) (by omega) (by omega) (Weaks.gc [] 1 rfl (by repeat (first | exact trivial | refine ⟨.rfl, ?_⟩ | refine ⟨.any, ?_⟩)) (by first | rfl | (symm; unfold outH; simp only [List.map]; (repeat' (first | rfl | exact outB_bytes | exact outB_ints | exact outB_flat | refine consE ?_ ?_)); done)))
      | (exfalso; omega)
      | (exfalso; simp at *; done)
  · obtain rfl : i = l.length := by omega
    repeat' (first
    | refine N.regS fun K hK => ?_
    | refine N.dregS fun K hK => ?_
    | refine N.regN fun K hK => ?_
    | refine N.dregN fun K hK => ?_
    | simp only [T.mv, sm, AO.ev, put, lk, enter, reduceIte, Nat.reduceEqDiff, Nat.reduceAdd, Nat.reduceMul, Nat.reduceSub, Int.reduceNeg, Int.reduceToNat, upto, renB, setAll]
    | (refine T.nil ?_; (first | refine hK _ _ _ (by rfl) ?_ | refine hK _ _ _ ?_); (try simp only [keep, List.map, lk, reduceIte, Nat.reduceEqDiff, enter]); clear hK K)
    | (show WOpsT _ (⟨_, .ld _ _, none⟩ :: _) _ _ _ _; first | refine L.ldn ?_ | refine L.lddn ?_)
    | (show WOpsT _ (⟨_, .idx _ _ _ _, none⟩ :: _) _ _ _ _; first | refine L.idx ?_ | refine L.idxs ?_)
    | (show WOpsT _ (⟨_, .bin _ _ _, none⟩ :: _) _ _ _ _; first | refine L.add ?_ | refine L.bin ?_)
    | (show AKW _ _ _ _ _ _ _; first | refine N.now ?_)
    | (show AK _ _ (.cond _ _ _) _ _ _ _; first | refine N.c1 ?_ | refine N.c2 ?_ | refine N.c3 ?_ | refine N.c4 ?_ | refine N.condD rfl (fun hcd => ?_) (fun hcd => ?_) | refine N.condB rfl (fun hcd => ?_) (fun hcd => ?_) | refine N.condU rfl ?_ ?_)
    | (show AK _ _ _ _ _ _ _; first | refine N.seq ?_ | refine N.block ?_ | refine N.skip ?_ | refine N.exit ?_ | refine N.ret ?_)
    | (show RK _ _ _ _ _ _ _; simp only [rk, rk0, reduceIte, Nat.reduceEqDiff])
    | (show WOpsT _ _ _ _ _ _; first | refine T.notD rfl ?_ | refine T.not rfl ?_ | refine L.st ?_ | refine L.zero ?_ | refine L.len ?_ | refine L.lenS ?_ | refine L.lenN ?_)
    | refine hQ _ _ _ rfl ?_
    | refine hQN _ _ _ rfl ?_)
    exact WS.c rfl rfl
theorem sameCy1_ok (x : Cyc) (hx : x.steps.length ≤ 100000) : FnE Try.prog 166 [.agg (cyC x), .agg (cyC x)] [] (.c (.bool true)) [] := by
  have h := eqSt_ok x.steps hx
  obtain ⟨x1, x2, x3, x4⟩ := x
  dsimp only [cyC] at h ⊢
  refine N.fn Try.func166 k166 lb q166 fun Q hQ hQN => ?_
  rw [c166]
  repeat' (first
  | refine N.regS fun K hK => ?_
  | refine N.dregS fun K hK => ?_
  | refine N.regN fun K hK => ?_
  | refine N.dregN fun K hK => ?_
  | simp only [T.mv, sm, AO.ev, put, lk, enter, reduceIte, Nat.reduceEqDiff, Nat.reduceAdd, Nat.reduceMul, Nat.reduceSub, Int.reduceNeg, Int.reduceToNat, upto, renB, setAll]
  | (refine T.nil ?_; (first | refine hK _ _ _ (by rfl) ?_ | refine hK _ _ _ ?_); (try simp only [keep, List.map, lk, reduceIte, Nat.reduceEqDiff, enter]); clear hK K)
  | (show WOpsT _ (⟨_, .call _ _, none⟩ :: _) _ _ _ _; first | refine T.call0 e167 rfl (h) ?_)
  | (show WOpsT _ (⟨_, .ld _ _, none⟩ :: _) _ _ _ _; first | refine L.ld ?_ | refine L.ldd ?_)
  | (show WOpsT _ (⟨_, .bin _ _ _, none⟩ :: _) _ _ _ _; first | refine L.bin ?_)
  | (show WOpsT _ (⟨_, _, some (_, true)⟩ :: _) _ _ _ _; first | refine L.goT ?_ | refine L.paT ?_ | refine L.go ?_ | refine L.pass ?_ | refine T.pU rfl ?_ | refine T.gT rfl (fun hgd => ?_) (fun hgd => ?_))
  | (show WOpsT _ (⟨_, .pick _ _ _, none⟩ :: _) _ _ _ _; first | refine L.pkT ?_ | refine L.pkF ?_ | refine L.pickT ?_ | refine L.pickF ?_ | refine L.pickB ?_ | refine T.pkD rfl (fun hgd => ?_) (fun hgd => ?_))
  | (show AKW _ _ _ _ _ _ _; first | refine N.now ?_)
  | (show AK _ _ _ _ _ _ _; first | refine N.seq ?_ | refine N.ret ?_)
  | (show RK _ _ _ _ _ _ _; simp only [rk, rk0, reduceIte, Nat.reduceEqDiff])
  | (show WOpsT _ _ _ _ _ _; first | refine L.fad ?_ | refine L.fadd ?_ | refine L.new ?_)
  | refine hQ _ _ _ rfl ?_
  | refine hQN _ _ _ rfl ?_)
  all_goals first
    | exact WS.c rfl rfl
    | (exfalso; omega)
theorem sameCy_ok (l : List Cyc) (hl : SmlC l) : FnE Try.prog 117 [.sl 4 (l.map cyC), .sl 4 (l.map cyC)] [] (.c (.bool true)) [] := by
  have h := eqCy_ok l (by have := hl.1; omega) 166 e166 (fun x hx => sameCy1_ok x (by have := hl.2 x hx; omega))
  refine N.fn Try.func117 k117 lb q117 fun Q hQ hQN => ?_
  rw [c117]
  repeat' (first
  | refine N.regS fun K hK => ?_
  | refine N.dregS fun K hK => ?_
  | refine N.regN fun K hK => ?_
  | refine N.dregN fun K hK => ?_
  | simp only [T.mv, sm, AO.ev, put, lk, enter, reduceIte, Nat.reduceEqDiff, Nat.reduceAdd, Nat.reduceMul, Nat.reduceSub, Int.reduceNeg, Int.reduceToNat, upto, renB, setAll]
  | (refine T.nil ?_; (first | refine hK _ _ _ (by rfl) ?_ | refine hK _ _ _ ?_); (try simp only [keep, List.map, lk, reduceIte, Nat.reduceEqDiff, enter]); clear hK K)
  | (show WOpsT _ (⟨_, .call _ _, none⟩ :: _) _ _ _ _; first | refine T.call0 e165 rfl (h) ?_)
  | (show AKW _ _ _ _ _ _ _; first | refine N.now ?_)
  | (show AK _ _ _ _ _ _ _; first | refine N.seq ?_ | refine N.ret ?_)
  | (show RK _ _ _ _ _ _ _; simp only [rk, rk0, reduceIte, Nat.reduceEqDiff])
  | refine hQ _ _ _ rfl ?_
  | refine hQN _ _ _ rfl ?_)
  exact WS.c rfl rfl
theorem eqIn_ok (l : List Ins) (hl : l.length ≤ 100000) (f : Nat) (he : enters Try.prog f = true) (hf : ∀ x ∈ l, FnE Try.prog f [.agg (inC x), .agg (inC x)] [] (.c (.bool true)) []) : FnE Try.prog 118 [.sl 4 (l.map inC), .sl 4 (l.map inC), .fn f []] [] (.c (.bool true)) [] := by
  refine N.fn Try.func118 k118 lb q118 fun Q hQ hQN => ?_
  rw [c118]
  repeat' (first
  | rw [List.length_map]
  | refine N.regS fun K hK => ?_
  | refine N.dregS fun K hK => ?_
  | refine N.regN fun K hK => ?_
  | refine N.dregN fun K hK => ?_
  | simp only [T.mv, sm, AO.ev, put, lk, enter, reduceIte, Nat.reduceEqDiff, Nat.reduceAdd, Nat.reduceMul, Nat.reduceSub, Int.reduceNeg, Int.reduceToNat, upto, renB, setAll]
  | (refine T.nil ?_; (first | refine hK _ _ _ (by rfl) ?_ | refine hK _ _ _ ?_); (try simp only [keep, List.map, lk, reduceIte, Nat.reduceEqDiff, enter]); clear hK K)
  | (show WOpsT _ (⟨_, .ld _ _, none⟩ :: _) _ _ _ _; first | refine L.ldn ?_ | refine L.lddn ?_)
  | (show WOpsT _ (⟨_, .idx _ _ _ _, none⟩ :: _) _ _ _ _; first | refine L.idx ?_ | refine L.idxs ?_)
  | (show WOpsT _ (⟨_, .bin _ _ _, none⟩ :: _) _ _ _ _; first | refine L.add ?_ | refine L.bin ?_)
  | (show AKW _ _ _ _ _ _ _; first | refine N.now ?_)
  | (show AK _ _ (.cond _ _ _) _ _ _ _; first | refine N.c1 ?_ | refine N.c2 ?_ | refine N.c3 ?_ | refine N.c4 ?_ | refine N.condD rfl (fun hcd => ?_) (fun hcd => ?_) | refine N.condB rfl (fun hcd => ?_) (fun hcd => ?_) | refine N.condU rfl ?_ ?_)
  | (show AK _ _ _ _ _ _ _; first | refine N.seq ?_ | refine N.block ?_ | refine N.skip ?_ | refine N.exit ?_ | refine N.ret ?_)
  | (show RK _ _ _ _ _ _ _; simp only [rk, rk0, reduceIte, Nat.reduceEqDiff])
  | (show WOpsT _ _ _ _ _ _; first | refine T.notD rfl ?_ | refine T.not rfl ?_ | refine L.st ?_ | refine L.zero ?_ | refine L.len ?_ | refine L.lenS ?_ | refine L.lenN ?_)
  | refine hQ _ _ _ rfl ?_
  | refine hQN _ _ _ rfl ?_)
  all_goals first
    | (exfalso; omega)
    | skip
  refine N.loop (σ := Nat) (fun i => [(1, .sl 4 (l.map inC)), (2, .fn f []), (15, .sl 4 (l.map inC)), (16, I l.length), (17, I i)]) (fun i => []) (fun i => i ≤ l.length) (fun i => l.length - i) 0 (Nat.zero_le _) (Weaks.gc [] 1 rfl (by repeat (first | exact trivial | refine ⟨.rfl, ?_⟩ | refine ⟨.any, ?_⟩)) (by first | rfl | (symm; unfold outH; simp only [List.map]; (repeat' (first | rfl | exact outB_bytes | exact outB_ints | exact outB_flat | refine consE ?_ ?_)); done))) fun i hi R hC => ?_
  by_cases hil : i < l.length
  · have hm := mget inC l i hil
    have hx := hf _ (List.getElem_mem hil)
    generalize l[i] = x at *
    obtain ⟨x1, x2, x3, x4⟩ := x
    dsimp only [inC] at hm hx
    repeat' (first
    | (show WOpsT _ (⟨_, .idx _ _ _ _, none⟩ :: _) _ _ _ _; refine T.idxs rfl rfl rfl (by omega) hm ?_)
    | refine T.ofFn rfl (C.zero he rfl hx ?_)
    | rw [Bool.not_true]
    | refine N.regS fun K hK => ?_
    | refine N.dregS fun K hK => ?_
    | refine N.regN fun K hK => ?_
    | refine N.dregN fun K hK => ?_
    | simp only [T.mv, sm, AO.ev, put, lk, enter, reduceIte, Nat.reduceEqDiff, Nat.reduceAdd, Nat.reduceMul, Nat.reduceSub, Int.reduceNeg, Int.reduceToNat, upto, renB, setAll]
    | (refine T.nil ?_; (first | refine hK _ _ _ (by rfl) ?_ | refine hK _ _ _ ?_); (try simp only [keep, List.map, lk, reduceIte, Nat.reduceEqDiff, enter]); clear hK K)
    | (show WOpsT _ (⟨_, .ld _ _, none⟩ :: _) _ _ _ _; first | refine L.ldn ?_ | refine L.lddn ?_)
    | (show WOpsT _ (⟨_, .idx _ _ _ _, none⟩ :: _) _ _ _ _; first | refine L.idx ?_ | refine L.idxs ?_)
    | (show WOpsT _ (⟨_, .bin _ _ _, none⟩ :: _) _ _ _ _; first | refine L.add ?_ | refine L.bin ?_)
    | (show AKW _ _ _ _ _ _ _; first | refine N.now ?_)
    | (show AK _ _ (.cond _ _ _) _ _ _ _; first | refine N.c1 ?_ | refine N.c2 ?_ | refine N.c3 ?_ | refine N.c4 ?_ | refine N.condD rfl (fun hcd => ?_) (fun hcd => ?_) | refine N.condB rfl (fun hcd => ?_) (fun hcd => ?_) | refine N.condU rfl ?_ ?_)
    | (show AK _ _ _ _ _ _ _; first | refine N.seq ?_ | refine N.block ?_ | refine N.skip ?_ | refine N.exit ?_ | refine N.ret ?_)
    | (show RK _ _ _ _ _ _ _; simp only [rk, rk0, reduceIte, Nat.reduceEqDiff])
    | (show WOpsT _ _ _ _ _ _; first | refine T.notD rfl ?_ | refine T.not rfl ?_ | refine L.st ?_ | refine L.zero ?_ | refine L.len ?_ | refine L.lenS ?_ | refine L.lenN ?_)
    | refine hQ _ _ _ rfl ?_
    | refine hQN _ _ _ rfl ?_)
    all_goals first
      | exact hC _ _ (i + 1) (by omega) (by omega) (Weaks.gc [] 1 rfl (by repeat (first | exact trivial | refine ⟨.rfl, ?_⟩ | refine ⟨.any, ?_⟩)) (by first | rfl | (symm; unfold outH; simp only [List.map]; (repeat' (first | rfl | exact outB_bytes | exact outB_ints | exact outB_flat | refine consE ?_ ?_)); done)))
      | (exfalso; omega)
      | (exfalso; simp at *; done)
  · obtain rfl : i = l.length := by omega
    repeat' (first
    | refine N.regS fun K hK => ?_
    | refine N.dregS fun K hK => ?_
    | refine N.regN fun K hK => ?_
    | refine N.dregN fun K hK => ?_
    | simp only [T.mv, sm, AO.ev, put, lk, enter, reduceIte, Nat.reduceEqDiff, Nat.reduceAdd, Nat.reduceMul, Nat.reduceSub, Int.reduceNeg, Int.reduceToNat, upto, renB, setAll]
    | (refine T.nil ?_; (first | refine hK _ _ _ (by rfl) ?_ | refine hK _ _ _ ?_); (try simp only [keep, List.map, lk, reduceIte, Nat.reduceEqDiff, enter]); clear hK K)
    | (show WOpsT _ (⟨_, .ld _ _, none⟩ :: _) _ _ _ _; first | refine L.ldn ?_ | refine L.lddn ?_)
    | (show WOpsT _ (⟨_, .idx _ _ _ _, none⟩ :: _) _ _ _ _; first | refine L.idx ?_ | refine L.idxs ?_)
    | (show WOpsT _ (⟨_, .bin _ _ _, none⟩ :: _) _ _ _ _; first | refine L.add ?_ | refine L.bin ?_)
    | (show AKW _ _ _ _ _ _ _; first | refine N.now ?_)
    | (show AK _ _ (.cond _ _ _) _ _ _ _; first | refine N.c1 ?_ | refine N.c2 ?_ | refine N.c3 ?_ | refine N.c4 ?_ | refine N.condD rfl (fun hcd => ?_) (fun hcd => ?_) | refine N.condB rfl (fun hcd => ?_) (fun hcd => ?_) | refine N.condU rfl ?_ ?_)
    | (show AK _ _ _ _ _ _ _; first | refine N.seq ?_ | refine N.block ?_ | refine N.skip ?_ | refine N.exit ?_ | refine N.ret ?_)
    | (show RK _ _ _ _ _ _ _; simp only [rk, rk0, reduceIte, Nat.reduceEqDiff])
    | (show WOpsT _ _ _ _ _ _; first | refine T.notD rfl ?_ | refine T.not rfl ?_ | refine L.st ?_ | refine L.zero ?_ | refine L.len ?_ | refine L.lenS ?_ | refine L.lenN ?_)
    | refine hQ _ _ _ rfl ?_
    | refine hQN _ _ _ rfl ?_)
    exact WS.c rfl rfl
theorem same1_ok (x : Ins) (hx : SmlC x.cy) : FnE Try.prog 119 [.agg (inC x), .agg (inC x)] [] (.c (.bool true)) [] := by
  have h := sameCy_ok x.cy hx
  obtain ⟨x1, x2, x3, x4⟩ := x
  dsimp only [inC] at h ⊢
  refine N.fn Try.func119 k119 lb q119 fun Q hQ hQN => ?_
  rw [c119]
  repeat' (first
  | refine N.regS fun K hK => ?_
  | refine N.dregS fun K hK => ?_
  | refine N.regN fun K hK => ?_
  | refine N.dregN fun K hK => ?_
  | simp only [T.mv, sm, AO.ev, put, lk, enter, reduceIte, Nat.reduceEqDiff, Nat.reduceAdd, Nat.reduceMul, Nat.reduceSub, Int.reduceNeg, Int.reduceToNat, upto, renB, setAll]
  | (refine T.nil ?_; (first | refine hK _ _ _ (by rfl) ?_ | refine hK _ _ _ ?_); (try simp only [keep, List.map, lk, reduceIte, Nat.reduceEqDiff, enter]); clear hK K)
  | (show WOpsT _ (⟨_, .call _ _, none⟩ :: _) _ _ _ _; first | refine T.call0 e117 rfl (h) ?_)
  | (show WOpsT _ (⟨_, .ld _ _, none⟩ :: _) _ _ _ _; first | refine L.ld ?_ | refine L.ldd ?_)
  | (show WOpsT _ (⟨_, .bin _ _ _, none⟩ :: _) _ _ _ _; first | refine L.bin ?_)
  | (show WOpsT _ (⟨_, _, some (_, true)⟩ :: _) _ _ _ _; first | refine L.goT ?_ | refine L.paT ?_ | refine L.go ?_ | refine L.pass ?_ | refine T.pU rfl ?_ | refine T.gT rfl (fun hgd => ?_) (fun hgd => ?_))
  | (show WOpsT _ (⟨_, .pick _ _ _, none⟩ :: _) _ _ _ _; first | refine L.pkT ?_ | refine L.pkF ?_ | refine L.pickT ?_ | refine L.pickF ?_ | refine L.pickB ?_ | refine T.pkD rfl (fun hgd => ?_) (fun hgd => ?_))
  | (show AKW _ _ _ _ _ _ _; first | refine N.now ?_)
  | (show AK _ _ _ _ _ _ _; first | refine N.seq ?_ | refine N.ret ?_)
  | (show RK _ _ _ _ _ _ _; simp only [rk, rk0, reduceIte, Nat.reduceEqDiff])
  | (show WOpsT _ _ _ _ _ _; first | refine L.fad ?_ | refine L.fadd ?_ | refine L.new ?_)
  | refine hQ _ _ _ rfl ?_
  | refine hQN _ _ _ rfl ?_)
  all_goals first
    | exact WS.c rfl rfl
    | (exfalso; omega)
    | (exfalso; simp at *; done)
theorem tsame_ok (c : Cpu) (hc : SmlP c) : FnE Try.prog 61 [.agg (cpC c), .agg (cpC c)] [] (.c (.bool true)) [] := by
  obtain ⟨nm, ins, r1, r2, r3⟩ := c
  obtain ⟨h0, h1, h2, h3, h4⟩ := hc
  dsimp only at h0 h1 h2 h3 h4
  have g1 := sameCy_ok r1 h2
  have g2 := sameCy_ok r2 h3
  have g3 := sameCy_ok r3 h4
  have g0 := eqIn_ok ins (by omega) 119 e119 (fun x hx => same1_ok x (h1 x hx))
  unfold cpC
  dsimp only
  have hn : decide (nm = nm) = true := decide_eq_true rfl
  refine N.fn Try.func61 k61 lb q61 fun Q hQ hQN => ?_
  rw [c61]
  repeat' (first
  | rw [hn]
  | refine N.regS fun K hK => ?_
  | refine N.dregS fun K hK => ?_
  | refine N.regN fun K hK => ?_
  | refine N.dregN fun K hK => ?_
  | simp only [T.mv, sm, AO.ev, put, lk, enter, reduceIte, Nat.reduceEqDiff, Nat.reduceAdd, Nat.reduceMul, Nat.reduceSub, Int.reduceNeg, Int.reduceToNat, upto, renB, setAll]
  | (refine T.nil ?_; (first | refine hK _ _ _ (by rfl) ?_ | refine hK _ _ _ ?_); (try simp only [keep, List.map, lk, reduceIte, Nat.reduceEqDiff, enter]); clear hK K)
  | (show WOpsT _ (⟨_, .call _ _, none⟩ :: _) _ _ _ _; first | refine T.call0 e117 rfl (g1) ?_ | refine T.call0 e117 rfl (g2) ?_ | refine T.call0 e117 rfl (g3) ?_ | refine T.call0 e118 rfl (g0) ?_)
  | (show WOpsT _ (⟨_, .ld _ _, none⟩ :: _) _ _ _ _; first | refine L.ld ?_ | refine L.ldd ?_)
  | (show WOpsT _ (⟨_, .bin _ _ _, none⟩ :: _) _ _ _ _; first | refine L.bin ?_)
  | (show WOpsT _ (⟨_, _, some (_, true)⟩ :: _) _ _ _ _; first | refine L.goT ?_ | refine L.paT ?_ | refine L.go ?_ | refine L.pass ?_ | refine T.pU rfl ?_ | refine T.gT rfl (fun hgd => ?_) (fun hgd => ?_))
  | (show WOpsT _ (⟨_, .pick _ _ _, none⟩ :: _) _ _ _ _; first | refine L.pkT ?_ | refine L.pkF ?_ | refine L.pickT ?_ | refine L.pickF ?_ | refine L.pickB ?_ | refine T.pkD rfl (fun hgd => ?_) (fun hgd => ?_))
  | (show AKW _ _ _ _ _ _ _; first | refine N.now ?_)
  | (show AK _ _ _ _ _ _ _; first | refine N.seq ?_ | refine N.ret ?_)
  | (show RK _ _ _ _ _ _ _; simp only [rk, rk0, reduceIte, Nat.reduceEqDiff])
  | (show WOpsT _ _ _ _ _ _; first | refine L.fad ?_ | refine L.fadd ?_ | refine L.new ?_)
  | refine hQ _ _ _ rfl ?_
  | refine hQN _ _ _ rfl ?_)
  all_goals first
    | exact WS.c rfl rfl
    | (exfalso; omega)
    | (exfalso; simp at *; done)
end Go.Proofs.Ytjmmompbmjhkpaa.Calc

namespace Go.Proofs.Ytjmmompbmjhkpaa.Calc
open Go Code
set_option linter.unusedSimpArgs false
set_option linter.unusedVariables false
set_option maxRecDepth 20000
set_option maxHeartbeats 4000000
attribute [local irreducible] WOpsT AW AK RK AKW UK UC
theorem found_at (p : Ins → Bool) (l : List Ins) (i : Nat) (hi : i < l.length) (h : ∀ j, j < i → ∀ hj : j < l.length, p l[j] = false) (hp : p l[i] = true) : gotM p l = (l[i], true) := by
  unfold gotM
  rw [show l.findIdx? p = some i from List.findIdx?_eq_some_iff_getElem.2 ⟨hi, hp, fun j hj => by rw [h j hj (by omega)]; decide⟩]
  simp [hi]
theorem ops_up (l : List Ins) (ho : ∀ i (h : i + 1 < l.length), l[i].op < l[i + 1].op) : ∀ (d i : Nat) (h : i + d + 1 < l.length), l[i].op < l[i + d + 1].op := by
  intro d
  induction d with
  | zero => intro i h; exact ho i h
  | succ d ih =>
    intro i h
    have h1 := ih i (by omega)
    have h2 := ho (i + d + 1) (by omega)
    have e : i + (d + 1) + 1 = i + d + 1 + 1 := by omega
    simp only [e]
    omega
theorem noname_ok : FnE Try.prog 60 [.agg [.c (.string ⟨#[]⟩), .c (.slice none 0 0), .c (.slice none 0 0), .c (.slice none 0 0), .c (.slice none 0 0)]] [] (I 15) [] := by
  have hn : FnE Try.prog 113 [.c (.string ⟨#[]⟩)] [] (.c (.bool false)) [] := by
    refine N.fn Try.func113 k113 lb q113 fun Q hQ hQN => ?_
    rw [c113]
    repeat' (first
    | refine N.regS fun K hK => ?_
    | refine N.dregS fun K hK => ?_
    | refine N.regN fun K hK => ?_
    | refine N.dregN fun K hK => ?_
    | simp only [T.mv, sm, AO.ev, put, lk, enter, reduceIte, Nat.reduceEqDiff, Nat.reduceAdd, Nat.reduceMul, Nat.reduceSub, Int.reduceNeg, Int.reduceToNat, upto, renB, setAll]
    | (refine T.nil ?_; (first | refine hK _ _ _ (by rfl) ?_ | refine hK _ _ _ ?_); (try simp only [keep, List.map, lk, reduceIte, Nat.reduceEqDiff, enter]); clear hK K)
    | (show WOpsT _ (⟨_, .ld _ _, none⟩ :: _) _ _ _ _; first | refine L.ld ?_ | refine L.ldd ?_)
    | (show WOpsT _ (⟨_, .idx _ _ _ _, none⟩ :: _) _ _ _ _; first | refine L.idx ?_ | refine L.idxs ?_)
    | (show WOpsT _ (⟨_, .bin _ _ _, none⟩ :: _) _ _ _ _; first | refine L.add ?_ | refine L.bin ?_)
    | (show WOpsT _ (⟨_, _, some (_, true)⟩ :: _) _ _ _ _; first | refine L.goT ?_ | refine L.paT ?_ | refine L.go ?_ | refine L.pass ?_ | refine T.pU rfl ?_ | refine T.gT rfl (fun hgd => ?_) (fun hgd => ?_))
    | (show WOpsT _ (⟨_, _, some (_, false)⟩ :: _) _ _ _ _; first | refine L.goF ?_ | refine L.paF ?_ | refine L.go ?_ | refine L.pass ?_ | refine T.pU rfl ?_ | refine T.gF rfl (fun hgd => ?_) (fun hgd => ?_))
    | (show WOpsT _ (⟨_, .pick _ _ _, none⟩ :: _) _ _ _ _; first | refine L.pkT ?_ | refine L.pkF ?_ | refine L.pickT ?_ | refine L.pickF ?_ | refine L.pickB ?_ | refine T.pkD rfl (fun hgd => ?_) (fun hgd => ?_))
    | (show AKW _ _ _ _ _ _ _; first | refine N.now ?_)
    | (show AK _ _ (.cond _ _ _) _ _ _ _; first | refine N.c1 ?_ | refine N.c2 ?_ | refine N.c3 ?_ | refine N.c4 ?_ | refine N.condD rfl (fun hcd => ?_) (fun hcd => ?_) | refine N.condB rfl (fun hcd => ?_) (fun hcd => ?_) | refine N.condU rfl ?_ ?_)
    | (show AK _ _ _ _ _ _ _; first | refine N.seq ?_ | refine N.block ?_ | refine N.skip ?_ | refine N.exit ?_ | refine N.ret ?_)
    | (show RK _ _ _ _ _ _ _; simp only [rk, rk0, reduceIte, Nat.reduceEqDiff])
    | (show WOpsT _ _ _ _ _ _; first | refine T.lens rfl ?_ | refine T.s2b rfl ?_ | refine T.notD rfl ?_ | refine T.not rfl ?_ | refine L.len ?_ | refine L.lenS ?_ | refine L.lenN ?_)
    | refine hQ _ _ _ rfl ?_
    | refine hQN _ _ _ rfl ?_)
    all_goals first
      | exact WS.c rfl rfl
      | (exfalso; omega)
      | (exfalso; simp at *; done)
  refine N.fn Try.func60 k60 lb q60 fun Q hQ hQN => ?_
  rw [c60]
  repeat' (first
  | refine N.regS fun K hK => ?_
  | refine N.dregS fun K hK => ?_
  | refine N.regN fun K hK => ?_
  | refine N.dregN fun K hK => ?_
  | simp only [T.mv, sm, AO.ev, put, lk, enter, reduceIte, Nat.reduceEqDiff, Nat.reduceAdd, Nat.reduceMul, Nat.reduceSub, Int.reduceNeg, Int.reduceToNat, upto, renB, setAll]
  | (refine T.nil ?_; (first | refine hK _ _ _ (by rfl) ?_ | refine hK _ _ _ ?_); (try simp only [keep, List.map, lk, reduceIte, Nat.reduceEqDiff, enter]); clear hK K)
  | (show WOpsT _ (⟨_, .call _ _, none⟩ :: _) _ _ _ _; first | refine T.call0 e113 rfl (hn) ?_)
  | (show WOpsT _ (⟨_, .ld _ _, none⟩ :: _) _ _ _ _; first | refine L.ld ?_ | refine L.ldd ?_ | refine L.ldn ?_ | refine L.lddn ?_)
  | (show WOpsT _ (⟨_, .idx _ _ _ _, none⟩ :: _) _ _ _ _; first | refine L.idx ?_ | refine L.idxs ?_)
  | (show WOpsT _ (⟨_, .bin _ _ _, none⟩ :: _) _ _ _ _; first | refine L.add ?_ | refine L.sub ?_ | refine L.bin ?_)
  | (show WOpsT _ (⟨_, _, some (_, true)⟩ :: _) _ _ _ _; first | refine L.goT ?_ | refine L.paT ?_ | refine L.go ?_ | refine L.pass ?_ | refine T.pU rfl ?_ | refine T.gT rfl (fun hgd => ?_) (fun hgd => ?_))
  | (show WOpsT _ (⟨_, _, some (_, false)⟩ :: _) _ _ _ _; first | refine L.goF ?_ | refine L.paF ?_ | refine L.go ?_ | refine L.pass ?_ | refine T.pU rfl ?_ | refine T.gF rfl (fun hgd => ?_) (fun hgd => ?_))
  | (show WOpsT _ (⟨_, .pick _ _ _, none⟩ :: _) _ _ _ _; first | refine L.pkT ?_ | refine L.pkF ?_ | refine L.pickT ?_ | refine L.pickF ?_ | refine L.pickB ?_ | refine T.pkD rfl (fun hgd => ?_) (fun hgd => ?_))
  | (show AKW _ _ _ _ _ _ _; first | refine N.now ?_)
  | (show AK _ _ (.cond _ _ _) _ _ _ _; first | refine N.c1 ?_ | refine N.c2 ?_ | refine N.c3 ?_ | refine N.c4 ?_ | refine N.condD rfl (fun hcd => ?_) (fun hcd => ?_) | refine N.condB rfl (fun hcd => ?_) (fun hcd => ?_) | refine N.condU rfl ?_ ?_)
  | (show AK _ _ _ _ _ _ _; first | refine N.seq ?_ | refine N.block ?_ | refine N.skip ?_ | refine N.exit ?_ | refine N.ret ?_)
  | (show RK _ _ _ _ _ _ _; simp only [rk, rk0, reduceIte, Nat.reduceEqDiff])
  | (show WOpsT _ _ _ _ _ _; first | refine T.slcN rfl rfl rfl ?_ | refine T.notD rfl ?_ | refine T.not rfl ?_ | refine L.fad ?_ | refine L.fadd ?_ | refine L.st ?_ | refine L.new ?_ | refine L.zero ?_ | refine L.len ?_ | refine L.lenS ?_ | refine L.lenN ?_ | refine T.mkf ?_ | refine L.bsl ?_ | refine T.slc rfl rfl rfl rfl ⟨rfl, rfl⟩ (by omega) ?_ | refine T.slcS rfl rfl rfl rfl (by omega) ?_)
  | refine hQ _ _ _ rfl ?_
  | refine hQN _ _ _ rfl ?_)
  exact WS.c rfl rfl
theorem onename_ok : FnE Try.prog 60 [.agg [.c (.string ⟨#[97]⟩), .c (.slice none 0 0), .c (.slice none 0 0), .c (.slice none 0 0), .c (.slice none 0 0)]] [] (I 0) [] := by
  have hv : VCpu ⟨⟨#[97]⟩, [], [], [], []⟩ := ⟨vname_of _ (by decide +kernel), Nat.zero_le _, fun x hx => absurd hx (by simp), fun i h => absurd h (by simp), fun i j h => absurd h (by simp), ⟨Nat.zero_le _, fun x hx => absurd hx (by simp)⟩, ⟨Nat.zero_le _, fun x hx => absurd hx (by simp)⟩, ⟨Nat.zero_le _, fun x hx => absurd hx (by simp)⟩⟩
  refine FnE.arg0 (tcheck_ok _ hv) ?_
  refine .agg (Eq.refl _) fun i x y hx hy => ?_
  match i with
  | 0 => cases hx; cases hy; exact .rfl
  | 1 => cases hx; cases hy; exact .nil
  | 2 => cases hx; cases hy; exact .nil
  | 3 => cases hx; cases hy; exact .nil
  | 4 => cases hx; cases hy; exact .nil
  | i + 5 => cases hx
theorem described_ok : FnE Try.prog 59 [] [] (.c (.bool true)) [] := by
  have h1 := noname_ok
  have h2 := onename_ok
  have h3 := size_ok 4
  rw [show sizeM 4 = 2 by decide] at h3
  refine N.fn Try.func59 k59 lb q59 fun Q hQ hQN => ?_
  rw [c59]
  repeat' (first
  | refine N.regS fun K hK => ?_
  | refine N.dregS fun K hK => ?_
  | refine N.regN fun K hK => ?_
  | refine N.dregN fun K hK => ?_
  | simp only [T.mv, sm, AO.ev, put, lk, enter, reduceIte, Nat.reduceEqDiff, Nat.reduceAdd, Nat.reduceMul, Nat.reduceSub, Int.reduceNeg, Int.reduceToNat, upto, renB, setAll]
  | (refine T.nil ?_; (first | refine hK _ _ _ (by rfl) ?_ | refine hK _ _ _ ?_); (try simp only [keep, List.map, lk, reduceIte, Nat.reduceEqDiff, enter]); clear hK K)
  | (show WOpsT _ (⟨_, .call _ _, none⟩ :: _) _ _ _ _; first | refine T.call0 e68 rfl (h3) ?_ | refine T.call0 e60 rfl (h1) ?_ | refine T.call0 e60 rfl (h2) ?_)
  | (show WOpsT _ (⟨_, .bin _ _ _, none⟩ :: _) _ _ _ _; first | refine L.bin ?_)
  | (show WOpsT _ (⟨_, _, some (_, true)⟩ :: _) _ _ _ _; first | refine L.goT ?_ | refine L.paT ?_ | refine L.go ?_ | refine L.pass ?_ | refine T.pU rfl ?_ | refine T.gT rfl (fun hgd => ?_) (fun hgd => ?_))
  | (show WOpsT _ (⟨_, .pick _ _ _, none⟩ :: _) _ _ _ _; first | refine L.pkT ?_ | refine L.pkF ?_ | refine L.pickT ?_ | refine L.pickF ?_ | refine L.pickB ?_ | refine T.pkD rfl (fun hgd => ?_) (fun hgd => ?_))
  | (show AKW _ _ _ _ _ _ _; first | refine N.now ?_)
  | (show AK _ _ _ _ _ _ _; first | refine N.seq ?_ | refine N.ret ?_)
  | (show RK _ _ _ _ _ _ _; simp only [rk, rk0, reduceIte, Nat.reduceEqDiff])
  | (show WOpsT _ _ _ _ _ _; first | refine L.build ?_)
  | refine hQ _ _ _ rfl ?_
  | refine hQN _ _ _ rfl ?_)
  exact WS.c rfl rfl
theorem made1_ok (x : Ins) (o : Int) : FnE Try.prog 65 [.agg (inC x), .ptr 0 1 0 0] [⟨1, 1, [[I o]]⟩] (.c (.bool (decide (x.op = o)))) [⟨1, 1, [[I o]]⟩] := by
  obtain ⟨a, s, m, cy⟩ := x
  refine N.fn Try.func65 k65 lb q65 fun Q hQ hQN => ?_
  rw [c65]
  repeat' (first
  | refine N.regS fun K hK => ?_
  | refine N.dregS fun K hK => ?_
  | refine N.regN fun K hK => ?_
  | refine N.dregN fun K hK => ?_
  | simp only [T.mv, sm, AO.ev, put, lk, enter, reduceIte, Nat.reduceEqDiff, Nat.reduceAdd, Nat.reduceMul, Nat.reduceSub, Int.reduceNeg, Int.reduceToNat, upto, renB, setAll]
  | (refine T.nil ?_; (first | refine hK _ _ _ (by rfl) ?_ | refine hK _ _ _ ?_); (try simp only [keep, List.map, lk, reduceIte, Nat.reduceEqDiff, enter]); clear hK K)
  | (show WOpsT _ (⟨_, .ld _ _, none⟩ :: _) _ _ _ _; first | refine L.ld ?_ | refine L.ldd ?_)
  | (show WOpsT _ (⟨_, .bin _ _ _, none⟩ :: _) _ _ _ _; first | refine L.bin ?_)
  | (show AKW _ _ _ _ _ _ _; first | refine N.now ?_)
  | (show AK _ _ _ _ _ _ _; first | refine N.seq ?_ | refine N.ret ?_)
  | (show RK _ _ _ _ _ _ _; simp only [rk, rk0, reduceIte, Nat.reduceEqDiff])
  | (show WOpsT _ _ _ _ _ _; first | refine L.fad ?_ | refine L.fadd ?_ | refine L.new ?_)
  | refine hQ _ _ _ rfl ?_
  | refine hQN _ _ _ rfl ?_)
  exact WS.gc [0] 1 rfl (by first | rfl | (symm; unfold outH; simp only [List.map]; (repeat' (first | rfl | exact outB_bytes | exact outB_ints | exact outB_flat | refine consE ?_ ?_)); done)) .rfl
theorem tablemade_ok (l : List Int) (o0 : Int) : FnE Try.prog 15 [.sl 1 (cells l), I o0] [] (.c (.bool true)) [] := by
  have hmk := mkCpu_ok l
  have hsm := mkCpu_sml l
  have hv := mkCpu_v l
  generalize mkCpu l = c at *
  have hdes := described_ok
  have hchk := tcheck_ok c hv
  have hsame := tsame_ok c hsm
  have hb := below_ok o0 256 (by decide) (by decide)
  generalize o0 % 256 = o at *
  have hfo := find_ok c hsm o
  have hct := containsO 65 e65 o c.ins (fun x => decide (x.op = o)) hv.num (fun x _ => made1_ok x o)
  have hfi := fun i (hi : i < c.ins.length) => find_ok c hsm c.ins[i].op
  have hna := fun i (hi : i < c.ins.length) => named_ok c hsm c.ins[i].name c.ins[i].mode
  have hgi : ∀ i (hi : i < c.ins.length), gotM (fun x => decide (x.op = c.ins[i].op)) c.ins = (c.ins[i], true) := fun i hi => by
    refine found_at _ _ i hi (fun j hj hjl => decide_eq_false ?_) (decide_eq_true rfl)
    have := ops_up c.ins hv.order (i - j - 1) j (by omega)
    have e : j + (i - j - 1) + 1 = i := by omega
    simp only [e] at this
    omega
  have hgn : ∀ i (hi : i < c.ins.length), gotM (fun x => decide (x.name = c.ins[i].name ∧ x.mode = c.ins[i].mode)) c.ins = (c.ins[i], true) := fun i hi =>
    found_at _ _ i hi (fun j hj hjl => decide_eq_false (hv.once j i hi hj)) (decide_eq_true ⟨rfl, rfl⟩)
  have hlast : (gotM (fun x => decide (x.op = o)) c.ins).2 = decide (0 ≤ idxI (fun x => decide (x.op = o)) c.ins) := by
    unfold gotM idxI
    cases c.ins.findIdx? (fun x => decide (x.op = o)) with
    | none => rfl
    | some i => exact (decide_eq_true (by show (0 : Int) ≤ ((i : Nat) : Int); omega)).symm
  generalize gotM (fun x => decide (x.op = o)) c.ins = g at *
  rw [← hlast] at hct
  obtain ⟨gx, gb⟩ := g
  dsimp only at hfo hct
  have hnum := hv.num
  clear hv hsm hlast
  obtain ⟨nm, ins, r1, r2, r3⟩ := c
  dsimp only at hgi hgn hfi hna hnum hct
  refine N.fn Try.func15 k15 lb q15 fun Q hQ hQN => ?_
  rw [c15]
  repeat' (first
  | rw [List.length_map]
  | rw [Bool.not_true]
  | refine N.regS fun K hK => ?_
  | refine N.dregS fun K hK => ?_
  | refine N.regN fun K hK => ?_
  | refine N.dregN fun K hK => ?_
  | simp only [T.mv, sm, AO.ev, put, lk, enter, reduceIte, Nat.reduceEqDiff, Nat.reduceAdd, Nat.reduceMul, Nat.reduceSub, Int.reduceNeg, Int.reduceToNat, upto, renB, setAll]
  | (refine T.nil ?_; (first | refine hK _ _ _ (by rfl) ?_ | refine hK _ _ _ ?_); (try simp only [keep, List.map, lk, reduceIte, Nat.reduceEqDiff, enter]); clear hK K)
  | (show WOpsT _ (⟨_, .call _ _, none⟩ :: _) _ _ _ _; first | refine T.call0 e58 rfl (hmk) ?_ | refine T.call0 e59 rfl (hdes) ?_ | refine T.call0 e60 rfl (hchk) ?_ | refine T.call0 e61 rfl (hsame) ?_)
  | (show WOpsT _ (⟨_, .ld _ _, none⟩ :: _) _ _ _ _; first | refine L.ld ?_ | refine L.ldd ?_ | refine L.ldn ?_ | refine L.lddn ?_)
  | (show WOpsT _ (⟨_, .idx _ _ _ _, none⟩ :: _) _ _ _ _; first | refine L.idx ?_ | refine L.idxs ?_)
  | (show WOpsT _ (⟨_, .bin _ _ _, none⟩ :: _) _ _ _ _; first | refine L.add ?_ | refine L.bin ?_)
  | (show WOpsT _ (⟨_, _, some (_, false)⟩ :: _) _ _ _ _; first | refine L.goF ?_ | refine L.paF ?_ | refine L.go ?_ | refine L.pass ?_ | refine T.pU rfl ?_ | refine T.gF rfl (fun hgd => ?_) (fun hgd => ?_))
  | (show WOpsT _ (⟨_, .pick _ _ _, none⟩ :: _) _ _ _ _; first | refine L.pkT ?_ | refine L.pkF ?_ | refine L.pickT ?_ | refine L.pickF ?_ | refine L.pickB ?_ | refine T.pkD rfl (fun hgd => ?_) (fun hgd => ?_))
  | (show AKW _ _ _ _ _ _ _; first | refine N.now ?_)
  | (show AK _ _ (.cond _ _ _) _ _ _ _; first | refine N.c1 ?_ | refine N.c2 ?_ | refine N.c3 ?_ | refine N.c4 ?_ | refine N.condD rfl (fun hcd => ?_) (fun hcd => ?_) | refine N.condB rfl (fun hcd => ?_) (fun hcd => ?_) | refine N.condU rfl ?_ ?_)
  | (show AK _ _ _ _ _ _ _; first | refine N.seq ?_ | refine N.block ?_ | refine N.skip ?_ | refine N.exit ?_ | refine N.ret ?_)
  | (show RK _ _ _ _ _ _ _; simp only [rk, rk0, reduceIte, Nat.reduceEqDiff])
  | (show WOpsT _ _ _ _ _ _; first | refine L.ext ?_ | refine T.notD rfl ?_ | refine T.not rfl ?_ | refine T.eqb0 rfl rfl ?_ | refine T.eqb1 rfl rfl ?_ | refine L.fad ?_ | refine L.fadd ?_ | refine L.st ?_ | refine L.new ?_ | refine L.zero ?_ | refine L.len ?_ | refine L.lenS ?_ | refine L.lenN ?_ | refine T.mkf ?_)
  | refine hQ _ _ _ rfl ?_
  | refine hQN _ _ _ rfl ?_)
  dsimp only [cpC] at hmk hchk hsame hfi hna hfo
  refine N.loop (σ := Nat) (fun i => [(3, .ptr 0 1 0 0), (5, .ptr 1 1 0 0), (30, .sl 4 (ins.map inC)), (31, I ins.length), (32, I i)]) (fun i => [⟨1, 1, [[I o0]]⟩, ⟨1, 5, [[.c (.string nm), .sl 4 (ins.map inC), .sl 4 (r1.map cyC), .sl 4 (r2.map cyC), .sl 4 (r3.map cyC)]]⟩]) (fun i => i ≤ ins.length) (fun i => ins.length - i) 0 (Nat.zero_le _) (Weaks.sel (by repeat (first | exact trivial | refine ⟨.rfl, ?_⟩ | refine ⟨.any, ?_⟩)) rfl) fun i hi R hC => ?_
  by_cases hil : i < ins.length
  · have hm := mget inC ins i hil
    have f1 := hfi i hil
    rw [hgi i hil] at f1
    have n1 := hna i hil
    rw [hgn i hil] at n1
    clear hfi hna hgi hgn
    generalize ins[i] = x at *
    obtain ⟨x1, x2, x3, x4⟩ := x
    dsimp only [inC] at hm f1 n1
    repeat' (first
    | (show WOpsT _ (⟨_, .idx _ _ _ _, none⟩ :: _) _ _ _ _; refine T.idxs rfl rfl rfl (by omega) hm ?_)
    | rw [Bool.not_true]
    | refine N.regS fun K hK => ?_
    | refine N.dregS fun K hK => ?_
    | refine N.regN fun K hK => ?_
    | refine N.dregN fun K hK => ?_
    | simp only [T.mv, sm, AO.ev, put, lk, enter, reduceIte, Nat.reduceEqDiff, Nat.reduceAdd, Nat.reduceMul, Nat.reduceSub, Int.reduceNeg, Int.reduceToNat, upto, renB, setAll]
    | (refine T.nil ?_; (first | refine hK _ _ _ (by rfl) ?_ | refine hK _ _ _ ?_); (try simp only [keep, List.map, lk, reduceIte, Nat.reduceEqDiff, enter]); clear hK K)
    | (show WOpsT _ (⟨_, .call _ _, none⟩ :: _) _ _ _ _; first | refine T.call0 e62 rfl (f1) ?_ | refine T.call0 e63 rfl (n1) ?_)
    | (show WOpsT _ (⟨_, .ld _ _, none⟩ :: _) _ _ _ _; first | refine L.ld ?_ | refine L.ldd ?_ | refine L.ldn ?_ | refine L.lddn ?_)
    | (show WOpsT _ (⟨_, .idx _ _ _ _, none⟩ :: _) _ _ _ _; first | refine L.idx ?_ | refine L.idxs ?_)
    | (show WOpsT _ (⟨_, .bin _ _ _, none⟩ :: _) _ _ _ _; first | refine L.add ?_ | refine L.bin ?_)
    | (show WOpsT _ (⟨_, _, some (_, false)⟩ :: _) _ _ _ _; first | refine L.goF ?_ | refine L.paF ?_ | refine L.go ?_ | refine L.pass ?_ | refine T.pU rfl ?_ | refine T.gF rfl (fun hgd => ?_) (fun hgd => ?_))
    | (show WOpsT _ (⟨_, .pick _ _ _, none⟩ :: _) _ _ _ _; first | refine L.pkT ?_ | refine L.pkF ?_ | refine L.pickT ?_ | refine L.pickF ?_ | refine L.pickB ?_ | refine T.pkD rfl (fun hgd => ?_) (fun hgd => ?_))
    | (show AKW _ _ _ _ _ _ _; first | refine N.now ?_)
    | (show AK _ _ (.cond _ _ _) _ _ _ _; first | refine N.c1 ?_ | refine N.c2 ?_ | refine N.c3 ?_ | refine N.c4 ?_ | refine N.condD rfl (fun hcd => ?_) (fun hcd => ?_) | refine N.condB rfl (fun hcd => ?_) (fun hcd => ?_) | refine N.condU rfl ?_ ?_)
    | (show AK _ _ _ _ _ _ _; first | refine N.seq ?_ | refine N.block ?_ | refine N.skip ?_ | refine N.exit ?_ | refine N.ret ?_)
    | (show RK _ _ _ _ _ _ _; simp only [rk, rk0, reduceIte, Nat.reduceEqDiff])
    | (show WOpsT _ _ _ _ _ _; first | refine L.ext ?_ | refine T.notD rfl ?_ | refine T.not rfl ?_ | refine T.eqb0 rfl rfl ?_ | refine T.eqb1 rfl rfl ?_ | refine L.fad ?_ | refine L.fadd ?_ | refine L.st ?_ | refine L.new ?_ | refine L.zero ?_ | refine L.len ?_ | refine L.lenS ?_ | refine L.lenN ?_ | refine T.mkf ?_)
    | refine hQ _ _ _ rfl ?_
    | refine hQN _ _ _ rfl ?_)
    all_goals first
      | exact hC _ _ (i + 1) (by omega) (by omega) (Weaks.gc [0, 1] 1 rfl (by repeat (first | exact trivial | refine ⟨.rfl, ?_⟩ | refine ⟨.any, ?_⟩)) (by first | rfl | (symm; unfold outH; simp only [List.map]; (repeat' (first | rfl | exact outB_bytes | exact outB_ints | exact outB_flat | refine consE ?_ ?_)); done)))
      | (exfalso; omega)
      | (exfalso; simp at *; done)
      | trace_state
  · obtain rfl : i = ins.length := by omega
    clear hfi hna hgi hgn
    repeat' (first
    | refine N.regS fun K hK => ?_
    | refine N.dregS fun K hK => ?_
    | refine N.regN fun K hK => ?_
    | refine N.dregN fun K hK => ?_
    | simp only [T.mv, sm, AO.ev, put, lk, enter, reduceIte, Nat.reduceEqDiff, Nat.reduceAdd, Nat.reduceMul, Nat.reduceSub, Int.reduceNeg, Int.reduceToNat, upto, renB, setAll]
    | (refine T.nil ?_; (first | refine hK _ _ _ (by rfl) ?_ | refine hK _ _ _ ?_); (try simp only [keep, List.map, lk, reduceIte, Nat.reduceEqDiff, enter]); clear hK K)
    | (show WOpsT _ (⟨_, .call _ _, none⟩ :: _) _ _ _ _; first | refine T.call0 e29 rfl (hb) ?_ | refine T.call0 e62 rfl (hfo) ?_ | refine T.cP [0] e64 (hct) ?_)
    | (show WOpsT _ (⟨_, .ld _ _, none⟩ :: _) _ _ _ _; first | refine L.ld ?_ | refine L.ldd ?_ | refine L.ldn ?_ | refine L.lddn ?_)
    | (show WOpsT _ (⟨_, .idx _ _ _ _, none⟩ :: _) _ _ _ _; first | refine L.idx ?_ | refine L.idxs ?_)
    | (show WOpsT _ (⟨_, .bin _ _ _, none⟩ :: _) _ _ _ _; first | refine L.add ?_ | refine L.bin ?_)
    | (show WOpsT _ (⟨_, _, some (_, false)⟩ :: _) _ _ _ _; first | refine L.goF ?_ | refine L.paF ?_ | refine L.go ?_ | refine L.pass ?_ | refine T.pU rfl ?_ | refine T.gF rfl (fun hgd => ?_) (fun hgd => ?_))
    | (show WOpsT _ (⟨_, .pick _ _ _, none⟩ :: _) _ _ _ _; first | refine L.pkT ?_ | refine L.pkF ?_ | refine L.pickT ?_ | refine L.pickF ?_ | refine L.pickB ?_ | refine T.pkD rfl (fun hgd => ?_) (fun hgd => ?_))
    | (show AKW _ _ _ _ _ _ _; first | refine N.now ?_)
    | (show AK _ _ (.cond _ _ _) _ _ _ _; first | refine N.c1 ?_ | refine N.c2 ?_ | refine N.c3 ?_ | refine N.c4 ?_ | refine N.condD rfl (fun hcd => ?_) (fun hcd => ?_) | refine N.condB rfl (fun hcd => ?_) (fun hcd => ?_) | refine N.condU rfl ?_ ?_)
    | (show AK _ _ _ _ _ _ _; first | refine N.seq ?_ | refine N.block ?_ | refine N.skip ?_ | refine N.exit ?_ | refine N.ret ?_)
    | (show RK _ _ _ _ _ _ _; simp only [rk, rk0, reduceIte, Nat.reduceEqDiff])
    | (show WOpsT _ _ _ _ _ _; first | refine L.ext ?_ | refine T.notD rfl ?_ | refine T.not rfl ?_ | refine T.eqb0 rfl rfl ?_ | refine T.eqb1 rfl rfl ?_ | refine L.fad ?_ | refine L.fadd ?_ | refine L.st ?_ | refine L.new ?_ | refine L.zero ?_ | refine L.len ?_ | refine L.lenS ?_ | refine L.lenN ?_ | refine T.mkf ?_)
    | refine hQ _ _ _ rfl ?_
    | refine hQN _ _ _ rfl ?_)
    all_goals first
      | exact WS.c rfl rfl
      | exact WS.bool rfl (by simp)
      | trace_state
end Go.Proofs.Ytjmmompbmjhkpaa.Calc

