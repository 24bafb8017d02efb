/- Several texts in one (FnCore, FnCoreB, FnCoreC, FnBytes, FnWhole, FnWholeB, FnStdD, FnStdE, FnStdF, FnStdG, FnStdH, FnCoreL, FnWholeC, PureTimes, PureMake, FnTimes, PureEnds, FnEnds), for the proof of LawCoreEnds. No condition beyond those in each lemma. -/
import Derived.Test.YtjmmompbmjhkpaaPLawCoreEndsE
import Derived.Test.YtjmmompbmjhkpaaPLawCoreEndsD
namespace Go.Proofs.Ytjmmompbmjhkpaa.Calc
open Go Code
set_option linter.unusedSimpArgs false
set_option linter.unusedVariables false
set_option maxRecDepth 20000
set_option maxHeartbeats 4000000
attribute [local irreducible] WOpsT AW AK RK AKW UK UC
theorem co_r (r q : Nat → Int) (op a : Int) (b : Bool) : spl (coA r op a b) 0 (ri q) = coA q op a b := rfl
theorem co_op (r : Nat → Int) (op a v : Int) (b : Bool) : spl (coA r op a b) 9 [I v] = coA r v a b := rfl
theorem co_at (r : Nat → Int) (op a v : Int) (b : Bool) : spl (coA r op a b) 10 [I v] = coA r op v b := rfl
theorem co_nmi (r : Nat → Int) (op a : Int) (b v : Bool) : spl (coA r op a b) 11 [.c (.bool v)] = coA r op a v := rfl
theorem co_mren (r : Nat → Int) (op a : Int) (b : Bool) (ks : List Nat) : (coA r op a b).map (ren ks) = coA r op a b := rfl
theorem co_co (r r' : Nat → Int) (op a op' a' : Int) (b b' : Bool) : spl (coA r op a b) 0 (coA r' op' a' b') = coA r' op' a' b' := rfl
theorem co_t12 (r : Nat → Int) (op a : Int) (b : Bool) : (coA r op a b).take 12 = coA r op a b := rfl
theorem co_t9 (r : Nat → Int) (op a : Int) (b : Bool) : (coA r op a b).take 9 = ri r := rfl
theorem ri_t9 (r : Nat → Int) : (ri r).take 9 = ri r := rfl
theorem cp_t5 (c : Cpu) : (cpC c).take 5 = cpC c := rfl
theorem co_z (r : Nat → Int) (op a : Int) (b : Bool) : spl [I 0, I 0, I 0, I 0, I 0, I 0, I 0, I 0, I 0, I 0, I 0, .c (.bool false)] 0 (coA r op a b) = coA r op a b := rfl
theorem cycM_at (c : Cpu) (op : Int) (i : Nat) (hi : i < c.ins.length) (h : ∀ j, j < i → ∀ hj : j < c.ins.length, c.ins[j].op ≠ op) (ho : c.ins[i].op = op) (hr : 0 ≤ op ∧ op ≤ 255) : cycM c op = c.ins[i].cy := by
  unfold cycM
  rw [if_neg (by omega), if_neg (by omega), if_neg (by omega), if_pos hr, show c.ins.findIdx? (fun x => decide (x.op = op)) = some i from List.findIdx?_eq_some_iff_getElem.2 ⟨hi, by simpa using ho, fun j hj => by simpa using h j hj (by omega)⟩]
  simp only [List.getElem?_eq_getElem hi]
theorem cycM_none (c : Cpu) (op : Int) (hn : op ≠ 256 ∧ op ≠ 257 ∧ op ≠ 258) (h : ∀ j, ∀ hj : j < c.ins.length, c.ins[j].op ≠ op ∨ ¬ (0 ≤ op ∧ op ≤ 255)) : cycM c op = [] := by
  unfold cycM
  rw [if_neg hn.1, if_neg hn.2.1, if_neg hn.2.2]
  split
  · rename_i hr
    rw [show c.ins.findIdx? (fun x => decide (x.op = op)) = none from List.findIdx?_eq_none_iff.2 fun x hx => by
      obtain ⟨j, hj, rfl⟩ := List.getElem_of_mem hx
      rcases h j hj with h | h
      · simpa using h
      · exact absurd hr h]
  · rfl
theorem cycles_c (c : Cpu) (op : Int) (hl : c.ins.length ≤ 256) : FnE Try.prog 128 [.agg (cpC c), I op] [] (.sl 4 ((cycM c op).map cyC)) [] := by
  refine N.fn Try.func128 k128 lb q128 fun Q hQ hQN => ?_
  rw [c128]
  by_cases h6 : op = 256
  · subst h6
    repeat' (first
    | refine N.regS fun K hK => ?_
    | refine N.dregS fun K hK => ?_
    | refine N.regN fun K hK => ?_
    | refine N.dregN fun K hK => ?_
    | simp only [T.mv, sm, AO.ev, put, lk, enter, reduceIte, Nat.reduceEqDiff, Nat.reduceAdd, Nat.reduceMul, Nat.reduceSub, Int.reduceNeg, Int.reduceToNat, upto, renB, setAll]
    | (refine T.nil ?_; (first | refine hK _ _ _ (by rfl) ?_ | refine hK _ _ _ ?_); (try simp only [keep, List.map, lk, reduceIte, Nat.reduceEqDiff, enter]); clear hK K)
    | (show WOpsT _ (⟨_, .ld _ _, none⟩ :: _) _ _ _ _; first | refine L.ld ?_ | refine L.ldd ?_ | refine L.ldn ?_ | refine L.lddn ?_)
    | (show WOpsT _ (⟨_, .idx _ _ _ _, none⟩ :: _) _ _ _ _; first | refine L.idx ?_ | refine L.idxs ?_)
    | (show WOpsT _ (⟨_, .bin _ _ _, none⟩ :: _) _ _ _ _; first | refine L.add ?_ | refine L.bin ?_)
    | (show WOpsT _ (⟨_, _, some (_, true)⟩ :: _) _ _ _ _; first | refine L.goT ?_ | refine L.paT ?_ | refine L.go ?_ | refine L.pass ?_ | refine T.pU rfl ?_ | refine T.gT rfl (fun hgd => ?_) (fun hgd => ?_))
    | (show WOpsT _ (⟨_, .pick _ _ _, none⟩ :: _) _ _ _ _; first | refine L.pkT ?_ | refine L.pkF ?_ | refine L.pickT ?_ | refine L.pickF ?_ | refine L.pickB ?_ | refine T.pkD rfl (fun hgd => ?_) (fun hgd => ?_))
    | (show AKW _ _ _ _ _ _ _; first | refine N.now ?_)
    | (show UK _ _ _ _ _ _ _ _; first | refine N.round ?_)
    | (show UC _ _ _ _ _ _ _ _; first | refine N.ucN ?_)
    | (show AK _ _ (.cond _ _ _) _ _ _ _; first | refine N.c1 ?_ | refine N.c2 ?_ | refine N.c3 ?_ | refine N.c4 ?_ | refine N.condD rfl (fun hcd => ?_) (fun hcd => ?_) | refine N.condB rfl (fun hcd => ?_) (fun hcd => ?_) | refine N.condU rfl ?_ ?_)
    | (show AK _ _ _ _ _ _ _; first | refine N.seq ?_ | refine N.block ?_ | refine N.skip ?_ | refine N.exit ?_ | refine N.ret ?_)
    | (show RK _ _ _ _ _ _ _; simp only [rk, rk0, reduceIte, Nat.reduceEqDiff])
    | (show WOpsT _ _ _ _ _ _; first | refine L.fad ?_ | refine L.fadd ?_ | refine L.st ?_ | refine L.new ?_ | refine L.zero ?_ | refine L.len ?_ | refine L.lenS ?_ | refine L.lenN ?_)
    | refine hQ _ _ _ rfl ?_
    | refine hQN _ _ _ rfl ?_)
    exact WS.drop (n := 0) rfl rfl
  by_cases h7 : op = 257
  · subst h7
    repeat' (first
    | refine N.regS fun K hK => ?_
    | refine N.dregS fun K hK => ?_
    | refine N.regN fun K hK => ?_
    | refine N.dregN fun K hK => ?_
    | simp only [T.mv, sm, AO.ev, put, lk, enter, reduceIte, Nat.reduceEqDiff, Nat.reduceAdd, Nat.reduceMul, Nat.reduceSub, Int.reduceNeg, Int.reduceToNat, upto, renB, setAll]
    | (refine T.nil ?_; (first | refine hK _ _ _ (by rfl) ?_ | refine hK _ _ _ ?_); (try simp only [keep, List.map, lk, reduceIte, Nat.reduceEqDiff, enter]); clear hK K)
    | (show WOpsT _ (⟨_, .ld _ _, none⟩ :: _) _ _ _ _; first | refine L.ld ?_ | refine L.ldd ?_ | refine L.ldn ?_ | refine L.lddn ?_)
    | (show WOpsT _ (⟨_, .idx _ _ _ _, none⟩ :: _) _ _ _ _; first | refine L.idx ?_ | refine L.idxs ?_)
    | (show WOpsT _ (⟨_, .bin _ _ _, none⟩ :: _) _ _ _ _; first | refine L.add ?_ | refine L.bin ?_)
    | (show WOpsT _ (⟨_, _, some (_, true)⟩ :: _) _ _ _ _; first | refine L.goT ?_ | refine L.paT ?_ | refine L.go ?_ | refine L.pass ?_ | refine T.pU rfl ?_ | refine T.gT rfl (fun hgd => ?_) (fun hgd => ?_))
    | (show WOpsT _ (⟨_, .pick _ _ _, none⟩ :: _) _ _ _ _; first | refine L.pkT ?_ | refine L.pkF ?_ | refine L.pickT ?_ | refine L.pickF ?_ | refine L.pickB ?_ | refine T.pkD rfl (fun hgd => ?_) (fun hgd => ?_))
    | (show AKW _ _ _ _ _ _ _; first | refine N.now ?_)
    | (show UK _ _ _ _ _ _ _ _; first | refine N.round ?_)
    | (show UC _ _ _ _ _ _ _ _; first | refine N.ucN ?_)
    | (show AK _ _ (.cond _ _ _) _ _ _ _; first | refine N.c1 ?_ | refine N.c2 ?_ | refine N.c3 ?_ | refine N.c4 ?_ | refine N.condD rfl (fun hcd => ?_) (fun hcd => ?_) | refine N.condB rfl (fun hcd => ?_) (fun hcd => ?_) | refine N.condU rfl ?_ ?_)
    | (show AK _ _ _ _ _ _ _; first | refine N.seq ?_ | refine N.block ?_ | refine N.skip ?_ | refine N.exit ?_ | refine N.ret ?_)
    | (show RK _ _ _ _ _ _ _; simp only [rk, rk0, reduceIte, Nat.reduceEqDiff])
    | (show WOpsT _ _ _ _ _ _; first | refine L.fad ?_ | refine L.fadd ?_ | refine L.st ?_ | refine L.new ?_ | refine L.zero ?_ | refine L.len ?_ | refine L.lenS ?_ | refine L.lenN ?_)
    | refine hQ _ _ _ rfl ?_
    | refine hQN _ _ _ rfl ?_)
    exact WS.drop (n := 0) rfl rfl
  by_cases h8 : op = 258
  · subst h8
    repeat' (first
    | refine N.regS fun K hK => ?_
    | refine N.dregS fun K hK => ?_
    | refine N.regN fun K hK => ?_
    | refine N.dregN fun K hK => ?_
    | simp only [T.mv, sm, AO.ev, put, lk, enter, reduceIte, Nat.reduceEqDiff, Nat.reduceAdd, Nat.reduceMul, Nat.reduceSub, Int.reduceNeg, Int.reduceToNat, upto, renB, setAll]
    | (refine T.nil ?_; (first | refine hK _ _ _ (by rfl) ?_ | refine hK _ _ _ ?_); (try simp only [keep, List.map, lk, reduceIte, Nat.reduceEqDiff, enter]); clear hK K)
    | (show WOpsT _ (⟨_, .ld _ _, none⟩ :: _) _ _ _ _; first | refine L.ld ?_ | refine L.ldd ?_ | refine L.ldn ?_ | refine L.lddn ?_)
    | (show WOpsT _ (⟨_, .idx _ _ _ _, none⟩ :: _) _ _ _ _; first | refine L.idx ?_ | refine L.idxs ?_)
    | (show WOpsT _ (⟨_, .bin _ _ _, none⟩ :: _) _ _ _ _; first | refine L.add ?_ | refine L.bin ?_)
    | (show WOpsT _ (⟨_, _, some (_, true)⟩ :: _) _ _ _ _; first | refine L.goT ?_ | refine L.paT ?_ | refine L.go ?_ | refine L.pass ?_ | refine T.pU rfl ?_ | refine T.gT rfl (fun hgd => ?_) (fun hgd => ?_))
    | (show WOpsT _ (⟨_, .pick _ _ _, none⟩ :: _) _ _ _ _; first | refine L.pkT ?_ | refine L.pkF ?_ | refine L.pickT ?_ | refine L.pickF ?_ | refine L.pickB ?_ | refine T.pkD rfl (fun hgd => ?_) (fun hgd => ?_))
    | (show AKW _ _ _ _ _ _ _; first | refine N.now ?_)
    | (show UK _ _ _ _ _ _ _ _; first | refine N.round ?_)
    | (show UC _ _ _ _ _ _ _ _; first | refine N.ucN ?_)
    | (show AK _ _ (.cond _ _ _) _ _ _ _; first | refine N.c1 ?_ | refine N.c2 ?_ | refine N.c3 ?_ | refine N.c4 ?_ | refine N.condD rfl (fun hcd => ?_) (fun hcd => ?_) | refine N.condB rfl (fun hcd => ?_) (fun hcd => ?_) | refine N.condU rfl ?_ ?_)
    | (show AK _ _ _ _ _ _ _; first | refine N.seq ?_ | refine N.block ?_ | refine N.skip ?_ | refine N.exit ?_ | refine N.ret ?_)
    | (show RK _ _ _ _ _ _ _; simp only [rk, rk0, reduceIte, Nat.reduceEqDiff])
    | (show WOpsT _ _ _ _ _ _; first | refine L.fad ?_ | refine L.fadd ?_ | refine L.st ?_ | refine L.new ?_ | refine L.zero ?_ | refine L.len ?_ | refine L.lenS ?_ | refine L.lenN ?_)
    | refine hQ _ _ _ rfl ?_
    | refine hQN _ _ _ rfl ?_)
    exact WS.drop (n := 0) rfl rfl
  repeat' (first
  | rw [List.length_map]
  | refine N.regS fun K hK => ?_
  | refine N.dregS fun K hK => ?_
  | refine N.regN fun K hK => ?_
  | refine N.dregN fun K hK => ?_
  | simp only [T.mv, sm, AO.ev, put, lk, enter, reduceIte, Nat.reduceEqDiff, Nat.reduceAdd, Nat.reduceMul, Nat.reduceSub, Int.reduceNeg, Int.reduceToNat, upto, renB, setAll]
  | (refine T.nil ?_; (first | refine hK _ _ _ (by rfl) ?_ | refine hK _ _ _ ?_); (try simp only [keep, List.map, lk, reduceIte, Nat.reduceEqDiff, enter]); clear hK K)
  | (show WOpsT _ (⟨_, .ld _ _, none⟩ :: _) _ _ _ _; first | refine L.ld ?_ | refine L.ldd ?_ | refine L.ldn ?_ | refine L.lddn ?_)
  | (show WOpsT _ (⟨_, .idx _ _ _ _, none⟩ :: _) _ _ _ _; first | refine L.idx ?_ | refine L.idxs ?_)
  | (show WOpsT _ (⟨_, .bin _ _ _, none⟩ :: _) _ _ _ _; first | refine L.add ?_ | refine L.bin ?_)
  | (show WOpsT _ (⟨_, _, some (_, true)⟩ :: _) _ _ _ _; first | refine L.goT ?_ | refine L.paT ?_ | refine L.go ?_ | refine L.pass ?_ | refine T.pU rfl ?_ | refine T.gT rfl (fun hgd => ?_) (fun hgd => ?_))
  | (show WOpsT _ (⟨_, .pick _ _ _, none⟩ :: _) _ _ _ _; first | refine L.pkT ?_ | refine L.pkF ?_ | refine L.pickT ?_ | refine L.pickF ?_ | refine L.pickB ?_ | refine T.pkD rfl (fun hgd => ?_) (fun hgd => ?_))
  | (show AKW _ _ _ _ _ _ _; first | refine N.now ?_)
  | (show UK _ _ _ _ _ _ _ _; first | refine N.round ?_)
  | (show UC _ _ _ _ _ _ _ _; first | refine N.ucN ?_)
  | (show AK _ _ (.cond _ _ _) _ _ _ _; first | refine N.c1 ?_ | refine N.c2 ?_ | refine N.c3 ?_ | refine N.c4 ?_ | refine N.condD rfl (fun hcd => ?_) (fun hcd => ?_) | refine N.condB rfl (fun hcd => ?_) (fun hcd => ?_) | refine N.condU rfl ?_ ?_)
  | (show AK _ _ _ _ _ _ _; first | refine N.seq ?_ | refine N.block ?_ | refine N.skip ?_ | refine N.exit ?_ | refine N.ret ?_)
  | (show RK _ _ _ _ _ _ _; simp only [rk, rk0, reduceIte, Nat.reduceEqDiff])
  | (show WOpsT _ _ _ _ _ _; first | refine L.fad ?_ | refine L.fadd ?_ | refine L.st ?_ | refine L.new ?_ | refine L.zero ?_ | refine L.len ?_ | refine L.lenS ?_ | refine L.lenN ?_)
  | refine hQ _ _ _ rfl ?_
  | refine hQN _ _ _ rfl ?_)
  refine N.loop (σ := Nat) (fun i => [(1, I op), (21, .sl 4 (c.ins.map inC)), (22, I c.ins.length), (23, I i)]) (fun i => []) (fun i => i ≤ c.ins.length ∧ ∀ j, j < i → ∀ hj : j < c.ins.length, c.ins[j].op ≠ op ∨ ¬ (0 ≤ op ∧ op ≤ 255)) (fun i => c.ins.length - i) 0 ⟨by omega, fun j hj => absurd hj (by omega)⟩ (Weaks.gc [] 1 rfl (by repeat (first | exact trivial | refine ⟨.rfl, ?_⟩ | refine ⟨.any, ?_⟩)) (by first | rfl | (symm; unfold outH; simp only [List.map]; (repeat' (first | rfl | exact outB_bytes | exact outB_ints | exact outB_flat | refine consE ?_ ?_)); done))) fun i hi R hC => ?_
  obtain ⟨hi, hn⟩ := hi
  by_cases hil : i < c.ins.length
  · have hm := mget inC c.ins i hil
    obtain ⟨x, hx⟩ : ∃ x, c.ins[i] = x := ⟨_, rfl⟩
    have hx2 := hx
    rw [hx] at hm
    obtain ⟨o, s, m, cy⟩ := x
    by_cases hf : o = op ∧ 0 ≤ op ∧ op ≤ 255
    · have hc := cycM_at c op i hil (fun j hj hjl => by
        rcases hn j hj hjl with h | h
        · exact h
        · exact absurd hf.2 h) (by rw [hx]; exact hf.1) hf.2
      rw [hx] at hc
      rw [hc] at hQ hQN
      repeat' (first
      | (show WOpsT _ (⟨_, .idx _ _ _ _, none⟩ :: _) _ _ _ _; refine T.idxs rfl rfl rfl (by omega) hm ?_)
      | refine N.regS fun K hK => ?_
      | refine N.dregS fun K hK => ?_
      | refine N.regN fun K hK => ?_
      | refine N.dregN fun K hK => ?_
      | simp only [T.mv, sm, AO.ev, put, lk, enter, reduceIte, Nat.reduceEqDiff, Nat.reduceAdd, Nat.reduceMul, Nat.reduceSub, Int.reduceNeg, Int.reduceToNat, upto, renB, setAll]
      | (refine T.nil ?_; (first | refine hK _ _ _ (by rfl) ?_ | refine hK _ _ _ ?_); (try simp only [keep, List.map, lk, reduceIte, Nat.reduceEqDiff, enter]); clear hK K)
      | (show WOpsT _ (⟨_, .ld _ _, none⟩ :: _) _ _ _ _; first | refine L.ld ?_ | refine L.ldd ?_ | refine L.ldn ?_ | refine L.lddn ?_)
      | (show WOpsT _ (⟨_, .idx _ _ _ _, none⟩ :: _) _ _ _ _; first | refine L.idx ?_ | refine L.idxs ?_)
      | (show WOpsT _ (⟨_, .bin _ _ _, none⟩ :: _) _ _ _ _; first | refine L.add ?_ | refine L.bin ?_)
      | (show WOpsT _ (⟨_, _, some (_, true)⟩ :: _) _ _ _ _; first | refine L.goT ?_ | refine L.paT ?_ | refine L.go ?_ | refine L.pass ?_ | refine T.pU rfl ?_ | refine T.gT rfl (fun hgd => ?_) (fun hgd => ?_))
      | (show WOpsT _ (⟨_, .pick _ _ _, none⟩ :: _) _ _ _ _; first | refine L.pkT ?_ | refine L.pkF ?_ | refine L.pickT ?_ | refine L.pickF ?_ | refine L.pickB ?_ | refine T.pkD rfl (fun hgd => ?_) (fun hgd => ?_))
      | (show AKW _ _ _ _ _ _ _; first | refine N.now ?_)
      | (show UK _ _ _ _ _ _ _ _; first | refine N.round ?_)
      | (show UC _ _ _ _ _ _ _ _; first | refine N.ucN ?_)
      | (show AK _ _ (.cond _ _ _) _ _ _ _; first | refine N.c1 ?_ | refine N.c2 ?_ | refine N.c3 ?_ | refine N.c4 ?_ | refine N.condD rfl (fun hcd => ?_) (fun hcd => ?_) | refine N.condB rfl (fun hcd => ?_) (fun hcd => ?_) | refine N.condU rfl ?_ ?_)
      | (show AK _ _ _ _ _ _ _; first | refine N.seq ?_ | refine N.block ?_ | refine N.skip ?_ | refine N.exit ?_ | refine N.ret ?_)
      | (show RK _ _ _ _ _ _ _; simp only [rk, rk0, reduceIte, Nat.reduceEqDiff])
      | (show WOpsT _ _ _ _ _ _; first | refine L.fad ?_ | refine L.fadd ?_ | refine L.st ?_ | refine L.new ?_ | refine L.zero ?_ | refine L.len ?_ | refine L.lenS ?_ | refine L.lenN ?_)
      | refine hQ _ _ _ rfl ?_
      | refine hQN _ _ _ rfl ?_)
      all_goals first
        | exact WS.drop (n := 0) rfl rfl
        | (exfalso; omega)
    · have hd : ∀ j, j < i + 1 → ∀ hj : j < c.ins.length, c.ins[j].op ≠ op ∨ ¬ (0 ≤ op ∧ op ≤ 255) := by
        intro j hj hjl
        by_cases hji : j = i
        · subst hji
          rw [hx]
          by_cases h1 : o = op
          · exact .inr fun h => hf ⟨h1, h⟩
          · exact .inl h1
        · exact hn j (by omega) hjl
      repeat' (first
      | (show WOpsT _ (⟨_, .idx _ _ _ _, none⟩ :: _) _ _ _ _; refine T.idxs rfl rfl rfl (by omega) hm ?_)
      | refine N.regS fun K hK => ?_
      | refine N.dregS fun K hK => ?_
      | refine N.regN fun K hK => ?_
      | refine N.dregN fun K hK => ?_
      | simp only [T.mv, sm, AO.ev, put, lk, enter, reduceIte, Nat.reduceEqDiff, Nat.reduceAdd, Nat.reduceMul, Nat.reduceSub, Int.reduceNeg, Int.reduceToNat, upto, renB, setAll]
      | (refine T.nil ?_; (first | refine hK _ _ _ (by rfl) ?_ | refine hK _ _ _ ?_); (try simp only [keep, List.map, lk, reduceIte, Nat.reduceEqDiff, enter]); clear hK K)
      | (show WOpsT _ (⟨_, .ld _ _, none⟩ :: _) _ _ _ _; first | refine L.ld ?_ | refine L.ldd ?_ | refine L.ldn ?_ | refine L.lddn ?_)
      | (show WOpsT _ (⟨_, .idx _ _ _ _, none⟩ :: _) _ _ _ _; first | refine L.idx ?_ | refine L.idxs ?_)
      | (show WOpsT _ (⟨_, .bin _ _ _, none⟩ :: _) _ _ _ _; first | refine L.add ?_ | refine L.bin ?_)
      | (show WOpsT _ (⟨_, _, some (_, true)⟩ :: _) _ _ _ _; first | refine L.goT ?_ | refine L.paT ?_ | refine L.go ?_ | refine L.pass ?_ | refine T.pU rfl ?_ | refine T.gT rfl (fun hgd => ?_) (fun hgd => ?_))
      | (show WOpsT _ (⟨_, .pick _ _ _, none⟩ :: _) _ _ _ _; first | refine L.pkT ?_ | refine L.pkF ?_ | refine L.pickT ?_ | refine L.pickF ?_ | refine L.pickB ?_ | refine T.pkD rfl (fun hgd => ?_) (fun hgd => ?_))
      | (show AKW _ _ _ _ _ _ _; first | refine N.now ?_)
      | (show UK _ _ _ _ _ _ _ _; first | refine N.round ?_)
      | (show UC _ _ _ _ _ _ _ _; first | refine N.ucN ?_)
      | (show AK _ _ (.cond _ _ _) _ _ _ _; first | refine N.c1 ?_ | refine N.c2 ?_ | refine N.c3 ?_ | refine N.c4 ?_ | refine N.condD rfl (fun hcd => ?_) (fun hcd => ?_) | refine N.condB rfl (fun hcd => ?_) (fun hcd => ?_) | refine N.condU rfl ?_ ?_)
      | (show AK _ _ _ _ _ _ _; first | refine N.seq ?_ | refine N.block ?_ | refine N.skip ?_ | refine N.exit ?_ | refine N.ret ?_)
      | (show RK _ _ _ _ _ _ _; simp only [rk, rk0, reduceIte, Nat.reduceEqDiff])
      | (show WOpsT _ _ _ _ _ _; first | refine L.fad ?_ | refine L.fadd ?_ | refine L.st ?_ | refine L.new ?_ | refine L.zero ?_ | refine L.len ?_ | refine L.lenS ?_ | refine L.lenN ?_)
      | refine hQ _ _ _ rfl ?_
      | refine hQN _ _ _ rfl ?_)
      all_goals first
        | exact hC _ _ (i + 1) ⟨by omega, hd⟩ (by omega) (Weaks.gc [] 1 rfl (by repeat (first | exact trivial | refine ⟨.rfl, ?_⟩ | refine ⟨.any, ?_⟩)) (by first | rfl | (symm; unfold outH; simp only [List.map]; (repeat' (first | rfl | exact outB_bytes | exact outB_ints | exact outB_flat | refine consE ?_ ?_)); done)))
        | (exfalso; omega)
  · obtain rfl : i = c.ins.length := by omega
    rw [cycM_none c op ⟨h6, h7, h8⟩ fun j hj => hn j hj hj] at hQ hQN
    repeat' (first
    | refine N.regS fun K hK => ?_
    | refine N.dregS fun K hK => ?_
    | refine N.regN fun K hK => ?_
    | refine N.dregN fun K hK => ?_
    | simp only [T.mv, sm, AO.ev, put, lk, enter, reduceIte, Nat.reduceEqDiff, Nat.reduceAdd, Nat.reduceMul, Nat.reduceSub, Int.reduceNeg, Int.reduceToNat, upto, renB, setAll]
    | (refine T.nil ?_; (first | refine hK _ _ _ (by rfl) ?_ | refine hK _ _ _ ?_); (try simp only [keep, List.map, lk, reduceIte, Nat.reduceEqDiff, enter]); clear hK K)
    | (show WOpsT _ (⟨_, .ld _ _, none⟩ :: _) _ _ _ _; first | refine L.ld ?_ | refine L.ldd ?_ | refine L.ldn ?_ | refine L.lddn ?_)
    | (show WOpsT _ (⟨_, .idx _ _ _ _, none⟩ :: _) _ _ _ _; first | refine L.idx ?_ | refine L.idxs ?_)
    | (show WOpsT _ (⟨_, .bin _ _ _, none⟩ :: _) _ _ _ _; first | refine L.add ?_ | refine L.bin ?_)
    | (show WOpsT _ (⟨_, _, some (_, true)⟩ :: _) _ _ _ _; first | refine L.goT ?_ | refine L.paT ?_ | refine L.go ?_ | refine L.pass ?_ | refine T.pU rfl ?_ | refine T.gT rfl (fun hgd => ?_) (fun hgd => ?_))
    | (show WOpsT _ (⟨_, .pick _ _ _, none⟩ :: _) _ _ _ _; first | refine L.pkT ?_ | refine L.pkF ?_ | refine L.pickT ?_ | refine L.pickF ?_ | refine L.pickB ?_ | refine T.pkD rfl (fun hgd => ?_) (fun hgd => ?_))
    | (show AKW _ _ _ _ _ _ _; first | refine N.now ?_)
    | (show UK _ _ _ _ _ _ _ _; first | refine N.round ?_)
    | (show UC _ _ _ _ _ _ _ _; first | refine N.ucN ?_)
    | (show AK _ _ (.cond _ _ _) _ _ _ _; first | refine N.c1 ?_ | refine N.c2 ?_ | refine N.c3 ?_ | refine N.c4 ?_ | refine N.condD rfl (fun hcd => ?_) (fun hcd => ?_) | refine N.condB rfl (fun hcd => ?_) (fun hcd => ?_) | refine N.condU rfl ?_ ?_)
    | (show AK _ _ _ _ _ _ _; first | refine N.seq ?_ | refine N.block ?_ | refine N.skip ?_ | refine N.exit ?_ | refine N.ret ?_)
    | (show RK _ _ _ _ _ _ _; simp only [rk, rk0, reduceIte, Nat.reduceEqDiff])
    | (show WOpsT _ _ _ _ _ _; first | refine L.fad ?_ | refine L.fadd ?_ | refine L.st ?_ | refine L.new ?_ | refine L.zero ?_ | refine L.len ?_ | refine L.lenS ?_ | refine L.lenN ?_)
    | refine hQ _ _ _ rfl ?_
    | refine hQN _ _ _ rfl ?_)
    exact WS.nil
theorem doing_some (c : Cpu) (r : Nat → Int) (op a : Int) (b : Bool) (hl : c.ins.length ≤ 256) (x : Cyc) (hx : doingM c op a = some x) : FnE Try.prog 126 [.agg (cpC c), .agg (coA r op a b)] [] (.tup [.agg (cyC x), .c (.bool true)]) [] := by
  have hc := cycles_c c op hl
  unfold doingM at hx
  split at hx
  · cases hx
  rename_i hn
  obtain ⟨l, hle⟩ : ∃ l, cycM c op = l := ⟨_, rfl⟩
  rw [hle] at hc hx
  obtain ⟨hil, hxe⟩ := List.getElem?_eq_some_iff.1 hx
  have hm : (l.map cyC)[a.toNat]? = some (cyC x) := by rw [List.getElem?_map, hx]; rfl
  refine N.fn Try.func126 k126 lb q126 fun Q hQ hQN => ?_
  rw [c126]
  repeat' (first
  | rw [List.length_map]
  | (show WOpsT _ (⟨_, .idx _ _ _ _, none⟩ :: _) _ _ _ _; refine T.idxs rfl rfl rfl (by omega) hm ?_)
  | refine N.regS fun K hK => ?_
  | refine N.dregS fun K hK => ?_
  | refine N.regN fun K hK => ?_
  | refine N.dregN fun K hK => ?_
  | simp only [T.mv, sm, AO.ev, put, lk, enter, reduceIte, Nat.reduceEqDiff, Nat.reduceAdd, Nat.reduceMul, Nat.reduceSub, Int.reduceNeg, Int.reduceToNat, upto, renB, setAll]
  | (refine T.nil ?_; (first | refine hK _ _ _ (by rfl) ?_ | refine hK _ _ _ ?_); (try simp only [keep, List.map, lk, reduceIte, Nat.reduceEqDiff, enter]); clear hK K)
  | (show WOpsT _ (⟨_, .call _ _, none⟩ :: _) _ _ _ _; first | refine T.call0 e128 rfl (hc) ?_)
  | (show WOpsT _ (⟨_, .ld _ _, none⟩ :: _) _ _ _ _; first | refine L.ld ?_ | refine L.ldd ?_ | refine L.ldn ?_ | refine L.lddn ?_)
  | (show WOpsT _ (⟨_, .idx _ _ _ _, none⟩ :: _) _ _ _ _; first | refine L.idx ?_ | refine L.idxs ?_)
  | (show WOpsT _ (⟨_, .bin _ _ _, none⟩ :: _) _ _ _ _; first | refine L.bin ?_)
  | (show WOpsT _ (⟨_, _, some (_, false)⟩ :: _) _ _ _ _; first | refine L.goF ?_ | refine L.paF ?_ | refine L.go ?_ | refine L.pass ?_ | refine T.pU rfl ?_ | refine T.gF rfl (fun hgd => ?_) (fun hgd => ?_))
  | (show WOpsT _ (⟨_, .pick _ _ _, none⟩ :: _) _ _ _ _; first | refine L.pkT ?_ | refine L.pkF ?_ | refine L.pickT ?_ | refine L.pickF ?_ | refine L.pickB ?_ | refine T.pkD rfl (fun hgd => ?_) (fun hgd => ?_))
  | (show AKW _ _ _ _ _ _ _; first | refine N.now ?_)
  | (show UK _ _ _ _ _ _ _ _; first | refine N.round ?_)
  | (show UC _ _ _ _ _ _ _ _; first | refine N.ucN ?_)
  | (show AK _ _ (.cond _ _ _) _ _ _ _; first | refine N.c1 ?_ | refine N.c2 ?_ | refine N.c3 ?_ | refine N.c4 ?_ | refine N.condD rfl (fun hcd => ?_) (fun hcd => ?_) | refine N.condB rfl (fun hcd => ?_) (fun hcd => ?_) | refine N.condU rfl ?_ ?_)
  | (show AK _ _ _ _ _ _ _; first | refine N.seq ?_ | refine N.skip ?_ | refine N.ret ?_)
  | (show RK _ _ _ _ _ _ _; simp only [rk, rk0, reduceIte, Nat.reduceEqDiff])
  | (show WOpsT _ _ _ _ _ _; first | refine L.fad ?_ | refine L.fadd ?_ | refine L.st ?_ | refine L.new ?_ | refine L.zero ?_ | refine L.build ?_ | refine L.len ?_ | refine L.lenS ?_ | refine L.lenN ?_)
  | refine hQ _ _ _ rfl ?_
  | refine hQN _ _ _ rfl ?_)
  all_goals first
    | exact WS.drop (n := 0) rfl rfl
    | (exfalso; omega)
def cycZ : Cyc := ⟨0, 0, 0, []⟩
theorem doing_none (c : Cpu) (r : Nat → Int) (op a : Int) (b : Bool) (hl : c.ins.length ≤ 256) (hx : doingM c op a = none) : FnE Try.prog 126 [.agg (cpC c), .agg (coA r op a b)] [] (.tup [.agg (cyC cycZ), .c (.bool false)]) [] := by
  have hc := cycles_c c op hl
  have hx2 : op = -1 ∨ a < 0 ∨ ((cycM c op).length : Int) ≤ a := by
    unfold doingM at hx
    split at hx
    · omega
    · rename_i hn
      have := List.getElem?_eq_none_iff.1 hx
      omega
  obtain ⟨l, hle⟩ : ∃ l, cycM c op = l := ⟨_, rfl⟩
  rw [hle] at hc hx2
  have hz : Sub (.agg [I 0, I 0, I 0, .c (.slice none 0 0)]) (.agg (cyC cycZ)) := by
    refine .agg (Eq.refl _) fun i x y hx hy => ?_
    match i with
    | 0 => cases hx; cases hy; exact .rfl
    | 1 => cases hx; cases hy; exact .rfl
    | 2 => cases hx; cases hy; exact .rfl
    | 3 => cases hx; cases hy; exact .nil
    | i + 4 => cases hx
  refine N.fn Try.func126 k126 lb q126 fun Q hQ hQN => ?_
  rw [c126]
  repeat' (first
  | rw [List.length_map]
  | refine N.regS fun K hK => ?_
  | refine N.dregS fun K hK => ?_
  | refine N.regN fun K hK => ?_
  | refine N.dregN fun K hK => ?_
  | simp only [T.mv, sm, AO.ev, put, lk, enter, reduceIte, Nat.reduceEqDiff, Nat.reduceAdd, Nat.reduceMul, Nat.reduceSub, Int.reduceNeg, Int.reduceToNat, upto, renB, setAll]
  | (refine T.nil ?_; (first | refine hK _ _ _ (by rfl) ?_ | refine hK _ _ _ ?_); (try simp only [keep, List.map, lk, reduceIte, Nat.reduceEqDiff, enter]); clear hK K)
  | (show WOpsT _ (⟨_, .call _ _, none⟩ :: _) _ _ _ _; first | refine T.call0 e128 rfl (hc) ?_)
  | (show WOpsT _ (⟨_, .ld _ _, none⟩ :: _) _ _ _ _; first | refine L.ld ?_ | refine L.ldd ?_ | refine L.ldn ?_ | refine L.lddn ?_)
  | (show WOpsT _ (⟨_, .idx _ _ _ _, none⟩ :: _) _ _ _ _; first | refine L.idx ?_ | refine L.idxs ?_)
  | (show WOpsT _ (⟨_, .bin _ _ _, none⟩ :: _) _ _ _ _; first | refine L.bin ?_)
  | (show WOpsT _ (⟨_, _, some (_, false)⟩ :: _) _ _ _ _; first | refine L.goF ?_ | refine L.paF ?_ | refine L.go ?_ | refine L.pass ?_ | refine T.pU rfl ?_ | refine T.gF rfl (fun hgd => ?_) (fun hgd => ?_))
  | (show WOpsT _ (⟨_, .pick _ _ _, none⟩ :: _) _ _ _ _; first | refine L.pkT ?_ | refine L.pkF ?_ | refine L.pickT ?_ | refine L.pickF ?_ | refine L.pickB ?_ | refine T.pkD rfl (fun hgd => ?_) (fun hgd => ?_))
  | (show AKW _ _ _ _ _ _ _; first | refine N.now ?_)
  | (show UK _ _ _ _ _ _ _ _; first | refine N.round ?_)
  | (show UC _ _ _ _ _ _ _ _; first | refine N.ucN ?_)
  | (show AK _ _ (.cond _ _ _) _ _ _ _; first | refine N.c1 ?_ | refine N.c2 ?_ | refine N.c3 ?_ | refine N.c4 ?_ | refine N.condD rfl (fun hcd => ?_) (fun hcd => ?_) | refine N.condB rfl (fun hcd => ?_) (fun hcd => ?_) | refine N.condU rfl ?_ ?_)
  | (show AK _ _ _ _ _ _ _; first | refine N.seq ?_ | refine N.skip ?_ | refine N.ret ?_)
  | (show RK _ _ _ _ _ _ _; simp only [rk, rk0, reduceIte, Nat.reduceEqDiff])
  | (show WOpsT _ _ _ _ _ _; first | refine L.fad ?_ | refine L.fadd ?_ | refine L.st ?_ | refine L.new ?_ | refine L.zero ?_ | refine L.build ?_ | refine L.len ?_ | refine L.lenS ?_ | refine L.lenN ?_)
  | refine hQ _ _ _ rfl ?_
  | refine hQN _ _ _ rfl ?_)
  all_goals first
    | exact WS.gc [] 1 rfl rfl (Sub.tup2 hz .rfl)
    | (exfalso; omega)
theorem low16 (v : Int) : FnE Try.prog 35 [I v, I 16] [] (I (v % 65536)) [] := low_lit v 16 16 rfl (by decide)
theorem fixed_c (a : Int) (ha : 6 ≤ a ∧ a < 12) : FnE Try.prog 170 [I a] [] (I (fixM a)) [] := by
  have : a = 6 ∨ a = 7 ∨ a = 8 ∨ a = 9 ∨ a = 10 ∨ a = 11 := by omega
  rcases this with rfl | rfl | rfl | rfl | rfl | rfl
  all_goals
    refine N.fn Try.func170 k170 lb q170 fun Q hQ hQN => ?_
    rw [c170]
    repeat' (first
    | refine N.regS fun K hK => ?_
    | refine N.dregS fun K hK => ?_
    | refine N.regN fun K hK => ?_
    | refine N.dregN fun K hK => ?_
    | simp only [T.mv, sm, AO.ev, put, lk, enter, reduceIte, Nat.reduceEqDiff, Nat.reduceAdd, Nat.reduceMul, Nat.reduceSub, Int.reduceNeg, Int.reduceToNat, upto, renB, setAll]
    | (refine T.nil ?_; (first | refine hK _ _ _ (by rfl) ?_ | refine hK _ _ _ ?_); (try simp only [keep, List.map, lk, reduceIte, Nat.reduceEqDiff, enter]); clear hK K)
    | (show WOpsT _ (⟨_, .ld _ _, none⟩ :: _) _ _ _ _; first | refine L.ld ?_ | refine L.ldd ?_)
    | (show WOpsT _ (⟨_, .idx _ _ _ _, none⟩ :: _) _ _ _ _; first | refine L.idx ?_ | refine L.idxs ?_)
    | (show WOpsT _ (⟨_, .bin _ _ _, none⟩ :: _) _ _ _ _; first | refine L.sub ?_ | refine L.bin ?_)
    | (show AKW _ _ _ _ _ _ _; first | refine N.now ?_)
    | (show UK _ _ _ _ _ _ _ _; first | refine N.round ?_)
    | (show UC _ _ _ _ _ _ _ _; first | refine N.ucN ?_)
    | (show AK _ _ _ _ _ _ _; first | refine N.seq ?_ | refine N.ret ?_)
    | (show RK _ _ _ _ _ _ _; simp only [rk, rk0, reduceIte, Nat.reduceEqDiff])
    | (show WOpsT _ _ _ _ _ _; first | refine L.bsl ?_)
    | refine hQ _ _ _ rfl ?_
    | refine hQN _ _ _ rfl ?_)
    exact WS.c rfl rfl
theorem place_c (a : Int) (r : Nat → Int) (hr : Fits r) : FnE Try.prog 130 [I a, .agg (ri r)] [] (.tup [I (placeM a r).1, .agg (ri (placeM a r).2)]) [] := by
  have r7 := hr 7 (by decide)
  have r8 := hr 8 (by decide)
  have r3 := hr 3 (by decide)
  simp at r7 r8 r3
  unfold placeM
  refine N.fn Try.func130 k130 lb q130 fun Q hQ hQN => ?_
  rw [c130]
  by_cases h0 : a = 0
  · subst h0
    repeat' (first
    | rw [ri_spl _ _ _ (by decide)]
    | refine N.regS fun K hK => ?_
    | refine N.dregS fun K hK => ?_
    | refine N.regN fun K hK => ?_
    | refine N.dregN fun K hK => ?_
    | simp only [T.mv, sm, AO.ev, put, lk, enter, reduceIte, Nat.reduceEqDiff, Nat.reduceAdd, Nat.reduceMul, Nat.reduceSub, Int.reduceNeg, Int.reduceToNat, upto, renB, setAll]
    | (refine T.nil ?_; (first | refine hK _ _ _ (by rfl) ?_ | refine hK _ _ _ ?_); (try simp only [keep, List.map, lk, reduceIte, Nat.reduceEqDiff, enter]); clear hK K)
    | (show WOpsT _ (⟨_, .call _ _, none⟩ :: _) _ _ _ _; first | refine T.call0 e35 rfl (low16 _) ?_ | refine T.call0 e35 rfl (low8 _) ?_)
    | (show WOpsT _ (⟨_, .ld _ _, none⟩ :: _) _ _ _ _; first | refine L.ld ?_ | refine L.ldd ?_ | refine L.ldn ?_ | refine L.lddn ?_)
    | (show WOpsT _ (⟨_, .idx _ _ _ _, none⟩ :: _) _ _ _ _; first | refine L.idxa ?_ | refine L.idxd ?_)
    | (show WOpsT _ (⟨_, .bin _ _ _, none⟩ :: _) _ _ _ _; first | refine L.add ?_ | refine L.sub ?_ | refine L.bin ?_)
    | (show WOpsT _ (⟨_, _, some (_, false)⟩ :: _) _ _ _ _; first | refine L.goF ?_ | refine L.paF ?_ | refine L.go ?_ | refine L.pass ?_ | refine T.pU rfl ?_ | refine T.gF rfl (fun hgd => ?_) (fun hgd => ?_))
    | (show WOpsT _ (⟨_, .pick _ _ _, none⟩ :: _) _ _ _ _; first | refine L.pkT ?_ | refine L.pkF ?_ | refine L.pickT ?_ | refine L.pickF ?_ | refine L.pickB ?_ | refine T.pkD rfl (fun hgd => ?_) (fun hgd => ?_))
    | (show AKW _ _ _ _ _ _ _; first | refine N.now ?_)
    | (show UK _ _ _ _ _ _ _ _; first | refine N.round ?_)
    | (show UC _ _ _ _ _ _ _ _; first | refine N.ucN ?_)
    | (show AK _ _ (.cond _ _ _) _ _ _ _; first | refine N.c1 ?_ | refine N.c2 ?_ | refine N.c3 ?_ | refine N.c4 ?_ | refine N.condD rfl (fun hcd => ?_) (fun hcd => ?_) | refine N.condB rfl (fun hcd => ?_) (fun hcd => ?_) | refine N.condU rfl ?_ ?_)
    | (show AK _ _ _ _ _ _ _; first | refine N.seq ?_ | refine N.block ?_ | refine N.skip ?_ | refine N.ret ?_)
    | (show RK _ _ _ _ _ _ _; simp only [rk, rk0, reduceIte, Nat.reduceEqDiff])
    | (show WOpsT _ _ _ _ _ _; first | refine L.st ?_ | refine L.new ?_ | refine L.zero ?_)
    | refine hQ _ _ _ rfl ?_
    | refine hQN _ _ _ rfl ?_)
    exact WS.drop (n := 0) rfl rfl
  by_cases h1 : a = 1
  · subst h1
    repeat' (first
    | refine N.regS fun K hK => ?_
    | refine N.dregS fun K hK => ?_
    | refine N.regN fun K hK => ?_
    | refine N.dregN fun K hK => ?_
    | simp only [T.mv, sm, AO.ev, put, lk, enter, reduceIte, Nat.reduceEqDiff, Nat.reduceAdd, Nat.reduceMul, Nat.reduceSub, Int.reduceNeg, Int.reduceToNat, upto, renB, setAll]
    | (refine T.nil ?_; (first | refine hK _ _ _ (by rfl) ?_ | refine hK _ _ _ ?_); (try simp only [keep, List.map, lk, reduceIte, Nat.reduceEqDiff, enter]); clear hK K)
    | (show WOpsT _ (⟨_, .ld _ _, none⟩ :: _) _ _ _ _; first | refine L.ld ?_ | refine L.ldd ?_ | refine L.ldn ?_ | refine L.lddn ?_)
    | (show WOpsT _ (⟨_, .idx _ _ _ _, none⟩ :: _) _ _ _ _; first | refine L.idxa ?_ | refine L.idxd ?_)
    | (show WOpsT _ (⟨_, .bin _ _ _, none⟩ :: _) _ _ _ _; first | refine L.add ?_ | refine L.sub ?_ | refine L.bin ?_)
    | (show WOpsT _ (⟨_, _, some (_, false)⟩ :: _) _ _ _ _; first | refine L.goF ?_ | refine L.paF ?_ | refine L.go ?_ | refine L.pass ?_ | refine T.pU rfl ?_ | refine T.gF rfl (fun hgd => ?_) (fun hgd => ?_))
    | (show WOpsT _ (⟨_, .pick _ _ _, none⟩ :: _) _ _ _ _; first | refine L.pkT ?_ | refine L.pkF ?_ | refine L.pickT ?_ | refine L.pickF ?_ | refine L.pickB ?_ | refine T.pkD rfl (fun hgd => ?_) (fun hgd => ?_))
    | (show AKW _ _ _ _ _ _ _; first | refine N.now ?_)
    | (show UK _ _ _ _ _ _ _ _; first | refine N.round ?_)
    | (show UC _ _ _ _ _ _ _ _; first | refine N.ucN ?_)
    | (show AK _ _ (.cond _ _ _) _ _ _ _; first | refine N.c1 ?_ | refine N.c2 ?_ | refine N.c3 ?_ | refine N.c4 ?_ | refine N.condD rfl (fun hcd => ?_) (fun hcd => ?_) | refine N.condB rfl (fun hcd => ?_) (fun hcd => ?_) | refine N.condU rfl ?_ ?_)
    | (show AK _ _ _ _ _ _ _; first | refine N.seq ?_ | refine N.block ?_ | refine N.skip ?_ | refine N.ret ?_)
    | (show RK _ _ _ _ _ _ _; simp only [rk, rk0, reduceIte, Nat.reduceEqDiff])
    | (show WOpsT _ _ _ _ _ _; first | refine L.st ?_ | refine L.new ?_ | refine L.zero ?_)
    | refine hQ _ _ _ rfl ?_
    | refine hQN _ _ _ rfl ?_)
    exact WS.drop (n := 0) rfl rfl
  by_cases h2 : a = 2
  · subst h2
    repeat' (first
    | refine N.regS fun K hK => ?_
    | refine N.dregS fun K hK => ?_
    | refine N.regN fun K hK => ?_
    | refine N.dregN fun K hK => ?_
    | simp only [T.mv, sm, AO.ev, put, lk, enter, reduceIte, Nat.reduceEqDiff, Nat.reduceAdd, Nat.reduceMul, Nat.reduceSub, Int.reduceNeg, Int.reduceToNat, upto, renB, setAll]
    | (refine T.nil ?_; (first | refine hK _ _ _ (by rfl) ?_ | refine hK _ _ _ ?_); (try simp only [keep, List.map, lk, reduceIte, Nat.reduceEqDiff, enter]); clear hK K)
    | (show WOpsT _ (⟨_, .ld _ _, none⟩ :: _) _ _ _ _; first | refine L.ld ?_ | refine L.ldd ?_ | refine L.ldn ?_ | refine L.lddn ?_)
    | (show WOpsT _ (⟨_, .idx _ _ _ _, none⟩ :: _) _ _ _ _; first | refine L.idxa ?_ | refine L.idxd ?_)
    | (show WOpsT _ (⟨_, .bin _ _ _, none⟩ :: _) _ _ _ _; first | refine L.add ?_ | refine L.sub ?_ | refine L.bin ?_)
    | (show WOpsT _ (⟨_, _, some (_, false)⟩ :: _) _ _ _ _; first | refine L.goF ?_ | refine L.paF ?_ | refine L.go ?_ | refine L.pass ?_ | refine T.pU rfl ?_ | refine T.gF rfl (fun hgd => ?_) (fun hgd => ?_))
    | (show WOpsT _ (⟨_, .pick _ _ _, none⟩ :: _) _ _ _ _; first | refine L.pkT ?_ | refine L.pkF ?_ | refine L.pickT ?_ | refine L.pickF ?_ | refine L.pickB ?_ | refine T.pkD rfl (fun hgd => ?_) (fun hgd => ?_))
    | (show AKW _ _ _ _ _ _ _; first | refine N.now ?_)
    | (show UK _ _ _ _ _ _ _ _; first | refine N.round ?_)
    | (show UC _ _ _ _ _ _ _ _; first | refine N.ucN ?_)
    | (show AK _ _ (.cond _ _ _) _ _ _ _; first | refine N.c1 ?_ | refine N.c2 ?_ | refine N.c3 ?_ | refine N.c4 ?_ | refine N.condD rfl (fun hcd => ?_) (fun hcd => ?_) | refine N.condB rfl (fun hcd => ?_) (fun hcd => ?_) | refine N.condU rfl ?_ ?_)
    | (show AK _ _ _ _ _ _ _; first | refine N.seq ?_ | refine N.block ?_ | refine N.skip ?_ | refine N.ret ?_)
    | (show RK _ _ _ _ _ _ _; simp only [rk, rk0, reduceIte, Nat.reduceEqDiff])
    | (show WOpsT _ _ _ _ _ _; first | refine L.st ?_ | refine L.new ?_ | refine L.zero ?_)
    | refine hQ _ _ _ rfl ?_
    | refine hQN _ _ _ rfl ?_)
    exact WS.drop (n := 0) rfl rfl
  by_cases h3 : a = 3
  · subst h3
    repeat' (first
    | rw [ri_spl _ _ _ (by decide)]
    | refine N.regS fun K hK => ?_
    | refine N.dregS fun K hK => ?_
    | refine N.regN fun K hK => ?_
    | refine N.dregN fun K hK => ?_
    | simp only [T.mv, sm, AO.ev, put, lk, enter, reduceIte, Nat.reduceEqDiff, Nat.reduceAdd, Nat.reduceMul, Nat.reduceSub, Int.reduceNeg, Int.reduceToNat, upto, renB, setAll]
    | (refine T.nil ?_; (first | refine hK _ _ _ (by rfl) ?_ | refine hK _ _ _ ?_); (try simp only [keep, List.map, lk, reduceIte, Nat.reduceEqDiff, enter]); clear hK K)
    | (show WOpsT _ (⟨_, .call _ _, none⟩ :: _) _ _ _ _; first | refine T.call0 e35 rfl (low16 _) ?_ | refine T.call0 e35 rfl (low8 _) ?_)
    | (show WOpsT _ (⟨_, .ld _ _, none⟩ :: _) _ _ _ _; first | refine L.ld ?_ | refine L.ldd ?_ | refine L.ldn ?_ | refine L.lddn ?_)
    | (show WOpsT _ (⟨_, .idx _ _ _ _, none⟩ :: _) _ _ _ _; first | refine L.idxa ?_ | refine L.idxd ?_)
    | (show WOpsT _ (⟨_, .bin _ _ _, none⟩ :: _) _ _ _ _; first | refine L.add ?_ | refine L.sub ?_ | refine L.bin ?_)
    | (show WOpsT _ (⟨_, _, some (_, false)⟩ :: _) _ _ _ _; first | refine L.goF ?_ | refine L.paF ?_ | refine L.go ?_ | refine L.pass ?_ | refine T.pU rfl ?_ | refine T.gF rfl (fun hgd => ?_) (fun hgd => ?_))
    | (show WOpsT _ (⟨_, .pick _ _ _, none⟩ :: _) _ _ _ _; first | refine L.pkT ?_ | refine L.pkF ?_ | refine L.pickT ?_ | refine L.pickF ?_ | refine L.pickB ?_ | refine T.pkD rfl (fun hgd => ?_) (fun hgd => ?_))
    | (show AKW _ _ _ _ _ _ _; first | refine N.now ?_)
    | (show UK _ _ _ _ _ _ _ _; first | refine N.round ?_)
    | (show UC _ _ _ _ _ _ _ _; first | refine N.ucN ?_)
    | (show AK _ _ (.cond _ _ _) _ _ _ _; first | refine N.c1 ?_ | refine N.c2 ?_ | refine N.c3 ?_ | refine N.c4 ?_ | refine N.condD rfl (fun hcd => ?_) (fun hcd => ?_) | refine N.condB rfl (fun hcd => ?_) (fun hcd => ?_) | refine N.condU rfl ?_ ?_)
    | (show AK _ _ _ _ _ _ _; first | refine N.seq ?_ | refine N.block ?_ | refine N.skip ?_ | refine N.ret ?_)
    | (show RK _ _ _ _ _ _ _; simp only [rk, rk0, reduceIte, Nat.reduceEqDiff])
    | (show WOpsT _ _ _ _ _ _; first | refine L.st ?_ | refine L.new ?_ | refine L.zero ?_)
    | refine hQ _ _ _ rfl ?_
    | refine hQN _ _ _ rfl ?_)
    exact WS.drop (n := 0) rfl rfl
  by_cases h4 : a = 4
  · subst h4
    repeat' (first
    | rw [ri_spl _ _ _ (by decide)]
    | refine N.regS fun K hK => ?_
    | refine N.dregS fun K hK => ?_
    | refine N.regN fun K hK => ?_
    | refine N.dregN fun K hK => ?_
    | simp only [T.mv, sm, AO.ev, put, lk, enter, reduceIte, Nat.reduceEqDiff, Nat.reduceAdd, Nat.reduceMul, Nat.reduceSub, Int.reduceNeg, Int.reduceToNat, upto, renB, setAll]
    | (refine T.nil ?_; (first | refine hK _ _ _ (by rfl) ?_ | refine hK _ _ _ ?_); (try simp only [keep, List.map, lk, reduceIte, Nat.reduceEqDiff, enter]); clear hK K)
    | (show WOpsT _ (⟨_, .call _ _, none⟩ :: _) _ _ _ _; first | refine T.call0 e35 rfl (low16 _) ?_ | refine T.call0 e35 rfl (low8 _) ?_)
    | (show WOpsT _ (⟨_, .ld _ _, none⟩ :: _) _ _ _ _; first | refine L.ld ?_ | refine L.ldd ?_ | refine L.ldn ?_ | refine L.lddn ?_)
    | (show WOpsT _ (⟨_, .idx _ _ _ _, none⟩ :: _) _ _ _ _; first | refine L.idxa ?_ | refine L.idxd ?_)
    | (show WOpsT _ (⟨_, .bin _ _ _, none⟩ :: _) _ _ _ _; first | refine L.add ?_ | refine L.sub ?_ | refine L.bin ?_)
    | (show WOpsT _ (⟨_, _, some (_, false)⟩ :: _) _ _ _ _; first | refine L.goF ?_ | refine L.paF ?_ | refine L.go ?_ | refine L.pass ?_ | refine T.pU rfl ?_ | refine T.gF rfl (fun hgd => ?_) (fun hgd => ?_))
    | (show WOpsT _ (⟨_, .pick _ _ _, none⟩ :: _) _ _ _ _; first | refine L.pkT ?_ | refine L.pkF ?_ | refine L.pickT ?_ | refine L.pickF ?_ | refine L.pickB ?_ | refine T.pkD rfl (fun hgd => ?_) (fun hgd => ?_))
    | (show AKW _ _ _ _ _ _ _; first | refine N.now ?_)
    | (show UK _ _ _ _ _ _ _ _; first | refine N.round ?_)
    | (show UC _ _ _ _ _ _ _ _; first | refine N.ucN ?_)
    | (show AK _ _ (.cond _ _ _) _ _ _ _; first | refine N.c1 ?_ | refine N.c2 ?_ | refine N.c3 ?_ | refine N.c4 ?_ | refine N.condD rfl (fun hcd => ?_) (fun hcd => ?_) | refine N.condB rfl (fun hcd => ?_) (fun hcd => ?_) | refine N.condU rfl ?_ ?_)
    | (show AK _ _ _ _ _ _ _; first | refine N.seq ?_ | refine N.block ?_ | refine N.skip ?_ | refine N.ret ?_)
    | (show RK _ _ _ _ _ _ _; simp only [rk, rk0, reduceIte, Nat.reduceEqDiff])
    | (show WOpsT _ _ _ _ _ _; first | refine L.st ?_ | refine L.new ?_ | refine L.zero ?_)
    | refine hQ _ _ _ rfl ?_
    | refine hQN _ _ _ rfl ?_)
    exact WS.drop (n := 0) rfl rfl
  by_cases h5 : a = 5
  · subst h5
    repeat' (first
    | rw [show upd r 3 ((r 3 + 1) % 256) 3 = (r 3 + 1) % 256 from rfl]
    | rw [ri_spl _ _ _ (by decide)]
    | refine N.regS fun K hK => ?_
    | refine N.dregS fun K hK => ?_
    | refine N.regN fun K hK => ?_
    | refine N.dregN fun K hK => ?_
    | simp only [T.mv, sm, AO.ev, put, lk, enter, reduceIte, Nat.reduceEqDiff, Nat.reduceAdd, Nat.reduceMul, Nat.reduceSub, Int.reduceNeg, Int.reduceToNat, upto, renB, setAll]
    | (refine T.nil ?_; (first | refine hK _ _ _ (by rfl) ?_ | refine hK _ _ _ ?_); (try simp only [keep, List.map, lk, reduceIte, Nat.reduceEqDiff, enter]); clear hK K)
    | (show WOpsT _ (⟨_, .call _ _, none⟩ :: _) _ _ _ _; first | refine T.call0 e35 rfl (low16 _) ?_ | refine T.call0 e35 rfl (low8 _) ?_)
    | (show WOpsT _ (⟨_, .ld _ _, none⟩ :: _) _ _ _ _; first | refine L.ld ?_ | refine L.ldd ?_ | refine L.ldn ?_ | refine L.lddn ?_)
    | (show WOpsT _ (⟨_, .idx _ _ _ _, none⟩ :: _) _ _ _ _; first | refine L.idxa ?_ | refine L.idxd ?_)
    | (show WOpsT _ (⟨_, .bin _ _ _, none⟩ :: _) _ _ _ _; first | refine L.add ?_ | refine L.sub ?_ | refine L.bin ?_)
    | (show WOpsT _ (⟨_, _, some (_, false)⟩ :: _) _ _ _ _; first | refine L.goF ?_ | refine L.paF ?_ | refine L.go ?_ | refine L.pass ?_ | refine T.pU rfl ?_ | refine T.gF rfl (fun hgd => ?_) (fun hgd => ?_))
    | (show WOpsT _ (⟨_, .pick _ _ _, none⟩ :: _) _ _ _ _; first | refine L.pkT ?_ | refine L.pkF ?_ | refine L.pickT ?_ | refine L.pickF ?_ | refine L.pickB ?_ | refine T.pkD rfl (fun hgd => ?_) (fun hgd => ?_))
    | (show AKW _ _ _ _ _ _ _; first | refine N.now ?_)
    | (show UK _ _ _ _ _ _ _ _; first | refine N.round ?_)
    | (show UC _ _ _ _ _ _ _ _; first | refine N.ucN ?_)
    | (show AK _ _ (.cond _ _ _) _ _ _ _; first | refine N.c1 ?_ | refine N.c2 ?_ | refine N.c3 ?_ | refine N.c4 ?_ | refine N.condD rfl (fun hcd => ?_) (fun hcd => ?_) | refine N.condB rfl (fun hcd => ?_) (fun hcd => ?_) | refine N.condU rfl ?_ ?_)
    | (show AK _ _ _ _ _ _ _; first | refine N.seq ?_ | refine N.block ?_ | refine N.skip ?_ | refine N.ret ?_)
    | (show RK _ _ _ _ _ _ _; simp only [rk, rk0, reduceIte, Nat.reduceEqDiff])
    | (show WOpsT _ _ _ _ _ _; first | refine L.st ?_ | refine L.new ?_ | refine L.zero ?_)
    | refine hQ _ _ _ rfl ?_
    | refine hQN _ _ _ rfl ?_)
    exact WS.drop (n := 0) rfl rfl
  rw [if_neg h0, if_neg h1, if_neg h2, if_neg h3, if_neg h4, if_neg h5] at hQ hQN
  by_cases h6 : a < 0 ∨ 12 ≤ a
  · rw [if_pos h6] at hQ hQN
    repeat' (first
    | refine N.regS fun K hK => ?_
    | refine N.dregS fun K hK => ?_
    | refine N.regN fun K hK => ?_
    | refine N.dregN fun K hK => ?_
    | simp only [T.mv, sm, AO.ev, put, lk, enter, reduceIte, Nat.reduceEqDiff, Nat.reduceAdd, Nat.reduceMul, Nat.reduceSub, Int.reduceNeg, Int.reduceToNat, upto, renB, setAll]
    | (refine T.nil ?_; (first | refine hK _ _ _ (by rfl) ?_ | refine hK _ _ _ ?_); (try simp only [keep, List.map, lk, reduceIte, Nat.reduceEqDiff, enter]); clear hK K)
    | (show WOpsT _ (⟨_, .ld _ _, none⟩ :: _) _ _ _ _; first | refine L.ld ?_ | refine L.ldd ?_ | refine L.ldn ?_ | refine L.lddn ?_)
    | (show WOpsT _ (⟨_, .idx _ _ _ _, none⟩ :: _) _ _ _ _; first | refine L.idxa ?_ | refine L.idxd ?_)
    | (show WOpsT _ (⟨_, .bin _ _ _, none⟩ :: _) _ _ _ _; first | refine L.add ?_ | refine L.sub ?_ | refine L.bin ?_)
    | (show WOpsT _ (⟨_, _, some (_, false)⟩ :: _) _ _ _ _; first | refine L.goF ?_ | refine L.paF ?_ | refine L.go ?_ | refine L.pass ?_ | refine T.pU rfl ?_ | refine T.gF rfl (fun hgd => ?_) (fun hgd => ?_))
    | (show WOpsT _ (⟨_, .pick _ _ _, none⟩ :: _) _ _ _ _; first | refine L.pkT ?_ | refine L.pkF ?_ | refine L.pickT ?_ | refine L.pickF ?_ | refine L.pickB ?_ | refine T.pkD rfl (fun hgd => ?_) (fun hgd => ?_))
    | (show AKW _ _ _ _ _ _ _; first | refine N.now ?_)
    | (show UK _ _ _ _ _ _ _ _; first | refine N.round ?_)
    | (show UC _ _ _ _ _ _ _ _; first | refine N.ucN ?_)
    | (show AK _ _ (.cond _ _ _) _ _ _ _; first | refine N.c1 ?_ | refine N.c2 ?_ | refine N.c3 ?_ | refine N.c4 ?_ | refine N.condD rfl (fun hcd => ?_) (fun hcd => ?_) | refine N.condB rfl (fun hcd => ?_) (fun hcd => ?_) | refine N.condU rfl ?_ ?_)
    | (show AK _ _ _ _ _ _ _; first | refine N.seq ?_ | refine N.block ?_ | refine N.skip ?_ | refine N.ret ?_)
    | (show RK _ _ _ _ _ _ _; simp only [rk, rk0, reduceIte, Nat.reduceEqDiff])
    | (show WOpsT _ _ _ _ _ _; first | refine L.st ?_ | refine L.new ?_ | refine L.zero ?_)
    | refine hQ _ _ _ rfl ?_
    | refine hQN _ _ _ rfl ?_)
    all_goals first
      | exact WS.drop (n := 0) rfl rfl
      | (exfalso; omega)
  · rw [if_neg h6] at hQ hQN
    have hf := fixed_c a (by omega)
    repeat' (first
    | refine N.regS fun K hK => ?_
    | refine N.dregS fun K hK => ?_
    | refine N.regN fun K hK => ?_
    | refine N.dregN fun K hK => ?_
    | simp only [T.mv, sm, AO.ev, put, lk, enter, reduceIte, Nat.reduceEqDiff, Nat.reduceAdd, Nat.reduceMul, Nat.reduceSub, Int.reduceNeg, Int.reduceToNat, upto, renB, setAll]
    | (refine T.nil ?_; (first | refine hK _ _ _ (by rfl) ?_ | refine hK _ _ _ ?_); (try simp only [keep, List.map, lk, reduceIte, Nat.reduceEqDiff, enter]); clear hK K)
    | (show WOpsT _ (⟨_, .call _ _, none⟩ :: _) _ _ _ _; first | refine T.call0 e170 rfl (hf) ?_)
    | (show WOpsT _ (⟨_, .ld _ _, none⟩ :: _) _ _ _ _; first | refine L.ld ?_ | refine L.ldd ?_ | refine L.ldn ?_ | refine L.lddn ?_)
    | (show WOpsT _ (⟨_, .idx _ _ _ _, none⟩ :: _) _ _ _ _; first | refine L.idxa ?_ | refine L.idxd ?_)
    | (show WOpsT _ (⟨_, .bin _ _ _, none⟩ :: _) _ _ _ _; first | refine L.add ?_ | refine L.sub ?_ | refine L.bin ?_)
    | (show WOpsT _ (⟨_, _, some (_, false)⟩ :: _) _ _ _ _; first | refine L.goF ?_ | refine L.paF ?_ | refine L.go ?_ | refine L.pass ?_ | refine T.pU rfl ?_ | refine T.gF rfl (fun hgd => ?_) (fun hgd => ?_))
    | (show WOpsT _ (⟨_, .pick _ _ _, none⟩ :: _) _ _ _ _; first | refine L.pkT ?_ | refine L.pkF ?_ | refine L.pickT ?_ | refine L.pickF ?_ | refine L.pickB ?_ | refine T.pkD rfl (fun hgd => ?_) (fun hgd => ?_))
    | (show AKW _ _ _ _ _ _ _; first | refine N.now ?_)
    | (show UK _ _ _ _ _ _ _ _; first | refine N.round ?_)
    | (show UC _ _ _ _ _ _ _ _; first | refine N.ucN ?_)
    | (show AK _ _ (.cond _ _ _) _ _ _ _; first | refine N.c1 ?_ | refine N.c2 ?_ | refine N.c3 ?_ | refine N.c4 ?_ | refine N.condD rfl (fun hcd => ?_) (fun hcd => ?_) | refine N.condB rfl (fun hcd => ?_) (fun hcd => ?_) | refine N.condU rfl ?_ ?_)
    | (show AK _ _ _ _ _ _ _; first | refine N.seq ?_ | refine N.block ?_ | refine N.skip ?_ | refine N.ret ?_)
    | (show RK _ _ _ _ _ _ _; simp only [rk, rk0, reduceIte, Nat.reduceEqDiff])
    | (show WOpsT _ _ _ _ _ _; first | refine L.st ?_ | refine L.new ?_ | refine L.zero ?_)
    | refine hQ _ _ _ rfl ?_
    | refine hQN _ _ _ rfl ?_)
    all_goals first
      | exact WS.drop (n := 0) rfl rfl
      | (exfalso; omega)
theorem ended_c (c : Cpu) (r : Nat → Int) (op a : Int) (b : Bool) : FnE Try.prog 127 [.agg (cpC c), .agg (coA r op a b)] [] (.agg (if op = 259 then coA r op a b else coA r (-1) 0 b)) [] := by
  refine N.fn Try.func127 k127 lb q127 fun Q hQ hQN => ?_
  rw [c127]
  by_cases h : op = 259
  · rw [if_pos h] at hQ hQN
    repeat' (first
    | refine N.regS fun K hK => ?_
    | refine N.dregS fun K hK => ?_
    | refine N.regN fun K hK => ?_
    | refine N.dregN fun K hK => ?_
    | simp only [T.mv, sm, AO.ev, put, lk, enter, reduceIte, Nat.reduceEqDiff, Nat.reduceAdd, Nat.reduceMul, Nat.reduceSub, Int.reduceNeg, Int.reduceToNat, upto, renB, setAll]
    | (refine T.nil ?_; (first | refine hK _ _ _ (by rfl) ?_ | refine hK _ _ _ ?_); (try simp only [keep, List.map, lk, reduceIte, Nat.reduceEqDiff, enter]); clear hK K)
    | (show WOpsT _ (⟨_, .ld _ _, none⟩ :: _) _ _ _ _; first | refine L.ld ?_ | refine L.ldd ?_ | refine L.ldn ?_ | refine L.lddn ?_)
    | (show WOpsT _ (⟨_, .bin _ _ _, none⟩ :: _) _ _ _ _; first | refine L.bin ?_)
    | (show AKW _ _ _ _ _ _ _; first | refine N.now ?_)
    | (show UK _ _ _ _ _ _ _ _; first | refine N.round ?_)
    | (show UC _ _ _ _ _ _ _ _; first | refine N.ucN ?_)
    | (show AK _ _ (.cond _ _ _) _ _ _ _; first | refine N.c1 ?_ | refine N.c2 ?_ | refine N.c3 ?_ | refine N.c4 ?_ | refine N.condD rfl (fun hcd => ?_) (fun hcd => ?_) | refine N.condB rfl (fun hcd => ?_) (fun hcd => ?_) | refine N.condU rfl ?_ ?_)
    | (show AK _ _ _ _ _ _ _; first | refine N.seq ?_ | refine N.skip ?_ | refine N.ret ?_)
    | (show RK _ _ _ _ _ _ _; simp only [rk, rk0, reduceIte, Nat.reduceEqDiff])
    | (show WOpsT _ _ _ _ _ _; first | refine L.fad ?_ | refine L.fadd ?_ | refine L.st ?_ | refine L.new ?_ | refine L.zero ?_)
    | refine hQ _ _ _ rfl ?_
    | refine hQN _ _ _ rfl ?_)
    all_goals first
      | exact WS.drop (n := 0) rfl rfl
      | (exfalso; omega)
  · rw [if_neg h] at hQ hQN
    repeat' (first
    | rw [co_op]
    | rw [co_at]
    | refine N.regS fun K hK => ?_
    | refine N.dregS fun K hK => ?_
    | refine N.regN fun K hK => ?_
    | refine N.dregN fun K hK => ?_
    | simp only [T.mv, sm, AO.ev, put, lk, enter, reduceIte, Nat.reduceEqDiff, Nat.reduceAdd, Nat.reduceMul, Nat.reduceSub, Int.reduceNeg, Int.reduceToNat, upto, renB, setAll]
    | (refine T.nil ?_; (first | refine hK _ _ _ (by rfl) ?_ | refine hK _ _ _ ?_); (try simp only [keep, List.map, lk, reduceIte, Nat.reduceEqDiff, enter]); clear hK K)
    | (show WOpsT _ (⟨_, .ld _ _, none⟩ :: _) _ _ _ _; first | refine L.ld ?_ | refine L.ldd ?_ | refine L.ldn ?_ | refine L.lddn ?_)
    | (show WOpsT _ (⟨_, .bin _ _ _, none⟩ :: _) _ _ _ _; first | refine L.bin ?_)
    | (show AKW _ _ _ _ _ _ _; first | refine N.now ?_)
    | (show UK _ _ _ _ _ _ _ _; first | refine N.round ?_)
    | (show UC _ _ _ _ _ _ _ _; first | refine N.ucN ?_)
    | (show AK _ _ (.cond _ _ _) _ _ _ _; first | refine N.c1 ?_ | refine N.c2 ?_ | refine N.c3 ?_ | refine N.c4 ?_ | refine N.condD rfl (fun hcd => ?_) (fun hcd => ?_) | refine N.condB rfl (fun hcd => ?_) (fun hcd => ?_) | refine N.condU rfl ?_ ?_)
    | (show AK _ _ _ _ _ _ _; first | refine N.seq ?_ | refine N.skip ?_ | refine N.ret ?_)
    | (show RK _ _ _ _ _ _ _; simp only [rk, rk0, reduceIte, Nat.reduceEqDiff])
    | (show WOpsT _ _ _ _ _ _; first | refine L.fad ?_ | refine L.fadd ?_ | refine L.st ?_ | refine L.new ?_ | refine L.zero ?_)
    | refine hQ _ _ _ rfl ?_
    | refine hQN _ _ _ rfl ?_)
    all_goals first
      | exact WS.drop (n := 0) rfl rfl
      | (exfalso; omega)
def zeroR : Nat → Int := fun _ => 0
theorem coreNew_ok : FnE Try.prog 81 [] [] (.agg (coA (upd zeroR 4 4) 258 0 false)) [] := by
  refine N.fn Try.func81 k81 lb q81 fun Q hQ hQN => ?_
  rw [c81]
  repeat' (first
  | refine N.regS fun K hK => ?_
  | refine N.dregS fun K hK => ?_
  | refine N.regN fun K hK => ?_
  | refine N.dregN fun K hK => ?_
  | simp only [T.mv, sm, AO.ev, put, lk, enter, reduceIte, Nat.reduceEqDiff, Nat.reduceAdd, Nat.reduceMul, Nat.reduceSub, Int.reduceNeg, Int.reduceToNat, upto, renB, setAll]
  | (refine T.nil ?_; (first | refine hK _ _ _ (by rfl) ?_ | refine hK _ _ _ ?_); (try simp only [keep, List.map, lk, reduceIte, Nat.reduceEqDiff, enter]); clear hK K)
  | (show WOpsT _ (⟨_, .ld _ _, none⟩ :: _) _ _ _ _; first | refine L.ldn ?_ | refine L.lddn ?_)
  | (show WOpsT _ (⟨_, .idx _ _ _ _, none⟩ :: _) _ _ _ _; first | refine L.idxa ?_ | refine L.idxd ?_)
  | (show AKW _ _ _ _ _ _ _; first | refine N.now ?_)
  | (show UK _ _ _ _ _ _ _ _; first | refine N.round ?_)
  | (show UC _ _ _ _ _ _ _ _; first | refine N.ucN ?_)
  | (show AK _ _ _ _ _ _ _; first | refine N.seq ?_ | refine N.ret ?_)
  | (show RK _ _ _ _ _ _ _; simp only [rk, rk0, reduceIte, Nat.reduceEqDiff])
  | (show WOpsT _ _ _ _ _ _; first | refine L.fad ?_ | refine L.fadd ?_ | refine L.st ?_ | refine L.zero ?_ | refine L.build ?_)
  | refine hQ _ _ _ rfl ?_
  | refine hQN _ _ _ rfl ?_)
  exact WS.drop (n := 0) rfl rfl
theorem start_c (c : Cpu) (k : Core) (irq : Bool) (hl : c.ins.length ≤ 256) : FnE Try.prog 129 [.agg (cpC c), .agg (coC k), .c (.bool irq)] [] (.agg (coC (startM c k irq))) [] := by
  obtain ⟨r, op, a, nmi⟩ := k
  have c7 : FnE Try.prog 128 [.agg (cpC c), I 257] [] (.sl 4 (c.nmi.map cyC)) [] := cycles_c c 257 hl
  have c6 : FnE Try.prog 128 [.agg (cpC c), I 256] [] (.sl 4 (c.irq.map cyC)) [] := cycles_c c 256 hl
  unfold startM
  dsimp only [coC]
  by_cases h1 : nmi = true ∧ 0 < c.nmi.length
  · rw [if_pos h1]
    obtain ⟨rfl, h1⟩ := h1
    refine N.fn Try.func129 k129 lb q129 fun Q hQ hQN => ?_
    rw [c129]
    repeat' (first
    | (show AK _ _ (.loop _) _ _ _ _; refine N.unroll 3 ?_)
    | rw [List.length_map]
    | rw [co_op]
    | rw [co_at]
    | rw [co_nmi]
    | rw [co_mren]
    | rw [co_co]
    | rw [co_t12]
    | rw [co_t9]
    | rw [ri_t9]
    | rw [cp_t5]
    | rw [co_z]
    | refine N.regS fun K hK => ?_
    | refine N.dregS fun K hK => ?_
    | refine N.regN fun K hK => ?_
    | refine N.dregN fun K hK => ?_
    | simp only [T.mv, sm, AO.ev, put, lk, enter, reduceIte, Nat.reduceEqDiff, Nat.reduceAdd, Nat.reduceMul, Nat.reduceSub, Int.reduceNeg, Int.reduceToNat, upto, renB, setAll]
    | (refine T.nil ?_; (first | refine hK _ _ _ (by rfl) ?_ | refine hK _ _ _ ?_); (try simp only [keep, List.map, lk, reduceIte, Nat.reduceEqDiff, enter]); clear hK K)
    | (show WOpsT _ (⟨_, .call _ _, none⟩ :: _) _ _ _ _; first | refine T.call0 e128 rfl (c7) ?_ | refine T.call0 e128 rfl (c6) ?_)
    | (show WOpsT _ (⟨_, .ld _ _, none⟩ :: _) _ _ _ _; first | refine L.ld ?_ | refine L.ldd ?_ | refine L.ldn ?_ | refine L.lddn ?_)
    | (show WOpsT _ (⟨_, .idx _ _ _ _, none⟩ :: _) _ _ _ _; first | refine L.idx ?_ | refine L.idxs ?_ | refine L.idxa ?_ | refine L.idxd ?_)
    | (show WOpsT _ (⟨_, .bin _ _ _, none⟩ :: _) _ _ _ _; first | refine L.add ?_ | refine L.bin ?_)
    | (show WOpsT _ (⟨_, _, some (_, true)⟩ :: _) _ _ _ _; first | refine L.goT ?_ | refine L.paT ?_ | refine L.go ?_ | refine L.pass ?_ | refine T.pU rfl ?_ | refine T.gT rfl (fun hgd => ?_) (fun hgd => ?_))
    | (show WOpsT _ (⟨_, .pick _ _ _, none⟩ :: _) _ _ _ _; first | refine L.pkT ?_ | refine L.pkF ?_ | refine L.pickT ?_ | refine L.pickF ?_ | refine L.pickB ?_ | refine T.pkD rfl (fun hgd => ?_) (fun hgd => ?_))
    | (show AKW _ _ _ _ _ _ _; first | refine N.now ?_)
    | (show UK _ _ _ _ _ _ _ _; first | refine N.round ?_)
    | (show UC _ _ _ _ _ _ _ _; first | refine N.ucN ?_)
    | (show AK _ _ (.cond _ _ _) _ _ _ _; first | refine N.c1 ?_ | refine N.c2 ?_ | refine N.c3 ?_ | refine N.c4 ?_ | refine N.condD rfl (fun hcd => ?_) (fun hcd => ?_) | refine N.condB rfl (fun hcd => ?_) (fun hcd => ?_) | refine N.condU rfl ?_ ?_)
    | (show AK _ _ _ _ _ _ _; first | refine N.seq ?_ | refine N.block ?_ | refine N.skip ?_ | refine N.exit ?_ | refine N.ret ?_)
    | (show RK _ _ _ _ _ _ _; simp only [rk, rk0, reduceIte, Nat.reduceEqDiff])
    | (show WOpsT _ _ _ _ _ _; first | refine L.fad ?_ | refine L.fadd ?_ | refine L.st ?_ | refine L.new ?_ | refine L.zero ?_ | refine L.len ?_ | refine L.lenS ?_ | refine L.lenN ?_ | refine L.bsl ?_)
    | refine hQ _ _ _ rfl ?_
    | refine hQN _ _ _ rfl ?_)
    all_goals first
      | exact WS.drop (n := 0) rfl rfl
      | (exfalso; omega)
  rw [if_neg h1]
  by_cases h2 : irq = true ∧ bits .and .i64 (r 4) 4 = 0 ∧ 0 < c.irq.length
  · rw [if_pos h2]
    obtain ⟨rfl, h2, h3⟩ := h2
    cases nmi
    · skip
      refine N.fn Try.func129 k129 lb q129 fun Q hQ hQN => ?_
      rw [c129]
      repeat' (first
      | (show AK _ _ (.loop _) _ _ _ _; refine N.unroll 3 ?_)
      | rw [List.length_map]
      | rw [co_op]
      | rw [co_at]
      | rw [co_nmi]
      | rw [co_mren]
      | rw [co_co]
      | rw [co_t12]
      | rw [co_t9]
      | rw [ri_t9]
      | rw [cp_t5]
      | rw [co_z]
      | refine N.regS fun K hK => ?_
      | refine N.dregS fun K hK => ?_
      | refine N.regN fun K hK => ?_
      | refine N.dregN fun K hK => ?_
      | simp only [T.mv, sm, AO.ev, put, lk, enter, reduceIte, Nat.reduceEqDiff, Nat.reduceAdd, Nat.reduceMul, Nat.reduceSub, Int.reduceNeg, Int.reduceToNat, upto, renB, setAll]
      | (refine T.nil ?_; (first | refine hK _ _ _ (by rfl) ?_ | refine hK _ _ _ ?_); (try simp only [keep, List.map, lk, reduceIte, Nat.reduceEqDiff, enter]); clear hK K)
      | (show WOpsT _ (⟨_, .call _ _, none⟩ :: _) _ _ _ _; first | refine T.call0 e128 rfl (c7) ?_ | refine T.call0 e128 rfl (c6) ?_)
      | (show WOpsT _ (⟨_, .ld _ _, none⟩ :: _) _ _ _ _; first | refine L.ld ?_ | refine L.ldd ?_ | refine L.ldn ?_ | refine L.lddn ?_)
      | (show WOpsT _ (⟨_, .idx _ _ _ _, none⟩ :: _) _ _ _ _; first | refine L.idx ?_ | refine L.idxs ?_ | refine L.idxa ?_ | refine L.idxd ?_)
      | (show WOpsT _ (⟨_, .bin _ _ _, none⟩ :: _) _ _ _ _; first | refine L.add ?_ | refine L.bin ?_)
      | (show WOpsT _ (⟨_, _, some (_, true)⟩ :: _) _ _ _ _; first | refine L.goT ?_ | refine L.paT ?_ | refine L.go ?_ | refine L.pass ?_ | refine T.pU rfl ?_ | refine T.gT rfl (fun hgd => ?_) (fun hgd => ?_))
      | (show WOpsT _ (⟨_, .pick _ _ _, none⟩ :: _) _ _ _ _; first | refine L.pkT ?_ | refine L.pkF ?_ | refine L.pickT ?_ | refine L.pickF ?_ | refine L.pickB ?_ | refine T.pkD rfl (fun hgd => ?_) (fun hgd => ?_))
      | (show AKW _ _ _ _ _ _ _; first | refine N.now ?_)
      | (show UK _ _ _ _ _ _ _ _; first | refine N.round ?_)
      | (show UC _ _ _ _ _ _ _ _; first | refine N.ucN ?_)
      | (show AK _ _ (.cond _ _ _) _ _ _ _; first | refine N.c1 ?_ | refine N.c2 ?_ | refine N.c3 ?_ | refine N.c4 ?_ | refine N.condD rfl (fun hcd => ?_) (fun hcd => ?_) | refine N.condB rfl (fun hcd => ?_) (fun hcd => ?_) | refine N.condU rfl ?_ ?_)
      | (show AK _ _ _ _ _ _ _; first | refine N.seq ?_ | refine N.block ?_ | refine N.skip ?_ | refine N.exit ?_ | refine N.ret ?_)
      | (show RK _ _ _ _ _ _ _; simp only [rk, rk0, reduceIte, Nat.reduceEqDiff])
      | (show WOpsT _ _ _ _ _ _; first | refine L.fad ?_ | refine L.fadd ?_ | refine L.st ?_ | refine L.new ?_ | refine L.zero ?_ | refine L.len ?_ | refine L.lenS ?_ | refine L.lenN ?_ | refine L.bsl ?_)
      | refine hQ _ _ _ rfl ?_
      | refine hQN _ _ _ rfl ?_)
      all_goals first
        | exact WS.drop (n := 0) rfl rfl
        | (exfalso; omega)
        | (exfalso; contradiction)
    · have h1 : ¬ 0 < c.nmi.length := fun h => h1 ⟨rfl, h⟩
      refine N.fn Try.func129 k129 lb q129 fun Q hQ hQN => ?_
      rw [c129]
      repeat' (first
      | (show AK _ _ (.loop _) _ _ _ _; refine N.unroll 3 ?_)
      | rw [List.length_map]
      | rw [co_op]
      | rw [co_at]
      | rw [co_nmi]
      | rw [co_mren]
      | rw [co_co]
      | rw [co_t12]
      | rw [co_t9]
      | rw [ri_t9]
      | rw [cp_t5]
      | rw [co_z]
      | refine N.regS fun K hK => ?_
      | refine N.dregS fun K hK => ?_
      | refine N.regN fun K hK => ?_
      | refine N.dregN fun K hK => ?_
      | simp only [T.mv, sm, AO.ev, put, lk, enter, reduceIte, Nat.reduceEqDiff, Nat.reduceAdd, Nat.reduceMul, Nat.reduceSub, Int.reduceNeg, Int.reduceToNat, upto, renB, setAll]
      | (refine T.nil ?_; (first | refine hK _ _ _ (by rfl) ?_ | refine hK _ _ _ ?_); (try simp only [keep, List.map, lk, reduceIte, Nat.reduceEqDiff, enter]); clear hK K)
      | (show WOpsT _ (⟨_, .call _ _, none⟩ :: _) _ _ _ _; first | refine T.call0 e128 rfl (c7) ?_ | refine T.call0 e128 rfl (c6) ?_)
      | (show WOpsT _ (⟨_, .ld _ _, none⟩ :: _) _ _ _ _; first | refine L.ld ?_ | refine L.ldd ?_ | refine L.ldn ?_ | refine L.lddn ?_)
      | (show WOpsT _ (⟨_, .idx _ _ _ _, none⟩ :: _) _ _ _ _; first | refine L.idx ?_ | refine L.idxs ?_ | refine L.idxa ?_ | refine L.idxd ?_)
      | (show WOpsT _ (⟨_, .bin _ _ _, none⟩ :: _) _ _ _ _; first | refine L.add ?_ | refine L.bin ?_)
      | (show WOpsT _ (⟨_, _, some (_, true)⟩ :: _) _ _ _ _; first | refine L.goT ?_ | refine L.paT ?_ | refine L.go ?_ | refine L.pass ?_ | refine T.pU rfl ?_ | refine T.gT rfl (fun hgd => ?_) (fun hgd => ?_))
      | (show WOpsT _ (⟨_, .pick _ _ _, none⟩ :: _) _ _ _ _; first | refine L.pkT ?_ | refine L.pkF ?_ | refine L.pickT ?_ | refine L.pickF ?_ | refine L.pickB ?_ | refine T.pkD rfl (fun hgd => ?_) (fun hgd => ?_))
      | (show AKW _ _ _ _ _ _ _; first | refine N.now ?_)
      | (show UK _ _ _ _ _ _ _ _; first | refine N.round ?_)
      | (show UC _ _ _ _ _ _ _ _; first | refine N.ucN ?_)
      | (show AK _ _ (.cond _ _ _) _ _ _ _; first | refine N.c1 ?_ | refine N.c2 ?_ | refine N.c3 ?_ | refine N.c4 ?_ | refine N.condD rfl (fun hcd => ?_) (fun hcd => ?_) | refine N.condB rfl (fun hcd => ?_) (fun hcd => ?_) | refine N.condU rfl ?_ ?_)
      | (show AK _ _ _ _ _ _ _; first | refine N.seq ?_ | refine N.block ?_ | refine N.skip ?_ | refine N.exit ?_ | refine N.ret ?_)
      | (show RK _ _ _ _ _ _ _; simp only [rk, rk0, reduceIte, Nat.reduceEqDiff])
      | (show WOpsT _ _ _ _ _ _; first | refine L.fad ?_ | refine L.fadd ?_ | refine L.st ?_ | refine L.new ?_ | refine L.zero ?_ | refine L.len ?_ | refine L.lenS ?_ | refine L.lenN ?_ | refine L.bsl ?_)
      | refine hQ _ _ _ rfl ?_
      | refine hQN _ _ _ rfl ?_)
      all_goals first
        | exact WS.drop (n := 0) rfl rfl
        | (exfalso; omega)
        | (exfalso; contradiction)
  · rw [if_neg h2]
    cases nmi <;> cases irq
    all_goals
      refine N.fn Try.func129 k129 lb q129 fun Q hQ hQN => ?_
      rw [c129]
      repeat' (first
      | (show AK _ _ (.loop _) _ _ _ _; refine N.unroll 3 ?_)
      | rw [List.length_map]
      | rw [co_op]
      | rw [co_at]
      | rw [co_nmi]
      | rw [co_mren]
      | rw [co_co]
      | rw [co_t12]
      | rw [co_t9]
      | rw [ri_t9]
      | rw [cp_t5]
      | rw [co_z]
      | refine N.regS fun K hK => ?_
      | refine N.dregS fun K hK => ?_
      | refine N.regN fun K hK => ?_
      | refine N.dregN fun K hK => ?_
      | simp only [T.mv, sm, AO.ev, put, lk, enter, reduceIte, Nat.reduceEqDiff, Nat.reduceAdd, Nat.reduceMul, Nat.reduceSub, Int.reduceNeg, Int.reduceToNat, upto, renB, setAll]
      | (refine T.nil ?_; (first | refine hK _ _ _ (by rfl) ?_ | refine hK _ _ _ ?_); (try simp only [keep, List.map, lk, reduceIte, Nat.reduceEqDiff, enter]); clear hK K)
      | (show WOpsT _ (⟨_, .call _ _, none⟩ :: _) _ _ _ _; first | refine T.call0 e128 rfl (c7) ?_ | refine T.call0 e128 rfl (c6) ?_)
      | (show WOpsT _ (⟨_, .ld _ _, none⟩ :: _) _ _ _ _; first | refine L.ld ?_ | refine L.ldd ?_ | refine L.ldn ?_ | refine L.lddn ?_)
      | (show WOpsT _ (⟨_, .idx _ _ _ _, none⟩ :: _) _ _ _ _; first | refine L.idx ?_ | refine L.idxs ?_ | refine L.idxa ?_ | refine L.idxd ?_)
      | (show WOpsT _ (⟨_, .bin _ _ _, none⟩ :: _) _ _ _ _; first | refine L.add ?_ | refine L.bin ?_)
      | (show WOpsT _ (⟨_, _, some (_, true)⟩ :: _) _ _ _ _; first | refine L.goT ?_ | refine L.paT ?_ | refine L.go ?_ | refine L.pass ?_ | refine T.pU rfl ?_ | refine T.gT rfl (fun hgd => ?_) (fun hgd => ?_))
      | (show WOpsT _ (⟨_, .pick _ _ _, none⟩ :: _) _ _ _ _; first | refine L.pkT ?_ | refine L.pkF ?_ | refine L.pickT ?_ | refine L.pickF ?_ | refine L.pickB ?_ | refine T.pkD rfl (fun hgd => ?_) (fun hgd => ?_))
      | (show AKW _ _ _ _ _ _ _; first | refine N.now ?_)
      | (show UK _ _ _ _ _ _ _ _; first | refine N.round ?_)
      | (show UC _ _ _ _ _ _ _ _; first | refine N.ucN ?_)
      | (show AK _ _ (.cond _ _ _) _ _ _ _; first | refine N.c1 ?_ | refine N.c2 ?_ | refine N.c3 ?_ | refine N.c4 ?_ | refine N.condD rfl (fun hcd => ?_) (fun hcd => ?_) | refine N.condB rfl (fun hcd => ?_) (fun hcd => ?_) | refine N.condU rfl ?_ ?_)
      | (show AK _ _ _ _ _ _ _; first | refine N.seq ?_ | refine N.block ?_ | refine N.skip ?_ | refine N.exit ?_ | refine N.ret ?_)
      | (show RK _ _ _ _ _ _ _; simp only [rk, rk0, reduceIte, Nat.reduceEqDiff])
      | (show WOpsT _ _ _ _ _ _; first | refine L.fad ?_ | refine L.fadd ?_ | refine L.st ?_ | refine L.new ?_ | refine L.zero ?_ | refine L.len ?_ | refine L.lenS ?_ | refine L.lenN ?_ | refine L.bsl ?_)
      | refine hQ _ _ _ rfl ?_
      | refine hQN _ _ _ rfl ?_)
      all_goals first
        | exact WS.drop (n := 0) rfl rfl
        | (exfalso; omega)
        | (exfalso; simp_all; done)
        | trace_state
end Go.Proofs.Ytjmmompbmjhkpaa.Calc

namespace Go.Proofs.Ytjmmompbmjhkpaa.Calc
open Go Code
set_option linter.unusedSimpArgs false
set_option linter.unusedVariables false
set_option maxRecDepth 20000
set_option maxHeartbeats 4000000
attribute [local irreducible] WOpsT AW AK RK AKW UK UC
theorem co_get (r : Nat → Int) (op a : Int) (b : Bool) (k : Nat) (hk : k < 9) : (coA r op a b)[k]? = some (I (r k)) := by
  match k, hk with
  | 0, _ => rfl
  | 1, _ => rfl
  | 2, _ => rfl
  | 3, _ => rfl
  | 4, _ => rfl
  | 5, _ => rfl
  | 6, _ => rfl
  | 7, _ => rfl
  | 8, _ => rfl
theorem co_reg (r : Nat → Int) (op a v : Int) (b : Bool) (k : Nat) (hk : k < 9) : spl (coA r op a b) k [I v] = coA (upd r k v) op a b := by
  match k, hk with
  | 0, _ => rfl
  | 1, _ => rfl
  | 2, _ => rfl
  | 3, _ => rfl
  | 4, _ => rfl
  | 5, _ => rfl
  | 6, _ => rfl
  | 7, _ => rfl
  | 8, _ => rfl
theorem startM_r (c : Cpu) (k : Core) (irq : Bool) : (startM c k irq).r = k.r := by
  unfold startM; (repeat' split) <;> rfl
theorem ask_c (c : Cpu) (k : Core) (irq : Bool) (hl : c.ins.length ≤ 256) : FnE Try.prog 71 [.agg (cpC c), .agg (coC k), .c (.bool irq)] [] (.tup [.agg (coC (askM c k irq).1), .agg (buC (askM c k irq).2)]) [] := by
  obtain ⟨r, op, a, nmi⟩ := k
  have hfit := Fit_ok r
  have hfr := fitR_fits r
  have hs : op = -1 → FnE Try.prog 129 [.agg (cpC c), .agg (coA (fitR r) op a nmi), .c (.bool irq)] [] (.agg (coC (askA c ⟨r, op, a, nmi⟩ irq))) [] := by
    intro h
    have := start_c c ⟨fitR r, op, a, nmi⟩ irq hl
    unfold askA; rw [if_pos h]; exact this
  have hno : op ≠ -1 → askA c ⟨r, op, a, nmi⟩ irq = ⟨fitR r, op, a, nmi⟩ := by
    intro h
    unfold askA; rw [if_neg h]
  have hr2 : (askA c ⟨r, op, a, nmi⟩ irq).r = fitR r := by
    unfold askA; split
    · exact startM_r _ _ _
    · rfl
  unfold askM
  generalize askA c ⟨r, op, a, nmi⟩ irq = k2 at *
  generalize fitR r = q at *
  obtain ⟨q', op2, a2, n2⟩ := k2
  dsimp only at hr2
  subst hr2
  unfold coC at hs
  dsimp only at hs
  have hpl : ∀ at_, ∃ ad q2, placeM at_ q' = (ad, q2) ∧ FnE Try.prog 130 [I at_, .agg (ri q')] [] (.tup [I ad, .agg (ri q2)]) [] := fun at_ => ⟨_, _, rfl, place_c at_ _ hfr⟩
  dsimp only [coC, buC]
  by_cases h1 : op = -1
  · have hs := hs h1
    subst h1
    by_cases h2 : op2 = -1
    · subst h2
      obtain ⟨ad, q2, e1, hp⟩ := hpl 0
      rw [show askB c ⟨q', -1, a2, n2⟩ = (⟨q2, -1, a2, n2⟩, ⟨1, ad, 0⟩) by unfold askB; dsimp only; rw [if_pos rfl, e1]]
      dsimp only
      clear hpl e1 hno hfr
      refine N.fn Try.func71 k71 lb q71 fun Q hQ hQN => ?_
      rw [c71]
      repeat' (first
      | rw [co_mren]
      | rw [co_co]
      | rw [co_t12]
      | rw [co_t9]
      | rw [ri_t9]
      | rw [cp_t5]
      | rw [co_z]
      | rw [ri_mren]
      | rw [co_r]
      | rw [co_op]
      | rw [co_at]
      | rw [co_nmi]
      | rw [ri_splz]
      | refine N.regS fun K hK => ?_
      | refine N.dregS fun K hK => ?_
      | refine N.regN fun K hK => ?_
      | refine N.dregN fun K hK => ?_
      | simp only [T.mv, sm, AO.ev, put, lk, enter, reduceIte, Nat.reduceEqDiff, Nat.reduceAdd, Nat.reduceMul, Nat.reduceSub, Int.reduceNeg, Int.reduceToNat, upto, renB, setAll]
      | (refine T.nil ?_; (first | refine hK _ _ _ (by rfl) ?_ | refine hK _ _ _ ?_); (try simp only [keep, List.map, lk, reduceIte, Nat.reduceEqDiff, enter]); clear hK K)
      | (show WOpsT _ (⟨_, .call _ _, none⟩ :: _) _ _ _ _; first | refine T.call0 e57 rfl (hfit) ?_ | refine T.call0 e129 rfl (hs) ?_ | refine T.call0 e130 rfl (hp) ?_)
      | (show WOpsT _ (⟨_, .ld _ _, none⟩ :: _) _ _ _ _; first | refine L.ld ?_ | refine L.ldd ?_ | refine L.ldn ?_ | refine L.lddn ?_)
      | (show WOpsT _ (⟨_, .idx _ _ _ _, none⟩ :: _) _ _ _ _; first | refine L.idxa ?_ | refine L.idxd ?_)
      | (show WOpsT _ (⟨_, .bin _ _ _, none⟩ :: _) _ _ _ _; first | refine L.bin ?_)
      | (show WOpsT _ (⟨_, _, some (_, true)⟩ :: _) _ _ _ _; first | refine L.goT ?_ | refine L.paT ?_ | refine L.go ?_ | refine L.pass ?_ | refine T.pU rfl ?_ | refine T.gT rfl (fun hgd => ?_) (fun hgd => ?_))
      | (show WOpsT _ (⟨_, _, some (_, false)⟩ :: _) _ _ _ _; first | refine L.goF ?_ | refine L.paF ?_ | refine L.go ?_ | refine L.pass ?_ | refine T.pU rfl ?_ | refine T.gF rfl (fun hgd => ?_) (fun hgd => ?_))
      | (show WOpsT _ (⟨_, .pick _ _ _, none⟩ :: _) _ _ _ _; first | refine L.pkT ?_ | refine L.pkF ?_ | refine L.pickT ?_ | refine L.pickF ?_ | refine L.pickB ?_ | refine T.pkD rfl (fun hgd => ?_) (fun hgd => ?_))
      | (show AKW _ _ _ _ _ _ _; first | refine N.now ?_)
      | (show AK _ _ (.cond _ _ _) _ _ _ _; first | refine N.c1 ?_ | refine N.c2 ?_ | refine N.c3 ?_ | refine N.c4 ?_ | refine N.condD rfl (fun hcd => ?_) (fun hcd => ?_) | refine N.condB rfl (fun hcd => ?_) (fun hcd => ?_) | refine N.condU rfl ?_ ?_)
      | (show AK _ _ _ _ _ _ _; first | refine N.seq ?_ | refine N.skip ?_ | refine N.ret ?_)
      | (show RK _ _ _ _ _ _ _; simp only [rk, rk0, reduceIte, Nat.reduceEqDiff])
      | (show WOpsT _ _ _ _ _ _; first | refine L.ext ?_ | refine T.notD rfl ?_ | refine T.not rfl ?_ | refine L.fad ?_ | refine L.fadd ?_ | refine L.st ?_ | refine L.new ?_ | refine L.zero ?_ | refine L.build ?_)
      | refine hQ _ _ _ rfl ?_
      | refine hQN _ _ _ rfl ?_)
      exact WS.drop (n := 0) rfl rfl
    · skip
      cases hd : doingM c op2 a2 with
      | none =>
        have hdo := doing_none c q' op2 a2 n2 hl hd
        rw [show askB c ⟨q', op2, a2, n2⟩ = (⟨q', op2, a2, n2⟩, ⟨0, 0, 0⟩) by unfold askB; dsimp only; rw [if_neg h2, hd]]
        dsimp only
        clear hpl hno hfr
        refine N.fn Try.func71 k71 lb q71 fun Q hQ hQN => ?_
        rw [c71]
        repeat' (first
        | rw [co_mren]
        | rw [co_co]
        | rw [co_t12]
        | rw [co_t9]
        | rw [ri_t9]
        | rw [cp_t5]
        | rw [co_z]
        | rw [ri_mren]
        | rw [co_r]
        | rw [co_op]
        | rw [co_at]
        | rw [co_nmi]
        | refine N.regS fun K hK => ?_
        | refine N.dregS fun K hK => ?_
        | refine N.regN fun K hK => ?_
        | refine N.dregN fun K hK => ?_
        | simp only [T.mv, sm, AO.ev, put, lk, enter, reduceIte, Nat.reduceEqDiff, Nat.reduceAdd, Nat.reduceMul, Nat.reduceSub, Int.reduceNeg, Int.reduceToNat, upto, renB, setAll]
        | (refine T.nil ?_; (first | refine hK _ _ _ (by rfl) ?_ | refine hK _ _ _ ?_); (try simp only [keep, List.map, lk, reduceIte, Nat.reduceEqDiff, enter]); clear hK K)
        | (show WOpsT _ (⟨_, .call _ _, none⟩ :: _) _ _ _ _; first | refine T.call0 e57 rfl (hfit) ?_ | refine T.call0 e129 rfl (hs) ?_ | refine T.call0 e126 rfl (hdo) ?_)
        | (show WOpsT _ (⟨_, .ld _ _, none⟩ :: _) _ _ _ _; first | refine L.ld ?_ | refine L.ldd ?_ | refine L.ldn ?_ | refine L.lddn ?_)
        | (show WOpsT _ (⟨_, .idx _ _ _ _, none⟩ :: _) _ _ _ _; first | refine L.idxa ?_ | refine L.idxd ?_)
        | (show WOpsT _ (⟨_, .bin _ _ _, none⟩ :: _) _ _ _ _; first | refine L.bin ?_)
        | (show WOpsT _ (⟨_, _, some (_, true)⟩ :: _) _ _ _ _; first | refine L.goT ?_ | refine L.paT ?_ | refine L.go ?_ | refine L.pass ?_ | refine T.pU rfl ?_ | refine T.gT rfl (fun hgd => ?_) (fun hgd => ?_))
        | (show WOpsT _ (⟨_, _, some (_, false)⟩ :: _) _ _ _ _; first | refine L.goF ?_ | refine L.paF ?_ | refine L.go ?_ | refine L.pass ?_ | refine T.pU rfl ?_ | refine T.gF rfl (fun hgd => ?_) (fun hgd => ?_))
        | (show WOpsT _ (⟨_, .pick _ _ _, none⟩ :: _) _ _ _ _; first | refine L.pkT ?_ | refine L.pkF ?_ | refine L.pickT ?_ | refine L.pickF ?_ | refine L.pickB ?_ | refine T.pkD rfl (fun hgd => ?_) (fun hgd => ?_))
        | (show AKW _ _ _ _ _ _ _; first | refine N.now ?_)
        | (show AK _ _ (.cond _ _ _) _ _ _ _; first | refine N.c1 ?_ | refine N.c2 ?_ | refine N.c3 ?_ | refine N.c4 ?_ | refine N.condD rfl (fun hcd => ?_) (fun hcd => ?_) | refine N.condB rfl (fun hcd => ?_) (fun hcd => ?_) | refine N.condU rfl ?_ ?_)
        | (show AK _ _ _ _ _ _ _; first | refine N.seq ?_ | refine N.skip ?_ | refine N.ret ?_)
        | (show RK _ _ _ _ _ _ _; simp only [rk, rk0, reduceIte, Nat.reduceEqDiff])
        | (show WOpsT _ _ _ _ _ _; first | refine L.ext ?_ | refine T.notD rfl ?_ | refine T.not rfl ?_ | refine L.fad ?_ | refine L.fadd ?_ | refine L.st ?_ | refine L.new ?_ | refine L.zero ?_ | refine L.build ?_)
        | refine hQ _ _ _ rfl ?_
        | refine hQN _ _ _ rfl ?_)
        all_goals first
          | exact WS.drop (n := 0) rfl rfl
          | (exfalso; omega)
      | some x =>
        have hdo := doing_some c q' op2 a2 n2 hl x hd
        obtain ⟨xb, xa, xr, xs⟩ := x
        by_cases hb0 : xb = 0
        · rw [show askB c ⟨q', op2, a2, n2⟩ = (⟨q', op2, a2, n2⟩, ⟨0, 0, 0⟩) by unfold askB; dsimp only; rw [if_neg h2, hd]; dsimp only; rw [if_pos hb0]]
          dsimp only
          clear hpl hno hfr hd
          subst hb0
          refine N.fn Try.func71 k71 lb q71 fun Q hQ hQN => ?_
          rw [c71]
          repeat' (first
          | rw [co_mren]
          | rw [co_co]
          | rw [co_t12]
          | rw [co_t9]
          | rw [ri_t9]
          | rw [cp_t5]
          | rw [co_z]
          | rw [ri_mren]
          | rw [co_r]
          | rw [co_op]
          | rw [co_at]
          | rw [co_nmi]
          | refine N.regS fun K hK => ?_
          | refine N.dregS fun K hK => ?_
          | refine N.regN fun K hK => ?_
          | refine N.dregN fun K hK => ?_
          | simp only [T.mv, sm, AO.ev, put, lk, enter, reduceIte, Nat.reduceEqDiff, Nat.reduceAdd, Nat.reduceMul, Nat.reduceSub, Int.reduceNeg, Int.reduceToNat, upto, renB, setAll]
          | (refine T.nil ?_; (first | refine hK _ _ _ (by rfl) ?_ | refine hK _ _ _ ?_); (try simp only [keep, List.map, lk, reduceIte, Nat.reduceEqDiff, enter]); clear hK K)
          | (show WOpsT _ (⟨_, .call _ _, none⟩ :: _) _ _ _ _; first | refine T.call0 e57 rfl (hfit) ?_ | refine T.call0 e129 rfl (hs) ?_ | refine T.call0 e126 rfl (hdo) ?_)
          | (show WOpsT _ (⟨_, .ld _ _, none⟩ :: _) _ _ _ _; first | refine L.ld ?_ | refine L.ldd ?_ | refine L.ldn ?_ | refine L.lddn ?_)
          | (show WOpsT _ (⟨_, .idx _ _ _ _, none⟩ :: _) _ _ _ _; first | refine L.idxa ?_ | refine L.idxd ?_)
          | (show WOpsT _ (⟨_, .bin _ _ _, none⟩ :: _) _ _ _ _; first | refine L.bin ?_)
          | (show WOpsT _ (⟨_, _, some (_, true)⟩ :: _) _ _ _ _; first | refine L.goT ?_ | refine L.paT ?_ | refine L.go ?_ | refine L.pass ?_ | refine T.pU rfl ?_ | refine T.gT rfl (fun hgd => ?_) (fun hgd => ?_))
          | (show WOpsT _ (⟨_, _, some (_, false)⟩ :: _) _ _ _ _; first | refine L.goF ?_ | refine L.paF ?_ | refine L.go ?_ | refine L.pass ?_ | refine T.pU rfl ?_ | refine T.gF rfl (fun hgd => ?_) (fun hgd => ?_))
          | (show WOpsT _ (⟨_, .pick _ _ _, none⟩ :: _) _ _ _ _; first | refine L.pkT ?_ | refine L.pkF ?_ | refine L.pickT ?_ | refine L.pickF ?_ | refine L.pickB ?_ | refine T.pkD rfl (fun hgd => ?_) (fun hgd => ?_))
          | (show AKW _ _ _ _ _ _ _; first | refine N.now ?_)
          | (show AK _ _ (.cond _ _ _) _ _ _ _; first | refine N.c1 ?_ | refine N.c2 ?_ | refine N.c3 ?_ | refine N.c4 ?_ | refine N.condD rfl (fun hcd => ?_) (fun hcd => ?_) | refine N.condB rfl (fun hcd => ?_) (fun hcd => ?_) | refine N.condU rfl ?_ ?_)
          | (show AK _ _ _ _ _ _ _; first | refine N.seq ?_ | refine N.skip ?_ | refine N.ret ?_)
          | (show RK _ _ _ _ _ _ _; simp only [rk, rk0, reduceIte, Nat.reduceEqDiff])
          | (show WOpsT _ _ _ _ _ _; first | refine L.ext ?_ | refine T.notD rfl ?_ | refine T.not rfl ?_ | refine L.fad ?_ | refine L.fadd ?_ | refine L.st ?_ | refine L.new ?_ | refine L.zero ?_ | refine L.build ?_)
          | refine hQ _ _ _ rfl ?_
          | refine hQN _ _ _ rfl ?_)
          all_goals first
            | exact WS.drop (n := 0) rfl rfl
            | (exfalso; omega)
        obtain ⟨ad, q2, e1, hp⟩ := hpl xa
        rw [show askB c ⟨q', op2, a2, n2⟩ = (⟨q2, op2, a2, n2⟩, ⟨xb, ad, dataM ⟨xb, xa, xr, xs⟩ q'⟩) by unfold askB; dsimp only; rw [if_neg h2, hd]; dsimp only; rw [if_neg hb0, e1]]
        dsimp only
        clear hpl hno hfr hd e1
        unfold dataM
        dsimp only
        by_cases hw : xb = 2 ∧ 0 ≤ xr ∧ xr < 9
        · rw [if_pos hw]
          have e5 : 0 + xr.toNat * 1 = xr.toNat := by omega
          have hx9 : xr.toNat < 9 := by omega
          refine N.fn Try.func71 k71 lb q71 fun Q hQ hQN => ?_
          rw [c71]
          repeat' (first
          | rw [co_mren]
          | rw [co_co]
          | rw [co_t12]
          | rw [co_t9]
          | rw [ri_t9]
          | rw [cp_t5]
          | rw [co_z]
          | rw [ri_mren]
          | rw [co_r]
          | rw [co_op]
          | rw [co_at]
          | rw [co_nmi]
          | rw [e5]
          | (show WOpsT _ (⟨_, .ld _ _, none⟩ :: _) _ _ _ _; refine T.ld rfl rfl rfl rfl (co_get _ _ _ _ _ hx9) ?_)
          | refine N.regS fun K hK => ?_
          | refine N.dregS fun K hK => ?_
          | refine N.regN fun K hK => ?_
          | refine N.dregN fun K hK => ?_
          | simp only [T.mv, sm, AO.ev, put, lk, enter, reduceIte, Nat.reduceEqDiff, Nat.reduceAdd, Nat.reduceMul, Nat.reduceSub, Int.reduceNeg, Int.reduceToNat, upto, renB, setAll]
          | (refine T.nil ?_; (first | refine hK _ _ _ (by rfl) ?_ | refine hK _ _ _ ?_); (try simp only [keep, List.map, lk, reduceIte, Nat.reduceEqDiff, enter]); clear hK K)
          | (show WOpsT _ (⟨_, .call _ _, none⟩ :: _) _ _ _ _; first | refine T.call0 e57 rfl (hfit) ?_ | refine T.call0 e129 rfl (hs) ?_ | refine T.call0 e126 rfl (hdo) ?_ | refine T.call0 e130 rfl (hp) ?_ | refine T.call0 e35 rfl (low8 _) ?_)
          | (show WOpsT _ (⟨_, .ld _ _, none⟩ :: _) _ _ _ _; first | refine L.ld ?_ | refine L.ldd ?_ | refine L.ldn ?_ | refine L.lddn ?_)
          | (show WOpsT _ (⟨_, .idx _ _ _ _, none⟩ :: _) _ _ _ _; first | refine L.idxa ?_ | refine L.idxd ?_)
          | (show WOpsT _ (⟨_, .bin _ _ _, none⟩ :: _) _ _ _ _; first | refine L.bin ?_)
          | (show WOpsT _ (⟨_, _, some (_, true)⟩ :: _) _ _ _ _; first | refine L.goT ?_ | refine L.paT ?_ | refine L.go ?_ | refine L.pass ?_ | refine T.pU rfl ?_ | refine T.gT rfl (fun hgd => ?_) (fun hgd => ?_))
          | (show WOpsT _ (⟨_, _, some (_, false)⟩ :: _) _ _ _ _; first | refine L.goF ?_ | refine L.paF ?_ | refine L.go ?_ | refine L.pass ?_ | refine T.pU rfl ?_ | refine T.gF rfl (fun hgd => ?_) (fun hgd => ?_))
          | (show WOpsT _ (⟨_, .pick _ _ _, none⟩ :: _) _ _ _ _; first | refine L.pkT ?_ | refine L.pkF ?_ | refine L.pickT ?_ | refine L.pickF ?_ | refine L.pickB ?_ | refine T.pkD rfl (fun hgd => ?_) (fun hgd => ?_))
          | (show AKW _ _ _ _ _ _ _; first | refine N.now ?_)
          | (show AK _ _ (.cond _ _ _) _ _ _ _; first | refine N.c1 ?_ | refine N.c2 ?_ | refine N.c3 ?_ | refine N.c4 ?_ | refine N.condD rfl (fun hcd => ?_) (fun hcd => ?_) | refine N.condB rfl (fun hcd => ?_) (fun hcd => ?_) | refine N.condU rfl ?_ ?_)
          | (show AK _ _ _ _ _ _ _; first | refine N.seq ?_ | refine N.skip ?_ | refine N.ret ?_)
          | (show RK _ _ _ _ _ _ _; simp only [rk, rk0, reduceIte, Nat.reduceEqDiff])
          | (show WOpsT _ _ _ _ _ _; first | refine L.ext ?_ | refine T.notD rfl ?_ | refine T.not rfl ?_ | refine L.fad ?_ | refine L.fadd ?_ | refine L.st ?_ | refine L.new ?_ | refine L.zero ?_ | refine L.build ?_)
          | refine hQ _ _ _ rfl ?_
          | refine hQN _ _ _ rfl ?_)
          all_goals first
            | exact WS.drop (n := 0) rfl rfl
            | (exfalso; omega)
        · rw [if_neg hw]
          refine N.fn Try.func71 k71 lb q71 fun Q hQ hQN => ?_
          rw [c71]
          repeat' (first
          | rw [co_mren]
          | rw [co_co]
          | rw [co_t12]
          | rw [co_t9]
          | rw [ri_t9]
          | rw [cp_t5]
          | rw [co_z]
          | rw [ri_mren]
          | rw [co_r]
          | rw [co_op]
          | rw [co_at]
          | rw [co_nmi]
          | refine N.regS fun K hK => ?_
          | refine N.dregS fun K hK => ?_
          | refine N.regN fun K hK => ?_
          | refine N.dregN fun K hK => ?_
          | simp only [T.mv, sm, AO.ev, put, lk, enter, reduceIte, Nat.reduceEqDiff, Nat.reduceAdd, Nat.reduceMul, Nat.reduceSub, Int.reduceNeg, Int.reduceToNat, upto, renB, setAll]
          | (refine T.nil ?_; (first | refine hK _ _ _ (by rfl) ?_ | refine hK _ _ _ ?_); (try simp only [keep, List.map, lk, reduceIte, Nat.reduceEqDiff, enter]); clear hK K)
          | (show WOpsT _ (⟨_, .call _ _, none⟩ :: _) _ _ _ _; first | refine T.call0 e57 rfl (hfit) ?_ | refine T.call0 e129 rfl (hs) ?_ | refine T.call0 e126 rfl (hdo) ?_ | refine T.call0 e130 rfl (hp) ?_)
          | (show WOpsT _ (⟨_, .ld _ _, none⟩ :: _) _ _ _ _; first | refine L.ld ?_ | refine L.ldd ?_ | refine L.ldn ?_ | refine L.lddn ?_)
          | (show WOpsT _ (⟨_, .idx _ _ _ _, none⟩ :: _) _ _ _ _; first | refine L.idxa ?_ | refine L.idxd ?_)
          | (show WOpsT _ (⟨_, .bin _ _ _, none⟩ :: _) _ _ _ _; first | refine L.bin ?_)
          | (show WOpsT _ (⟨_, _, some (_, true)⟩ :: _) _ _ _ _; first | refine L.goT ?_ | refine L.paT ?_ | refine L.go ?_ | refine L.pass ?_ | refine T.pU rfl ?_ | refine T.gT rfl (fun hgd => ?_) (fun hgd => ?_))
          | (show WOpsT _ (⟨_, _, some (_, false)⟩ :: _) _ _ _ _; first | refine L.goF ?_ | refine L.paF ?_ | refine L.go ?_ | refine L.pass ?_ | refine T.pU rfl ?_ | refine T.gF rfl (fun hgd => ?_) (fun hgd => ?_))
          | (show WOpsT _ (⟨_, .pick _ _ _, none⟩ :: _) _ _ _ _; first | refine L.pkT ?_ | refine L.pkF ?_ | refine L.pickT ?_ | refine L.pickF ?_ | refine L.pickB ?_ | refine T.pkD rfl (fun hgd => ?_) (fun hgd => ?_))
          | (show AKW _ _ _ _ _ _ _; first | refine N.now ?_)
          | (show AK _ _ (.cond _ _ _) _ _ _ _; first | refine N.c1 ?_ | refine N.c2 ?_ | refine N.c3 ?_ | refine N.c4 ?_ | refine N.condD rfl (fun hcd => ?_) (fun hcd => ?_) | refine N.condB rfl (fun hcd => ?_) (fun hcd => ?_) | refine N.condU rfl ?_ ?_)
          | (show AK _ _ _ _ _ _ _; first | refine N.seq ?_ | refine N.skip ?_ | refine N.ret ?_)
          | (show RK _ _ _ _ _ _ _; simp only [rk, rk0, reduceIte, Nat.reduceEqDiff])
          | (show WOpsT _ _ _ _ _ _; first | refine L.ext ?_ | refine T.notD rfl ?_ | refine T.not rfl ?_ | refine L.fad ?_ | refine L.fadd ?_ | refine L.st ?_ | refine L.new ?_ | refine L.zero ?_ | refine L.build ?_)
          | refine hQ _ _ _ rfl ?_
          | refine hQN _ _ _ rfl ?_)
          all_goals first
            | exact WS.drop (n := 0) rfl rfl
            | (exfalso; omega)
  · have e := hno h1
    rw [Core.mk.injEq] at e
    obtain ⟨-, e2, e3, e4⟩ := e
    subst e2 e3 e4
    have h2 := h1
    clear hs
    cases hd : doingM c op2 a2 with
    | none =>
      have hdo := doing_none c q' op2 a2 n2 hl hd
      rw [show askB c ⟨q', op2, a2, n2⟩ = (⟨q', op2, a2, n2⟩, ⟨0, 0, 0⟩) by unfold askB; dsimp only; rw [if_neg h2, hd]]
      dsimp only
      clear hpl hno hfr
      refine N.fn Try.func71 k71 lb q71 fun Q hQ hQN => ?_
      rw [c71]
      repeat' (first
      | rw [co_mren]
      | rw [co_co]
      | rw [co_t12]
      | rw [co_t9]
      | rw [ri_t9]
      | rw [cp_t5]
      | rw [co_z]
      | rw [ri_mren]
      | rw [co_r]
      | rw [co_op]
      | rw [co_at]
      | rw [co_nmi]
      | refine N.regS fun K hK => ?_
      | refine N.dregS fun K hK => ?_
      | refine N.regN fun K hK => ?_
      | refine N.dregN fun K hK => ?_
      | simp only [T.mv, sm, AO.ev, put, lk, enter, reduceIte, Nat.reduceEqDiff, Nat.reduceAdd, Nat.reduceMul, Nat.reduceSub, Int.reduceNeg, Int.reduceToNat, upto, renB, setAll]
      | (refine T.nil ?_; (first | refine hK _ _ _ (by rfl) ?_ | refine hK _ _ _ ?_); (try simp only [keep, List.map, lk, reduceIte, Nat.reduceEqDiff, enter]); clear hK K)
      | (show WOpsT _ (⟨_, .call _ _, none⟩ :: _) _ _ _ _; first | refine T.call0 e57 rfl (hfit) ?_ | refine T.call0 e126 rfl (hdo) ?_)
      | (show WOpsT _ (⟨_, .ld _ _, none⟩ :: _) _ _ _ _; first | refine L.ld ?_ | refine L.ldd ?_ | refine L.ldn ?_ | refine L.lddn ?_)
      | (show WOpsT _ (⟨_, .idx _ _ _ _, none⟩ :: _) _ _ _ _; first | refine L.idxa ?_ | refine L.idxd ?_)
      | (show WOpsT _ (⟨_, .bin _ _ _, none⟩ :: _) _ _ _ _; first | refine L.bin ?_)
      | (show WOpsT _ (⟨_, _, some (_, true)⟩ :: _) _ _ _ _; first | refine L.goT ?_ | refine L.paT ?_ | refine L.go ?_ | refine L.pass ?_ | refine T.pU rfl ?_ | refine T.gT rfl (fun hgd => ?_) (fun hgd => ?_))
      | (show WOpsT _ (⟨_, _, some (_, false)⟩ :: _) _ _ _ _; first | refine L.goF ?_ | refine L.paF ?_ | refine L.go ?_ | refine L.pass ?_ | refine T.pU rfl ?_ | refine T.gF rfl (fun hgd => ?_) (fun hgd => ?_))
      | (show WOpsT _ (⟨_, .pick _ _ _, none⟩ :: _) _ _ _ _; first | refine L.pkT ?_ | refine L.pkF ?_ | refine L.pickT ?_ | refine L.pickF ?_ | refine L.pickB ?_ | refine T.pkD rfl (fun hgd => ?_) (fun hgd => ?_))
      | (show AKW _ _ _ _ _ _ _; first | refine N.now ?_)
      | (show AK _ _ (.cond _ _ _) _ _ _ _; first | refine N.c1 ?_ | refine N.c2 ?_ | refine N.c3 ?_ | refine N.c4 ?_ | refine N.condD rfl (fun hcd => ?_) (fun hcd => ?_) | refine N.condB rfl (fun hcd => ?_) (fun hcd => ?_) | refine N.condU rfl ?_ ?_)
      | (show AK _ _ _ _ _ _ _; first | refine N.seq ?_ | refine N.skip ?_ | refine N.ret ?_)
      | (show RK _ _ _ _ _ _ _; simp only [rk, rk0, reduceIte, Nat.reduceEqDiff])
      | (show WOpsT _ _ _ _ _ _; first | refine L.ext ?_ | refine T.notD rfl ?_ | refine T.not rfl ?_ | refine L.fad ?_ | refine L.fadd ?_ | refine L.st ?_ | refine L.new ?_ | refine L.zero ?_ | refine L.build ?_)
      | refine hQ _ _ _ rfl ?_
      | refine hQN _ _ _ rfl ?_)
      all_goals first
        | exact WS.drop (n := 0) rfl rfl
        | (exfalso; omega)
    | some x =>
      have hdo := doing_some c q' op2 a2 n2 hl x hd
      obtain ⟨xb, xa, xr, xs⟩ := x
      by_cases hb0 : xb = 0
      · rw [show askB c ⟨q', op2, a2, n2⟩ = (⟨q', op2, a2, n2⟩, ⟨0, 0, 0⟩) by unfold askB; dsimp only; rw [if_neg h2, hd]; dsimp only; rw [if_pos hb0]]
        dsimp only
        clear hpl hno hfr hd
        subst hb0
        refine N.fn Try.func71 k71 lb q71 fun Q hQ hQN => ?_
        rw [c71]
        repeat' (first
        | rw [co_mren]
        | rw [co_co]
        | rw [co_t12]
        | rw [co_t9]
        | rw [ri_t9]
        | rw [cp_t5]
        | rw [co_z]
        | rw [ri_mren]
        | rw [co_r]
        | rw [co_op]
        | rw [co_at]
        | rw [co_nmi]
        | refine N.regS fun K hK => ?_
        | refine N.dregS fun K hK => ?_
        | refine N.regN fun K hK => ?_
        | refine N.dregN fun K hK => ?_
        | simp only [T.mv, sm, AO.ev, put, lk, enter, reduceIte, Nat.reduceEqDiff, Nat.reduceAdd, Nat.reduceMul, Nat.reduceSub, Int.reduceNeg, Int.reduceToNat, upto, renB, setAll]
        | (refine T.nil ?_; (first | refine hK _ _ _ (by rfl) ?_ | refine hK _ _ _ ?_); (try simp only [keep, List.map, lk, reduceIte, Nat.reduceEqDiff, enter]); clear hK K)
        | (show WOpsT _ (⟨_, .call _ _, none⟩ :: _) _ _ _ _; first | refine T.call0 e57 rfl (hfit) ?_ | refine T.call0 e126 rfl (hdo) ?_)
        | (show WOpsT _ (⟨_, .ld _ _, none⟩ :: _) _ _ _ _; first | refine L.ld ?_ | refine L.ldd ?_ | refine L.ldn ?_ | refine L.lddn ?_)
        | (show WOpsT _ (⟨_, .idx _ _ _ _, none⟩ :: _) _ _ _ _; first | refine L.idxa ?_ | refine L.idxd ?_)
        | (show WOpsT _ (⟨_, .bin _ _ _, none⟩ :: _) _ _ _ _; first | refine L.bin ?_)
        | (show WOpsT _ (⟨_, _, some (_, true)⟩ :: _) _ _ _ _; first | refine L.goT ?_ | refine L.paT ?_ | refine L.go ?_ | refine L.pass ?_ | refine T.pU rfl ?_ | refine T.gT rfl (fun hgd => ?_) (fun hgd => ?_))
        | (show WOpsT _ (⟨_, _, some (_, false)⟩ :: _) _ _ _ _; first | refine L.goF ?_ | refine L.paF ?_ | refine L.go ?_ | refine L.pass ?_ | refine T.pU rfl ?_ | refine T.gF rfl (fun hgd => ?_) (fun hgd => ?_))
        | (show WOpsT _ (⟨_, .pick _ _ _, none⟩ :: _) _ _ _ _; first | refine L.pkT ?_ | refine L.pkF ?_ | refine L.pickT ?_ | refine L.pickF ?_ | refine L.pickB ?_ | refine T.pkD rfl (fun hgd => ?_) (fun hgd => ?_))
        | (show AKW _ _ _ _ _ _ _; first | refine N.now ?_)
        | (show AK _ _ (.cond _ _ _) _ _ _ _; first | refine N.c1 ?_ | refine N.c2 ?_ | refine N.c3 ?_ | refine N.c4 ?_ | refine N.condD rfl (fun hcd => ?_) (fun hcd => ?_) | refine N.condB rfl (fun hcd => ?_) (fun hcd => ?_) | refine N.condU rfl ?_ ?_)
        | (show AK _ _ _ _ _ _ _; first | refine N.seq ?_ | refine N.skip ?_ | refine N.ret ?_)
        | (show RK _ _ _ _ _ _ _; simp only [rk, rk0, reduceIte, Nat.reduceEqDiff])
        | (show WOpsT _ _ _ _ _ _; first | refine L.ext ?_ | refine T.notD rfl ?_ | refine T.not rfl ?_ | refine L.fad ?_ | refine L.fadd ?_ | refine L.st ?_ | refine L.new ?_ | refine L.zero ?_ | refine L.build ?_)
        | refine hQ _ _ _ rfl ?_
        | refine hQN _ _ _ rfl ?_)
        all_goals first
          | exact WS.drop (n := 0) rfl rfl
          | (exfalso; omega)
      obtain ⟨ad, q2, e1, hp⟩ := hpl xa
      rw [show askB c ⟨q', op2, a2, n2⟩ = (⟨q2, op2, a2, n2⟩, ⟨xb, ad, dataM ⟨xb, xa, xr, xs⟩ q'⟩) by unfold askB; dsimp only; rw [if_neg h2, hd]; dsimp only; rw [if_neg hb0, e1]]
      dsimp only
      clear hpl hno hfr hd e1
      unfold dataM
      dsimp only
      by_cases hw : xb = 2 ∧ 0 ≤ xr ∧ xr < 9
      · rw [if_pos hw]
        have e5 : 0 + xr.toNat * 1 = xr.toNat := by omega
        have hx9 : xr.toNat < 9 := by omega
        refine N.fn Try.func71 k71 lb q71 fun Q hQ hQN => ?_
        rw [c71]
        repeat' (first
        | rw [co_mren]
        | rw [co_co]
        | rw [co_t12]
        | rw [co_t9]
        | rw [ri_t9]
        | rw [cp_t5]
        | rw [co_z]
        | rw [ri_mren]
        | rw [co_r]
        | rw [co_op]
        | rw [co_at]
        | rw [co_nmi]
        | rw [e5]
        | (show WOpsT _ (⟨_, .ld _ _, none⟩ :: _) _ _ _ _; refine T.ld rfl rfl rfl rfl (co_get _ _ _ _ _ hx9) ?_)
        | refine N.regS fun K hK => ?_
        | refine N.dregS fun K hK => ?_
        | refine N.regN fun K hK => ?_
        | refine N.dregN fun K hK => ?_
        | simp only [T.mv, sm, AO.ev, put, lk, enter, reduceIte, Nat.reduceEqDiff, Nat.reduceAdd, Nat.reduceMul, Nat.reduceSub, Int.reduceNeg, Int.reduceToNat, upto, renB, setAll]
        | (refine T.nil ?_; (first | refine hK _ _ _ (by rfl) ?_ | refine hK _ _ _ ?_); (try simp only [keep, List.map, lk, reduceIte, Nat.reduceEqDiff, enter]); clear hK K)
        | (show WOpsT _ (⟨_, .call _ _, none⟩ :: _) _ _ _ _; first | refine T.call0 e57 rfl (hfit) ?_ | refine T.call0 e126 rfl (hdo) ?_ | refine T.call0 e130 rfl (hp) ?_ | refine T.call0 e35 rfl (low8 _) ?_)
        | (show WOpsT _ (⟨_, .ld _ _, none⟩ :: _) _ _ _ _; first | refine L.ld ?_ | refine L.ldd ?_ | refine L.ldn ?_ | refine L.lddn ?_)
        | (show WOpsT _ (⟨_, .idx _ _ _ _, none⟩ :: _) _ _ _ _; first | refine L.idxa ?_ | refine L.idxd ?_)
        | (show WOpsT _ (⟨_, .bin _ _ _, none⟩ :: _) _ _ _ _; first | refine L.bin ?_)
        | (show WOpsT _ (⟨_, _, some (_, true)⟩ :: _) _ _ _ _; first | refine L.goT ?_ | refine L.paT ?_ | refine L.go ?_ | refine L.pass ?_ | refine T.pU rfl ?_ | refine T.gT rfl (fun hgd => ?_) (fun hgd => ?_))
        | (show WOpsT _ (⟨_, _, some (_, false)⟩ :: _) _ _ _ _; first | refine L.goF ?_ | refine L.paF ?_ | refine L.go ?_ | refine L.pass ?_ | refine T.pU rfl ?_ | refine T.gF rfl (fun hgd => ?_) (fun hgd => ?_))
        | (show WOpsT _ (⟨_, .pick _ _ _, none⟩ :: _) _ _ _ _; first | refine L.pkT ?_ | refine L.pkF ?_ | refine L.pickT ?_ | refine L.pickF ?_ | refine L.pickB ?_ | refine T.pkD rfl (fun hgd => ?_) (fun hgd => ?_))
        | (show AKW _ _ _ _ _ _ _; first | refine N.now ?_)
        | (show AK _ _ (.cond _ _ _) _ _ _ _; first | refine N.c1 ?_ | refine N.c2 ?_ | refine N.c3 ?_ | refine N.c4 ?_ | refine N.condD rfl (fun hcd => ?_) (fun hcd => ?_) | refine N.condB rfl (fun hcd => ?_) (fun hcd => ?_) | refine N.condU rfl ?_ ?_)
        | (show AK _ _ _ _ _ _ _; first | refine N.seq ?_ | refine N.skip ?_ | refine N.ret ?_)
        | (show RK _ _ _ _ _ _ _; simp only [rk, rk0, reduceIte, Nat.reduceEqDiff])
        | (show WOpsT _ _ _ _ _ _; first | refine L.ext ?_ | refine T.notD rfl ?_ | refine T.not rfl ?_ | refine L.fad ?_ | refine L.fadd ?_ | refine L.st ?_ | refine L.new ?_ | refine L.zero ?_ | refine L.build ?_)
        | refine hQ _ _ _ rfl ?_
        | refine hQN _ _ _ rfl ?_)
        all_goals first
          | exact WS.drop (n := 0) rfl rfl
          | (exfalso; omega)
      · rw [if_neg hw]
        refine N.fn Try.func71 k71 lb q71 fun Q hQ hQN => ?_
        rw [c71]
        repeat' (first
        | rw [co_mren]
        | rw [co_co]
        | rw [co_t12]
        | rw [co_t9]
        | rw [ri_t9]
        | rw [cp_t5]
        | rw [co_z]
        | rw [ri_mren]
        | rw [co_r]
        | rw [co_op]
        | rw [co_at]
        | rw [co_nmi]
        | refine N.regS fun K hK => ?_
        | refine N.dregS fun K hK => ?_
        | refine N.regN fun K hK => ?_
        | refine N.dregN fun K hK => ?_
        | simp only [T.mv, sm, AO.ev, put, lk, enter, reduceIte, Nat.reduceEqDiff, Nat.reduceAdd, Nat.reduceMul, Nat.reduceSub, Int.reduceNeg, Int.reduceToNat, upto, renB, setAll]
        | (refine T.nil ?_; (first | refine hK _ _ _ (by rfl) ?_ | refine hK _ _ _ ?_); (try simp only [keep, List.map, lk, reduceIte, Nat.reduceEqDiff, enter]); clear hK K)
        | (show WOpsT _ (⟨_, .call _ _, none⟩ :: _) _ _ _ _; first | refine T.call0 e57 rfl (hfit) ?_ | refine T.call0 e126 rfl (hdo) ?_ | refine T.call0 e130 rfl (hp) ?_)
        | (show WOpsT _ (⟨_, .ld _ _, none⟩ :: _) _ _ _ _; first | refine L.ld ?_ | refine L.ldd ?_ | refine L.ldn ?_ | refine L.lddn ?_)
        | (show WOpsT _ (⟨_, .idx _ _ _ _, none⟩ :: _) _ _ _ _; first | refine L.idxa ?_ | refine L.idxd ?_)
        | (show WOpsT _ (⟨_, .bin _ _ _, none⟩ :: _) _ _ _ _; first | refine L.bin ?_)
        | (show WOpsT _ (⟨_, _, some (_, true)⟩ :: _) _ _ _ _; first | refine L.goT ?_ | refine L.paT ?_ | refine L.go ?_ | refine L.pass ?_ | refine T.pU rfl ?_ | refine T.gT rfl (fun hgd => ?_) (fun hgd => ?_))
        | (show WOpsT _ (⟨_, _, some (_, false)⟩ :: _) _ _ _ _; first | refine L.goF ?_ | refine L.paF ?_ | refine L.go ?_ | refine L.pass ?_ | refine T.pU rfl ?_ | refine T.gF rfl (fun hgd => ?_) (fun hgd => ?_))
        | (show WOpsT _ (⟨_, .pick _ _ _, none⟩ :: _) _ _ _ _; first | refine L.pkT ?_ | refine L.pkF ?_ | refine L.pickT ?_ | refine L.pickF ?_ | refine L.pickB ?_ | refine T.pkD rfl (fun hgd => ?_) (fun hgd => ?_))
        | (show AKW _ _ _ _ _ _ _; first | refine N.now ?_)
        | (show AK _ _ (.cond _ _ _) _ _ _ _; first | refine N.c1 ?_ | refine N.c2 ?_ | refine N.c3 ?_ | refine N.c4 ?_ | refine N.condD rfl (fun hcd => ?_) (fun hcd => ?_) | refine N.condB rfl (fun hcd => ?_) (fun hcd => ?_) | refine N.condU rfl ?_ ?_)
        | (show AK _ _ _ _ _ _ _; first | refine N.seq ?_ | refine N.skip ?_ | refine N.ret ?_)
        | (show RK _ _ _ _ _ _ _; simp only [rk, rk0, reduceIte, Nat.reduceEqDiff])
        | (show WOpsT _ _ _ _ _ _; first | refine L.ext ?_ | refine T.notD rfl ?_ | refine T.not rfl ?_ | refine L.fad ?_ | refine L.fadd ?_ | refine L.st ?_ | refine L.new ?_ | refine L.zero ?_ | refine L.build ?_)
        | refine hQ _ _ _ rfl ?_
        | refine hQN _ _ _ rfl ?_)
        all_goals first
          | exact WS.drop (n := 0) rfl rfl
          | (exfalso; omega)
end Go.Proofs.Ytjmmompbmjhkpaa.Calc

namespace Go.Proofs.Ytjmmompbmjhkpaa.Calc
open Go Code
set_option linter.unusedSimpArgs false
set_option linter.unusedVariables false
set_option maxRecDepth 20000
set_option maxHeartbeats 4000000
attribute [local irreducible] WOpsT AW AK RK AKW UK UC
theorem cycM_sml (c : Cpu) (hc : SmlP c) (op : Int) : SmlC (cycM c op) := by
  obtain ⟨h1, h2, h3, h4, h5⟩ := hc
  unfold cycM
  split
  · exact h4
  split
  · exact h5
  split
  · exact h3
  split
  · split
    · split
      · rename_i x hx
        exact h2 x (List.mem_of_getElem? hx)
      · exact ⟨by simp, by simp⟩
    · exact ⟨by simp, by simp⟩
  · exact ⟨by simp, by simp⟩
theorem stepsM_drop (l : List Stp) (i : Nat) (hi : i < l.length) (r : Nat → Int) : stepsM (l.drop i) r = if (doR l[i].op l[i].to l[i].fr l[i].n r).2 = true then ((doR l[i].op l[i].to l[i].fr l[i].n r).1, true) else stepsM (l.drop (i + 1)) (doR l[i].op l[i].to l[i].fr l[i].n r).1 := by
  rw [List.drop_eq_getElem_cons hi]; rfl
theorem tell_c (c : Cpu) (hc : SmlP c) (k : Core) (data : Int) : FnE Try.prog 69 [.agg (cpC c), .agg (coC k), I data] [] (.agg (coC (tellM c k data))) [] := by
  obtain ⟨r, op, a, nmi⟩ := k
  have hfit := Fit_ok r
  have hlow := low8 data
  have hlen := hc.1
  unfold tellM
  dsimp only
  show FnE _ _ [.agg (cpC c), .agg (coA r op a nmi), I data] [] _ []
  generalize fitR r = q at *
  generalize data % 256 = d at *
  by_cases h1 : op = -1
  · rw [if_pos h1]
    subst h1
    have hf := find_ok c hc d
    unfold tellA
    generalize gotM (fun x => decide (x.op = d)) c.ins = g at *
    obtain ⟨⟨o, s, m, cy⟩, ok⟩ := g
    dsimp only at hf ⊢
    cases ok
    · rw [if_pos rfl]
      refine N.fn Try.func69 k69 lb q69 fun Q hQ hQN => ?_
      rw [c69]
      repeat' (first
      | rw [co_mren]
      | rw [co_co]
      | rw [co_t12]
      | rw [co_t9]
      | rw [ri_t9]
      | rw [cp_t5]
      | rw [co_z]
      | rw [ri_mren]
      | rw [co_r]
      | rw [co_op]
      | rw [co_at]
      | rw [co_nmi]
      | rw [ri_splz]
      | rw [List.length_map]
      | refine N.regS fun K hK => ?_
      | refine N.dregS fun K hK => ?_
      | refine N.regN fun K hK => ?_
      | refine N.dregN fun K hK => ?_
      | simp only [T.mv, sm, AO.ev, put, lk, enter, reduceIte, Nat.reduceEqDiff, Nat.reduceAdd, Nat.reduceMul, Nat.reduceSub, Int.reduceNeg, Int.reduceToNat, upto, renB, setAll]
      | (refine T.nil ?_; (first | refine hK _ _ _ (by rfl) ?_ | refine hK _ _ _ ?_); (try simp only [keep, List.map, lk, reduceIte, Nat.reduceEqDiff, enter]); clear hK K)
      | (show WOpsT _ (⟨_, .call _ _, none⟩ :: _) _ _ _ _; first | refine T.call0 e35 rfl (hlow) ?_ | refine T.call0 e57 rfl (hfit) ?_ | refine T.call0 e62 rfl (hf) ?_)
      | (show WOpsT _ (⟨_, .ld _ _, none⟩ :: _) _ _ _ _; first | refine L.ld ?_ | refine L.ldd ?_ | refine L.ldn ?_ | refine L.lddn ?_)
      | (show WOpsT _ (⟨_, .idx _ _ _ _, none⟩ :: _) _ _ _ _; first | refine L.idx ?_ | refine L.idxs ?_ | refine L.idxa ?_ | refine L.idxd ?_)
      | (show WOpsT _ (⟨_, .bin _ _ _, none⟩ :: _) _ _ _ _; first | refine L.add ?_ | refine L.bin ?_)
      | (show WOpsT _ (⟨_, _, some (_, true)⟩ :: _) _ _ _ _; first | refine L.goT ?_ | refine L.paT ?_ | refine L.go ?_ | refine L.pass ?_ | refine T.pU rfl ?_ | refine T.gT rfl (fun hgd => ?_) (fun hgd => ?_))
      | (show WOpsT _ (⟨_, .pick _ _ _, none⟩ :: _) _ _ _ _; first | refine L.pkT ?_ | refine L.pkF ?_ | refine L.pickT ?_ | refine L.pickF ?_ | refine L.pickB ?_ | refine T.pkD rfl (fun hgd => ?_) (fun hgd => ?_))
      | (show AKW _ _ _ _ _ _ _; first | refine N.now ?_)
      | (show AK _ _ (.cond _ _ _) _ _ _ _; first | refine N.c1 ?_ | refine N.c2 ?_ | refine N.c3 ?_ | refine N.c4 ?_ | refine N.condD rfl (fun hcd => ?_) (fun hcd => ?_) | refine N.condB rfl (fun hcd => ?_) (fun hcd => ?_) | refine N.condU rfl ?_ ?_)
      | (show AK _ _ _ _ _ _ _; first | refine N.seq ?_ | refine N.block ?_ | refine N.skip ?_ | refine N.exit ?_ | refine N.ret ?_)
      | (show RK _ _ _ _ _ _ _; simp only [rk, rk0, reduceIte, Nat.reduceEqDiff])
      | (show WOpsT _ _ _ _ _ _; first | refine L.ext ?_ | refine T.notD rfl ?_ | refine T.not rfl ?_ | refine L.fad ?_ | refine L.fadd ?_ | refine L.st ?_ | refine L.new ?_ | refine L.zero ?_ | refine L.len ?_ | refine L.lenS ?_ | refine L.lenN ?_)
      | refine hQ _ _ _ rfl ?_
      | refine hQN _ _ _ rfl ?_)
      all_goals first
        | exact WS.drop (n := 0) rfl rfl
        | (exfalso; omega)
    · rw [if_neg (by decide)]
      by_cases hy : 0 < cy.length
      · rw [if_pos hy]
        refine N.fn Try.func69 k69 lb q69 fun Q hQ hQN => ?_
        rw [c69]
        repeat' (first
        | rw [co_mren]
        | rw [co_co]
        | rw [co_t12]
        | rw [co_t9]
        | rw [ri_t9]
        | rw [cp_t5]
        | rw [co_z]
        | rw [ri_mren]
        | rw [co_r]
        | rw [co_op]
        | rw [co_at]
        | rw [co_nmi]
        | rw [ri_splz]
        | rw [List.length_map]
        | refine N.regS fun K hK => ?_
        | refine N.dregS fun K hK => ?_
        | refine N.regN fun K hK => ?_
        | refine N.dregN fun K hK => ?_
        | simp only [T.mv, sm, AO.ev, put, lk, enter, reduceIte, Nat.reduceEqDiff, Nat.reduceAdd, Nat.reduceMul, Nat.reduceSub, Int.reduceNeg, Int.reduceToNat, upto, renB, setAll]
        | (refine T.nil ?_; (first | refine hK _ _ _ (by rfl) ?_ | refine hK _ _ _ ?_); (try simp only [keep, List.map, lk, reduceIte, Nat.reduceEqDiff, enter]); clear hK K)
        | (show WOpsT _ (⟨_, .call _ _, none⟩ :: _) _ _ _ _; first | refine T.call0 e35 rfl (hlow) ?_ | refine T.call0 e57 rfl (hfit) ?_ | refine T.call0 e62 rfl (hf) ?_)
        | (show WOpsT _ (⟨_, .ld _ _, none⟩ :: _) _ _ _ _; first | refine L.ld ?_ | refine L.ldd ?_ | refine L.ldn ?_ | refine L.lddn ?_)
        | (show WOpsT _ (⟨_, .idx _ _ _ _, none⟩ :: _) _ _ _ _; first | refine L.idx ?_ | refine L.idxs ?_ | refine L.idxa ?_ | refine L.idxd ?_)
        | (show WOpsT _ (⟨_, .bin _ _ _, none⟩ :: _) _ _ _ _; first | refine L.add ?_ | refine L.bin ?_)
        | (show WOpsT _ (⟨_, _, some (_, true)⟩ :: _) _ _ _ _; first | refine L.goT ?_ | refine L.paT ?_ | refine L.go ?_ | refine L.pass ?_ | refine T.pU rfl ?_ | refine T.gT rfl (fun hgd => ?_) (fun hgd => ?_))
        | (show WOpsT _ (⟨_, .pick _ _ _, none⟩ :: _) _ _ _ _; first | refine L.pkT ?_ | refine L.pkF ?_ | refine L.pickT ?_ | refine L.pickF ?_ | refine L.pickB ?_ | refine T.pkD rfl (fun hgd => ?_) (fun hgd => ?_))
        | (show AKW _ _ _ _ _ _ _; first | refine N.now ?_)
        | (show AK _ _ (.cond _ _ _) _ _ _ _; first | refine N.c1 ?_ | refine N.c2 ?_ | refine N.c3 ?_ | refine N.c4 ?_ | refine N.condD rfl (fun hcd => ?_) (fun hcd => ?_) | refine N.condB rfl (fun hcd => ?_) (fun hcd => ?_) | refine N.condU rfl ?_ ?_)
        | (show AK _ _ _ _ _ _ _; first | refine N.seq ?_ | refine N.block ?_ | refine N.skip ?_ | refine N.exit ?_ | refine N.ret ?_)
        | (show RK _ _ _ _ _ _ _; simp only [rk, rk0, reduceIte, Nat.reduceEqDiff])
        | (show WOpsT _ _ _ _ _ _; first | refine L.ext ?_ | refine T.notD rfl ?_ | refine T.not rfl ?_ | refine L.fad ?_ | refine L.fadd ?_ | refine L.st ?_ | refine L.new ?_ | refine L.zero ?_ | refine L.len ?_ | refine L.lenS ?_ | refine L.lenN ?_)
        | refine hQ _ _ _ rfl ?_
        | refine hQN _ _ _ rfl ?_)
        all_goals first
          | exact WS.drop (n := 0) rfl rfl
          | (exfalso; omega)
      · rw [if_neg hy]
        refine N.fn Try.func69 k69 lb q69 fun Q hQ hQN => ?_
        rw [c69]
        repeat' (first
        | rw [co_mren]
        | rw [co_co]
        | rw [co_t12]
        | rw [co_t9]
        | rw [ri_t9]
        | rw [cp_t5]
        | rw [co_z]
        | rw [ri_mren]
        | rw [co_r]
        | rw [co_op]
        | rw [co_at]
        | rw [co_nmi]
        | rw [ri_splz]
        | rw [List.length_map]
        | refine N.regS fun K hK => ?_
        | refine N.dregS fun K hK => ?_
        | refine N.regN fun K hK => ?_
        | refine N.dregN fun K hK => ?_
        | simp only [T.mv, sm, AO.ev, put, lk, enter, reduceIte, Nat.reduceEqDiff, Nat.reduceAdd, Nat.reduceMul, Nat.reduceSub, Int.reduceNeg, Int.reduceToNat, upto, renB, setAll]
        | (refine T.nil ?_; (first | refine hK _ _ _ (by rfl) ?_ | refine hK _ _ _ ?_); (try simp only [keep, List.map, lk, reduceIte, Nat.reduceEqDiff, enter]); clear hK K)
        | (show WOpsT _ (⟨_, .call _ _, none⟩ :: _) _ _ _ _; first | refine T.call0 e35 rfl (hlow) ?_ | refine T.call0 e57 rfl (hfit) ?_ | refine T.call0 e62 rfl (hf) ?_)
        | (show WOpsT _ (⟨_, .ld _ _, none⟩ :: _) _ _ _ _; first | refine L.ld ?_ | refine L.ldd ?_ | refine L.ldn ?_ | refine L.lddn ?_)
        | (show WOpsT _ (⟨_, .idx _ _ _ _, none⟩ :: _) _ _ _ _; first | refine L.idx ?_ | refine L.idxs ?_ | refine L.idxa ?_ | refine L.idxd ?_)
        | (show WOpsT _ (⟨_, .bin _ _ _, none⟩ :: _) _ _ _ _; first | refine L.add ?_ | refine L.bin ?_)
        | (show WOpsT _ (⟨_, _, some (_, true)⟩ :: _) _ _ _ _; first | refine L.goT ?_ | refine L.paT ?_ | refine L.go ?_ | refine L.pass ?_ | refine T.pU rfl ?_ | refine T.gT rfl (fun hgd => ?_) (fun hgd => ?_))
        | (show WOpsT _ (⟨_, .pick _ _ _, none⟩ :: _) _ _ _ _; first | refine L.pkT ?_ | refine L.pkF ?_ | refine L.pickT ?_ | refine L.pickF ?_ | refine L.pickB ?_ | refine T.pkD rfl (fun hgd => ?_) (fun hgd => ?_))
        | (show AKW _ _ _ _ _ _ _; first | refine N.now ?_)
        | (show AK _ _ (.cond _ _ _) _ _ _ _; first | refine N.c1 ?_ | refine N.c2 ?_ | refine N.c3 ?_ | refine N.c4 ?_ | refine N.condD rfl (fun hcd => ?_) (fun hcd => ?_) | refine N.condB rfl (fun hcd => ?_) (fun hcd => ?_) | refine N.condU rfl ?_ ?_)
        | (show AK _ _ _ _ _ _ _; first | refine N.seq ?_ | refine N.block ?_ | refine N.skip ?_ | refine N.exit ?_ | refine N.ret ?_)
        | (show RK _ _ _ _ _ _ _; simp only [rk, rk0, reduceIte, Nat.reduceEqDiff])
        | (show WOpsT _ _ _ _ _ _; first | refine L.ext ?_ | refine T.notD rfl ?_ | refine T.not rfl ?_ | refine L.fad ?_ | refine L.fadd ?_ | refine L.st ?_ | refine L.new ?_ | refine L.zero ?_ | refine L.len ?_ | refine L.lenS ?_ | refine L.lenN ?_)
        | refine hQ _ _ _ rfl ?_
        | refine hQN _ _ _ rfl ?_)
        all_goals first
          | exact WS.drop (n := 0) rfl rfl
          | (exfalso; omega)
  rw [if_neg h1]
  unfold tellB
  dsimp only
  cases hd : doingM c op a with
  | none =>
    dsimp only
    have hdo := doing_none c q op a nmi hlen hd
    have he := ended_c c q op a nmi
    by_cases h9 : op = 259
    · rw [if_pos h9] at he ⊢
      refine N.fn Try.func69 k69 lb q69 fun Q hQ hQN => ?_
      rw [c69]
      repeat' (first
      | rw [co_mren]
      | rw [co_co]
      | rw [co_t12]
      | rw [co_t9]
      | rw [ri_t9]
      | rw [cp_t5]
      | rw [co_z]
      | rw [ri_mren]
      | rw [co_r]
      | rw [co_op]
      | rw [co_at]
      | rw [co_nmi]
      | rw [ri_splz]
      | rw [List.length_map]
      | refine N.regS fun K hK => ?_
      | refine N.dregS fun K hK => ?_
      | refine N.regN fun K hK => ?_
      | refine N.dregN fun K hK => ?_
      | simp only [T.mv, sm, AO.ev, put, lk, enter, reduceIte, Nat.reduceEqDiff, Nat.reduceAdd, Nat.reduceMul, Nat.reduceSub, Int.reduceNeg, Int.reduceToNat, upto, renB, setAll]
      | (refine T.nil ?_; (first | refine hK _ _ _ (by rfl) ?_ | refine hK _ _ _ ?_); (try simp only [keep, List.map, lk, reduceIte, Nat.reduceEqDiff, enter]); clear hK K)
      | (show WOpsT _ (⟨_, .call _ _, none⟩ :: _) _ _ _ _; first | refine T.call0 e35 rfl (hlow) ?_ | refine T.call0 e57 rfl (hfit) ?_ | refine T.call0 e126 rfl (hdo) ?_ | refine T.call0 e127 rfl (he) ?_)
      | (show WOpsT _ (⟨_, .ld _ _, none⟩ :: _) _ _ _ _; first | refine L.ld ?_ | refine L.ldd ?_ | refine L.ldn ?_ | refine L.lddn ?_)
      | (show WOpsT _ (⟨_, .idx _ _ _ _, none⟩ :: _) _ _ _ _; first | refine L.idx ?_ | refine L.idxs ?_ | refine L.idxa ?_ | refine L.idxd ?_)
      | (show WOpsT _ (⟨_, .bin _ _ _, none⟩ :: _) _ _ _ _; first | refine L.add ?_ | refine L.bin ?_)
      | (show WOpsT _ (⟨_, _, some (_, true)⟩ :: _) _ _ _ _; first | refine L.goT ?_ | refine L.paT ?_ | refine L.go ?_ | refine L.pass ?_ | refine T.pU rfl ?_ | refine T.gT rfl (fun hgd => ?_) (fun hgd => ?_))
      | (show WOpsT _ (⟨_, .pick _ _ _, none⟩ :: _) _ _ _ _; first | refine L.pkT ?_ | refine L.pkF ?_ | refine L.pickT ?_ | refine L.pickF ?_ | refine L.pickB ?_ | refine T.pkD rfl (fun hgd => ?_) (fun hgd => ?_))
      | (show AKW _ _ _ _ _ _ _; first | refine N.now ?_)
      | (show AK _ _ (.cond _ _ _) _ _ _ _; first | refine N.c1 ?_ | refine N.c2 ?_ | refine N.c3 ?_ | refine N.c4 ?_ | refine N.condD rfl (fun hcd => ?_) (fun hcd => ?_) | refine N.condB rfl (fun hcd => ?_) (fun hcd => ?_) | refine N.condU rfl ?_ ?_)
      | (show AK _ _ _ _ _ _ _; first | refine N.seq ?_ | refine N.block ?_ | refine N.skip ?_ | refine N.exit ?_ | refine N.ret ?_)
      | (show RK _ _ _ _ _ _ _; simp only [rk, rk0, reduceIte, Nat.reduceEqDiff])
      | (show WOpsT _ _ _ _ _ _; first | refine L.ext ?_ | refine T.notD rfl ?_ | refine T.not rfl ?_ | refine L.fad ?_ | refine L.fadd ?_ | refine L.st ?_ | refine L.new ?_ | refine L.zero ?_ | refine L.len ?_ | refine L.lenS ?_ | refine L.lenN ?_)
      | refine hQ _ _ _ rfl ?_
      | refine hQN _ _ _ rfl ?_)
      all_goals first
        | exact WS.drop (n := 0) rfl rfl
        | (exfalso; omega)
    · rw [if_neg h9] at he ⊢
      refine N.fn Try.func69 k69 lb q69 fun Q hQ hQN => ?_
      rw [c69]
      repeat' (first
      | rw [co_mren]
      | rw [co_co]
      | rw [co_t12]
      | rw [co_t9]
      | rw [ri_t9]
      | rw [cp_t5]
      | rw [co_z]
      | rw [ri_mren]
      | rw [co_r]
      | rw [co_op]
      | rw [co_at]
      | rw [co_nmi]
      | rw [ri_splz]
      | rw [List.length_map]
      | refine N.regS fun K hK => ?_
      | refine N.dregS fun K hK => ?_
      | refine N.regN fun K hK => ?_
      | refine N.dregN fun K hK => ?_
      | simp only [T.mv, sm, AO.ev, put, lk, enter, reduceIte, Nat.reduceEqDiff, Nat.reduceAdd, Nat.reduceMul, Nat.reduceSub, Int.reduceNeg, Int.reduceToNat, upto, renB, setAll]
      | (refine T.nil ?_; (first | refine hK _ _ _ (by rfl) ?_ | refine hK _ _ _ ?_); (try simp only [keep, List.map, lk, reduceIte, Nat.reduceEqDiff, enter]); clear hK K)
      | (show WOpsT _ (⟨_, .call _ _, none⟩ :: _) _ _ _ _; first | refine T.call0 e35 rfl (hlow) ?_ | refine T.call0 e57 rfl (hfit) ?_ | refine T.call0 e126 rfl (hdo) ?_ | refine T.call0 e127 rfl (he) ?_)
      | (show WOpsT _ (⟨_, .ld _ _, none⟩ :: _) _ _ _ _; first | refine L.ld ?_ | refine L.ldd ?_ | refine L.ldn ?_ | refine L.lddn ?_)
      | (show WOpsT _ (⟨_, .idx _ _ _ _, none⟩ :: _) _ _ _ _; first | refine L.idx ?_ | refine L.idxs ?_ | refine L.idxa ?_ | refine L.idxd ?_)
      | (show WOpsT _ (⟨_, .bin _ _ _, none⟩ :: _) _ _ _ _; first | refine L.add ?_ | refine L.bin ?_)
      | (show WOpsT _ (⟨_, _, some (_, true)⟩ :: _) _ _ _ _; first | refine L.goT ?_ | refine L.paT ?_ | refine L.go ?_ | refine L.pass ?_ | refine T.pU rfl ?_ | refine T.gT rfl (fun hgd => ?_) (fun hgd => ?_))
      | (show WOpsT _ (⟨_, .pick _ _ _, none⟩ :: _) _ _ _ _; first | refine L.pkT ?_ | refine L.pkF ?_ | refine L.pickT ?_ | refine L.pickF ?_ | refine L.pickB ?_ | refine T.pkD rfl (fun hgd => ?_) (fun hgd => ?_))
      | (show AKW _ _ _ _ _ _ _; first | refine N.now ?_)
      | (show AK _ _ (.cond _ _ _) _ _ _ _; first | refine N.c1 ?_ | refine N.c2 ?_ | refine N.c3 ?_ | refine N.c4 ?_ | refine N.condD rfl (fun hcd => ?_) (fun hcd => ?_) | refine N.condB rfl (fun hcd => ?_) (fun hcd => ?_) | refine N.condU rfl ?_ ?_)
      | (show AK _ _ _ _ _ _ _; first | refine N.seq ?_ | refine N.block ?_ | refine N.skip ?_ | refine N.exit ?_ | refine N.ret ?_)
      | (show RK _ _ _ _ _ _ _; simp only [rk, rk0, reduceIte, Nat.reduceEqDiff])
      | (show WOpsT _ _ _ _ _ _; first | refine L.ext ?_ | refine T.notD rfl ?_ | refine T.not rfl ?_ | refine L.fad ?_ | refine L.fadd ?_ | refine L.st ?_ | refine L.new ?_ | refine L.zero ?_ | refine L.len ?_ | refine L.lenS ?_ | refine L.lenN ?_)
      | refine hQ _ _ _ rfl ?_
      | refine hQN _ _ _ rfl ?_)
      all_goals first
        | exact WS.drop (n := 0) rfl rfl
        | (exfalso; omega)
  | some x =>
    dsimp only
    have hdo := doing_some c q op a nmi hlen x hd
    have hcy := cycles_c c op hlen
    have hsm := cycM_sml c hc op
    obtain ⟨hsm1, hsm2⟩ := hsm
    have hx6 : x.steps.length ≤ 6 ∧ 0 ≤ a ∧ a < 8 := by
      unfold doingM at hd
      split at hd
      · cases hd
      · have h2 := (List.getElem?_eq_some_iff.1 hd).1
        exact ⟨hsm2 x (List.mem_of_getElem? hd), by omega, by omega⟩
    obtain ⟨xb, xa, xr, xs⟩ := x
    dsimp only at hx6 ⊢
    unfold regM
    dsimp only
    generalize cycM c op = cl at *
    by_cases hw : xb = 1 ∧ 0 ≤ xr ∧ xr < 9
    · rw [if_pos hw]
      have e5 : 0 + xr.toNat * 1 = xr.toNat := by omega
      have hx9 : xr.toNat < 9 := by omega
      generalize hrr : upd q xr.toNat d = rr
      refine N.fn Try.func69 k69 lb q69 fun Q hQ hQN => ?_
      rw [c69]
      repeat' (first
      | rw [co_mren]
      | rw [co_co]
      | rw [co_t12]
      | rw [co_t9]
      | rw [ri_t9]
      | rw [cp_t5]
      | rw [co_z]
      | rw [ri_mren]
      | rw [co_r]
      | rw [co_op]
      | rw [co_at]
      | rw [co_nmi]
      | rw [ri_splz]
      | rw [List.length_map]
      | rw [e5]
      | (show WOpsT _ (⟨_, .st _ _ _, none⟩ :: _) _ _ _ _; refine T.st rfl rfl rfl ⟨rfl, rfl⟩ rfl (show _ ≤ 12 by omega) ?_)
      | rw [co_reg _ _ _ _ _ _ hx9]
      | rw [hrr]
      | refine N.regS fun K hK => ?_
      | refine N.dregS fun K hK => ?_
      | refine N.regN fun K hK => ?_
      | refine N.dregN fun K hK => ?_
      | simp only [T.mv, sm, AO.ev, put, lk, enter, reduceIte, Nat.reduceEqDiff, Nat.reduceAdd, Nat.reduceMul, Nat.reduceSub, Int.reduceNeg, Int.reduceToNat, upto, renB, setAll]
      | (refine T.nil ?_; (first | refine hK _ _ _ (by rfl) ?_ | refine hK _ _ _ ?_); (try simp only [keep, List.map, lk, reduceIte, Nat.reduceEqDiff, enter]); clear hK K)
      | (show WOpsT _ (⟨_, .call _ _, none⟩ :: _) _ _ _ _; first | refine T.call0 e35 rfl (hlow) ?_ | refine T.call0 e57 rfl (hfit) ?_ | refine T.call0 e126 rfl (hdo) ?_)
      | (show WOpsT _ (⟨_, .ld _ _, none⟩ :: _) _ _ _ _; first | refine L.ld ?_ | refine L.ldd ?_ | refine L.ldn ?_ | refine L.lddn ?_)
      | (show WOpsT _ (⟨_, .idx _ _ _ _, none⟩ :: _) _ _ _ _; first | refine L.idx ?_ | refine L.idxs ?_ | refine L.idxa ?_ | refine L.idxd ?_)
      | (show WOpsT _ (⟨_, .bin _ _ _, none⟩ :: _) _ _ _ _; first | refine L.add ?_ | refine L.bin ?_)
      | (show WOpsT _ (⟨_, _, some (_, true)⟩ :: _) _ _ _ _; first | refine L.goT ?_ | refine L.paT ?_ | refine L.go ?_ | refine L.pass ?_ | refine T.pU rfl ?_ | refine T.gT rfl (fun hgd => ?_) (fun hgd => ?_))
      | (show WOpsT _ (⟨_, .pick _ _ _, none⟩ :: _) _ _ _ _; first | refine L.pkT ?_ | refine L.pkF ?_ | refine L.pickT ?_ | refine L.pickF ?_ | refine L.pickB ?_ | refine T.pkD rfl (fun hgd => ?_) (fun hgd => ?_))
      | (show AKW _ _ _ _ _ _ _; first | refine N.now ?_)
      | (show AK _ _ (.cond _ _ _) _ _ _ _; first | refine N.c1 ?_ | refine N.c2 ?_ | refine N.c3 ?_ | refine N.c4 ?_ | refine N.condD rfl (fun hcd => ?_) (fun hcd => ?_) | refine N.condB rfl (fun hcd => ?_) (fun hcd => ?_) | refine N.condU rfl ?_ ?_)
      | (show AK _ _ _ _ _ _ _; first | refine N.seq ?_ | refine N.block ?_ | refine N.skip ?_ | refine N.exit ?_ | refine N.ret ?_)
      | (show RK _ _ _ _ _ _ _; simp only [rk, rk0, reduceIte, Nat.reduceEqDiff])
      | (show WOpsT _ _ _ _ _ _; first | refine L.ext ?_ | refine T.notD rfl ?_ | refine T.not rfl ?_ | refine L.fad ?_ | refine L.fadd ?_ | refine L.st ?_ | refine L.new ?_ | refine L.zero ?_ | refine L.len ?_ | refine L.lenS ?_ | refine L.lenN ?_)
      | refine hQ _ _ _ rfl ?_
      | refine hQN _ _ _ rfl ?_)
      refine N.loop (σ := Nat × (Nat → Int)) (fun s => [(3, .ptr 0 1 0 0), (4, .ptr 1 1 0 0), (6, .ptr 2 1 0 0), (77, .sl 4 (xs.map stC)), (78, I xs.length), (79, I s.1)]) (fun s => [⟨1, 5, [cpC c]⟩, ⟨1, 12, [coA s.2 op (a + 1) nmi]⟩, ⟨1, 12, [[I 0, I 0, I 0, I 0, I 0, I 0, I 0, I 0, I 0, I 0, I 0, .c (.bool false)]]⟩]) (fun s => s.1 ≤ xs.length ∧ stepsM xs rr = stepsM (xs.drop s.1) s.2) (fun s => xs.length - s.1) (0, rr) ⟨by omega, rfl⟩ (Weaks.gc [0, 1, 2] 1 rfl (by repeat (first | exact trivial | refine ⟨.rfl, ?_⟩ | refine ⟨.any, ?_⟩)) (by first | rfl | (symm; unfold outH; simp only [List.map]; (repeat' (first | rfl | exact outB_bytes | exact outB_ints | exact outB_flat | refine consE ?_ ?_)); done))) fun w hi R hC => ?_
      obtain ⟨i, pr⟩ := w
      obtain ⟨hi, hst⟩ := hi
      dsimp only at hi hst hC ⊢
      by_cases hil : i < xs.length
      · have hm := mget stC xs i hil
        rw [stepsM_drop xs i hil pr] at hst
        obtain ⟨y, hy⟩ : ∃ y, xs[i] = y := ⟨_, rfl⟩
        rw [hy] at hm hst
        obtain ⟨so, st, sf, sn⟩ := y
        have hdd := do_ok so st sf sn pr
        dsimp only at hst
        generalize doR so st sf sn pr = w at *
        obtain ⟨p2, en⟩ := w
        dsimp only at hst hdd
        cases en
        · rw [if_neg (by decide)] at hst
          repeat' (first
          | rw [co_mren]
          | rw [co_co]
          | rw [co_t12]
          | rw [co_t9]
          | rw [ri_t9]
          | rw [cp_t5]
          | rw [co_z]
          | rw [ri_mren]
          | rw [co_r]
          | rw [co_op]
          | rw [co_at]
          | rw [co_nmi]
          | rw [ri_splz]
          | rw [List.length_map]
          | (show WOpsT _ (⟨_, .idx _ _ _ _, none⟩ :: _) _ _ _ _; refine T.idxs rfl rfl rfl (by omega) hm ?_)
          | refine N.regS fun K hK => ?_
          | refine N.dregS fun K hK => ?_
          | refine N.regN fun K hK => ?_
          | refine N.dregN fun K hK => ?_
          | simp only [T.mv, sm, AO.ev, put, lk, enter, reduceIte, Nat.reduceEqDiff, Nat.reduceAdd, Nat.reduceMul, Nat.reduceSub, Int.reduceNeg, Int.reduceToNat, upto, renB, setAll]
          | (refine T.nil ?_; (first | refine hK _ _ _ (by rfl) ?_ | refine hK _ _ _ ?_); (try simp only [keep, List.map, lk, reduceIte, Nat.reduceEqDiff, enter]); clear hK K)
          | (show WOpsT _ (⟨_, .call _ _, none⟩ :: _) _ _ _ _; first | refine T.call0 e54 rfl (hdd) ?_)
          | (show WOpsT _ (⟨_, .ld _ _, none⟩ :: _) _ _ _ _; first | refine L.ld ?_ | refine L.ldd ?_ | refine L.ldn ?_ | refine L.lddn ?_)
          | (show WOpsT _ (⟨_, .idx _ _ _ _, none⟩ :: _) _ _ _ _; first | refine L.idx ?_ | refine L.idxs ?_ | refine L.idxa ?_ | refine L.idxd ?_)
          | (show WOpsT _ (⟨_, .bin _ _ _, none⟩ :: _) _ _ _ _; first | refine L.add ?_ | refine L.bin ?_)
          | (show WOpsT _ (⟨_, _, some (_, true)⟩ :: _) _ _ _ _; first | refine L.goT ?_ | refine L.paT ?_ | refine L.go ?_ | refine L.pass ?_ | refine T.pU rfl ?_ | refine T.gT rfl (fun hgd => ?_) (fun hgd => ?_))
          | (show WOpsT _ (⟨_, .pick _ _ _, none⟩ :: _) _ _ _ _; first | refine L.pkT ?_ | refine L.pkF ?_ | refine L.pickT ?_ | refine L.pickF ?_ | refine L.pickB ?_ | refine T.pkD rfl (fun hgd => ?_) (fun hgd => ?_))
          | (show AKW _ _ _ _ _ _ _; first | refine N.now ?_)
          | (show AK _ _ (.cond _ _ _) _ _ _ _; first | refine N.c1 ?_ | refine N.c2 ?_ | refine N.c3 ?_ | refine N.c4 ?_ | refine N.condD rfl (fun hcd => ?_) (fun hcd => ?_) | refine N.condB rfl (fun hcd => ?_) (fun hcd => ?_) | refine N.condU rfl ?_ ?_)
          | (show AK _ _ _ _ _ _ _; first | refine N.seq ?_ | refine N.block ?_ | refine N.skip ?_ | refine N.exit ?_ | refine N.ret ?_)
          | (show RK _ _ _ _ _ _ _; simp only [rk, rk0, reduceIte, Nat.reduceEqDiff])
          | (show WOpsT _ _ _ _ _ _; first | refine L.ext ?_ | refine T.notD rfl ?_ | refine T.not rfl ?_ | refine L.fad ?_ | refine L.fadd ?_ | refine L.st ?_ | refine L.new ?_ | refine L.zero ?_ | refine L.len ?_ | refine L.lenS ?_ | refine L.lenN ?_)
          | refine hQ _ _ _ rfl ?_
          | refine hQN _ _ _ rfl ?_)
          exact hC _ _ (i + 1, p2) ⟨by dsimp only; omega, hst⟩ (by dsimp only; omega) (Weaks.gc [0, 1, 2] 1 rfl (by repeat (first | exact trivial | refine ⟨.rfl, ?_⟩ | refine ⟨.any, ?_⟩)) (by first | rfl | (symm; unfold outH; simp only [List.map]; (repeat' (first | rfl | exact outB_bytes | exact outB_ints | exact outB_flat | refine consE ?_ ?_)); done)))
        · rw [if_pos rfl] at hst
          rw [hst, if_pos (.inl rfl)] at hQ hQN
          repeat' (first
          | rw [co_mren]
          | rw [co_co]
          | rw [co_t12]
          | rw [co_t9]
          | rw [ri_t9]
          | rw [cp_t5]
          | rw [co_z]
          | rw [ri_mren]
          | rw [co_r]
          | rw [co_op]
          | rw [co_at]
          | rw [co_nmi]
          | rw [ri_splz]
          | rw [List.length_map]
          | (show WOpsT _ (⟨_, .idx _ _ _ _, none⟩ :: _) _ _ _ _; refine T.idxs rfl rfl rfl (by omega) hm ?_)
          | refine N.regS fun K hK => ?_
          | refine N.dregS fun K hK => ?_
          | refine N.regN fun K hK => ?_
          | refine N.dregN fun K hK => ?_
          | simp only [T.mv, sm, AO.ev, put, lk, enter, reduceIte, Nat.reduceEqDiff, Nat.reduceAdd, Nat.reduceMul, Nat.reduceSub, Int.reduceNeg, Int.reduceToNat, upto, renB, setAll]
          | (refine T.nil ?_; (first | refine hK _ _ _ (by rfl) ?_ | refine hK _ _ _ ?_); (try simp only [keep, List.map, lk, reduceIte, Nat.reduceEqDiff, enter]); clear hK K)
          | (show WOpsT _ (⟨_, .call _ _, none⟩ :: _) _ _ _ _; first | refine T.call0 e54 rfl (hdd) ?_)
          | (show WOpsT _ (⟨_, .ld _ _, none⟩ :: _) _ _ _ _; first | refine L.ld ?_ | refine L.ldd ?_ | refine L.ldn ?_ | refine L.lddn ?_)
          | (show WOpsT _ (⟨_, .idx _ _ _ _, none⟩ :: _) _ _ _ _; first | refine L.idx ?_ | refine L.idxs ?_ | refine L.idxa ?_ | refine L.idxd ?_)
          | (show WOpsT _ (⟨_, .bin _ _ _, none⟩ :: _) _ _ _ _; first | refine L.add ?_ | refine L.bin ?_)
          | (show WOpsT _ (⟨_, _, some (_, true)⟩ :: _) _ _ _ _; first | refine L.goT ?_ | refine L.paT ?_ | refine L.go ?_ | refine L.pass ?_ | refine T.pU rfl ?_ | refine T.gT rfl (fun hgd => ?_) (fun hgd => ?_))
          | (show WOpsT _ (⟨_, .pick _ _ _, none⟩ :: _) _ _ _ _; first | refine L.pkT ?_ | refine L.pkF ?_ | refine L.pickT ?_ | refine L.pickF ?_ | refine L.pickB ?_ | refine T.pkD rfl (fun hgd => ?_) (fun hgd => ?_))
          | (show AKW _ _ _ _ _ _ _; first | refine N.now ?_)
          | (show AK _ _ (.cond _ _ _) _ _ _ _; first | refine N.c1 ?_ | refine N.c2 ?_ | refine N.c3 ?_ | refine N.c4 ?_ | refine N.condD rfl (fun hcd => ?_) (fun hcd => ?_) | refine N.condB rfl (fun hcd => ?_) (fun hcd => ?_) | refine N.condU rfl ?_ ?_)
          | (show AK _ _ _ _ _ _ _; first | refine N.seq ?_ | refine N.block ?_ | refine N.skip ?_ | refine N.exit ?_ | refine N.ret ?_)
          | (show RK _ _ _ _ _ _ _; simp only [rk, rk0, reduceIte, Nat.reduceEqDiff])
          | (show WOpsT _ _ _ _ _ _; first | refine L.ext ?_ | refine T.notD rfl ?_ | refine T.not rfl ?_ | refine L.fad ?_ | refine L.fadd ?_ | refine L.st ?_ | refine L.new ?_ | refine L.zero ?_ | refine L.len ?_ | refine L.lenS ?_ | refine L.lenN ?_)
          | refine hQ _ _ _ rfl ?_
          | refine hQN _ _ _ rfl ?_)
          exact WS.drop (n := 0) rfl rfl
      · obtain rfl : i = xs.length := by omega
        rw [List.drop_length] at hst
        rw [hst] at hQ hQN
        by_cases hl2 : (cl.length : Int) ≤ a + 1
        · rw [if_pos (.inr hl2)] at hQ hQN
          repeat' (first
          | rw [co_mren]
          | rw [co_co]
          | rw [co_t12]
          | rw [co_t9]
          | rw [ri_t9]
          | rw [cp_t5]
          | rw [co_z]
          | rw [ri_mren]
          | rw [co_r]
          | rw [co_op]
          | rw [co_at]
          | rw [co_nmi]
          | rw [ri_splz]
          | rw [List.length_map]
          | refine N.regS fun K hK => ?_
          | refine N.dregS fun K hK => ?_
          | refine N.regN fun K hK => ?_
          | refine N.dregN fun K hK => ?_
          | simp only [T.mv, sm, AO.ev, put, lk, enter, reduceIte, Nat.reduceEqDiff, Nat.reduceAdd, Nat.reduceMul, Nat.reduceSub, Int.reduceNeg, Int.reduceToNat, upto, renB, setAll]
          | (refine T.nil ?_; (first | refine hK _ _ _ (by rfl) ?_ | refine hK _ _ _ ?_); (try simp only [keep, List.map, lk, reduceIte, Nat.reduceEqDiff, enter]); clear hK K)
          | (show WOpsT _ (⟨_, .call _ _, none⟩ :: _) _ _ _ _; first | refine T.call0 e128 rfl (hcy) ?_)
          | (show WOpsT _ (⟨_, .ld _ _, none⟩ :: _) _ _ _ _; first | refine L.ld ?_ | refine L.ldd ?_ | refine L.ldn ?_ | refine L.lddn ?_)
          | (show WOpsT _ (⟨_, .idx _ _ _ _, none⟩ :: _) _ _ _ _; first | refine L.idx ?_ | refine L.idxs ?_ | refine L.idxa ?_ | refine L.idxd ?_)
          | (show WOpsT _ (⟨_, .bin _ _ _, none⟩ :: _) _ _ _ _; first | refine L.add ?_ | refine L.bin ?_)
          | (show WOpsT _ (⟨_, _, some (_, true)⟩ :: _) _ _ _ _; first | refine L.goT ?_ | refine L.paT ?_ | refine L.go ?_ | refine L.pass ?_ | refine T.pU rfl ?_ | refine T.gT rfl (fun hgd => ?_) (fun hgd => ?_))
          | (show WOpsT _ (⟨_, .pick _ _ _, none⟩ :: _) _ _ _ _; first | refine L.pkT ?_ | refine L.pkF ?_ | refine L.pickT ?_ | refine L.pickF ?_ | refine L.pickB ?_ | refine T.pkD rfl (fun hgd => ?_) (fun hgd => ?_))
          | (show AKW _ _ _ _ _ _ _; first | refine N.now ?_)
          | (show AK _ _ (.cond _ _ _) _ _ _ _; first | refine N.c1 ?_ | refine N.c2 ?_ | refine N.c3 ?_ | refine N.c4 ?_ | refine N.condD rfl (fun hcd => ?_) (fun hcd => ?_) | refine N.condB rfl (fun hcd => ?_) (fun hcd => ?_) | refine N.condU rfl ?_ ?_)
          | (show AK _ _ _ _ _ _ _; first | refine N.seq ?_ | refine N.block ?_ | refine N.skip ?_ | refine N.exit ?_ | refine N.ret ?_)
          | (show RK _ _ _ _ _ _ _; simp only [rk, rk0, reduceIte, Nat.reduceEqDiff])
          | (show WOpsT _ _ _ _ _ _; first | refine L.ext ?_ | refine T.notD rfl ?_ | refine T.not rfl ?_ | refine L.fad ?_ | refine L.fadd ?_ | refine L.st ?_ | refine L.new ?_ | refine L.zero ?_ | refine L.len ?_ | refine L.lenS ?_ | refine L.lenN ?_)
          | refine hQ _ _ _ rfl ?_
          | refine hQN _ _ _ rfl ?_)
          all_goals first
            | exact WS.drop (n := 0) rfl rfl
            | (exfalso; omega)
        · rw [if_neg (by
            rintro (h | h)
            · cases h
            · exact hl2 h)] at hQ hQN
          repeat' (first
          | rw [co_mren]
          | rw [co_co]
          | rw [co_t12]
          | rw [co_t9]
          | rw [ri_t9]
          | rw [cp_t5]
          | rw [co_z]
          | rw [ri_mren]
          | rw [co_r]
          | rw [co_op]
          | rw [co_at]
          | rw [co_nmi]
          | rw [ri_splz]
          | rw [List.length_map]
          | refine N.regS fun K hK => ?_
          | refine N.dregS fun K hK => ?_
          | refine N.regN fun K hK => ?_
          | refine N.dregN fun K hK => ?_
          | simp only [T.mv, sm, AO.ev, put, lk, enter, reduceIte, Nat.reduceEqDiff, Nat.reduceAdd, Nat.reduceMul, Nat.reduceSub, Int.reduceNeg, Int.reduceToNat, upto, renB, setAll]
          | (refine T.nil ?_; (first | refine hK _ _ _ (by rfl) ?_ | refine hK _ _ _ ?_); (try simp only [keep, List.map, lk, reduceIte, Nat.reduceEqDiff, enter]); clear hK K)
          | (show WOpsT _ (⟨_, .call _ _, none⟩ :: _) _ _ _ _; first | refine T.call0 e128 rfl (hcy) ?_)
          | (show WOpsT _ (⟨_, .ld _ _, none⟩ :: _) _ _ _ _; first | refine L.ld ?_ | refine L.ldd ?_ | refine L.ldn ?_ | refine L.lddn ?_)
          | (show WOpsT _ (⟨_, .idx _ _ _ _, none⟩ :: _) _ _ _ _; first | refine L.idx ?_ | refine L.idxs ?_ | refine L.idxa ?_ | refine L.idxd ?_)
          | (show WOpsT _ (⟨_, .bin _ _ _, none⟩ :: _) _ _ _ _; first | refine L.add ?_ | refine L.bin ?_)
          | (show WOpsT _ (⟨_, _, some (_, true)⟩ :: _) _ _ _ _; first | refine L.goT ?_ | refine L.paT ?_ | refine L.go ?_ | refine L.pass ?_ | refine T.pU rfl ?_ | refine T.gT rfl (fun hgd => ?_) (fun hgd => ?_))
          | (show WOpsT _ (⟨_, .pick _ _ _, none⟩ :: _) _ _ _ _; first | refine L.pkT ?_ | refine L.pkF ?_ | refine L.pickT ?_ | refine L.pickF ?_ | refine L.pickB ?_ | refine T.pkD rfl (fun hgd => ?_) (fun hgd => ?_))
          | (show AKW _ _ _ _ _ _ _; first | refine N.now ?_)
          | (show AK _ _ (.cond _ _ _) _ _ _ _; first | refine N.c1 ?_ | refine N.c2 ?_ | refine N.c3 ?_ | refine N.c4 ?_ | refine N.condD rfl (fun hcd => ?_) (fun hcd => ?_) | refine N.condB rfl (fun hcd => ?_) (fun hcd => ?_) | refine N.condU rfl ?_ ?_)
          | (show AK _ _ _ _ _ _ _; first | refine N.seq ?_ | refine N.block ?_ | refine N.skip ?_ | refine N.exit ?_ | refine N.ret ?_)
          | (show RK _ _ _ _ _ _ _; simp only [rk, rk0, reduceIte, Nat.reduceEqDiff])
          | (show WOpsT _ _ _ _ _ _; first | refine L.ext ?_ | refine T.notD rfl ?_ | refine T.not rfl ?_ | refine L.fad ?_ | refine L.fadd ?_ | refine L.st ?_ | refine L.new ?_ | refine L.zero ?_ | refine L.len ?_ | refine L.lenS ?_ | refine L.lenN ?_)
          | refine hQ _ _ _ rfl ?_
          | refine hQN _ _ _ rfl ?_)
          all_goals first
            | exact WS.drop (n := 0) rfl rfl
            | (exfalso; omega)
    · rw [if_neg hw]
      generalize hrr : q = rr at *
      refine N.fn Try.func69 k69 lb q69 fun Q hQ hQN => ?_
      rw [c69]
      repeat' (first
      | rw [co_mren]
      | rw [co_co]
      | rw [co_t12]
      | rw [co_t9]
      | rw [ri_t9]
      | rw [cp_t5]
      | rw [co_z]
      | rw [ri_mren]
      | rw [co_r]
      | rw [co_op]
      | rw [co_at]
      | rw [co_nmi]
      | rw [ri_splz]
      | rw [List.length_map]
      | refine N.regS fun K hK => ?_
      | refine N.dregS fun K hK => ?_
      | refine N.regN fun K hK => ?_
      | refine N.dregN fun K hK => ?_
      | simp only [T.mv, sm, AO.ev, put, lk, enter, reduceIte, Nat.reduceEqDiff, Nat.reduceAdd, Nat.reduceMul, Nat.reduceSub, Int.reduceNeg, Int.reduceToNat, upto, renB, setAll]
      | (refine T.nil ?_; (first | refine hK _ _ _ (by rfl) ?_ | refine hK _ _ _ ?_); (try simp only [keep, List.map, lk, reduceIte, Nat.reduceEqDiff, enter]); clear hK K)
      | (show WOpsT _ (⟨_, .call _ _, none⟩ :: _) _ _ _ _; first | refine T.call0 e35 rfl (hlow) ?_ | refine T.call0 e57 rfl (hfit) ?_ | refine T.call0 e126 rfl (hdo) ?_)
      | (show WOpsT _ (⟨_, .ld _ _, none⟩ :: _) _ _ _ _; first | refine L.ld ?_ | refine L.ldd ?_ | refine L.ldn ?_ | refine L.lddn ?_)
      | (show WOpsT _ (⟨_, .idx _ _ _ _, none⟩ :: _) _ _ _ _; first | refine L.idx ?_ | refine L.idxs ?_ | refine L.idxa ?_ | refine L.idxd ?_)
      | (show WOpsT _ (⟨_, .bin _ _ _, none⟩ :: _) _ _ _ _; first | refine L.add ?_ | refine L.bin ?_)
      | (show WOpsT _ (⟨_, _, some (_, true)⟩ :: _) _ _ _ _; first | refine L.goT ?_ | refine L.paT ?_ | refine L.go ?_ | refine L.pass ?_ | refine T.pU rfl ?_ | refine T.gT rfl (fun hgd => ?_) (fun hgd => ?_))
      | (show WOpsT _ (⟨_, .pick _ _ _, none⟩ :: _) _ _ _ _; first | refine L.pkT ?_ | refine L.pkF ?_ | refine L.pickT ?_ | refine L.pickF ?_ | refine L.pickB ?_ | refine T.pkD rfl (fun hgd => ?_) (fun hgd => ?_))
      | (show AKW _ _ _ _ _ _ _; first | refine N.now ?_)
      | (show AK _ _ (.cond _ _ _) _ _ _ _; first | refine N.c1 ?_ | refine N.c2 ?_ | refine N.c3 ?_ | refine N.c4 ?_ | refine N.condD rfl (fun hcd => ?_) (fun hcd => ?_) | refine N.condB rfl (fun hcd => ?_) (fun hcd => ?_) | refine N.condU rfl ?_ ?_)
      | (show AK _ _ _ _ _ _ _; first | refine N.seq ?_ | refine N.block ?_ | refine N.skip ?_ | refine N.exit ?_ | refine N.ret ?_)
      | (show RK _ _ _ _ _ _ _; simp only [rk, rk0, reduceIte, Nat.reduceEqDiff])
      | (show WOpsT _ _ _ _ _ _; first | refine L.ext ?_ | refine T.notD rfl ?_ | refine T.not rfl ?_ | refine L.fad ?_ | refine L.fadd ?_ | refine L.st ?_ | refine L.new ?_ | refine L.zero ?_ | refine L.len ?_ | refine L.lenS ?_ | refine L.lenN ?_)
      | refine hQ _ _ _ rfl ?_
      | refine hQN _ _ _ rfl ?_)
      all_goals
        refine N.loop (σ := Nat × (Nat → Int)) (fun s => [(3, .ptr 0 1 0 0), (4, .ptr 1 1 0 0), (6, .ptr 2 1 0 0), (77, .sl 4 (xs.map stC)), (78, I xs.length), (79, I s.1)]) (fun s => [⟨1, 5, [cpC c]⟩, ⟨1, 12, [coA s.2 op (a + 1) nmi]⟩, ⟨1, 12, [[I 0, I 0, I 0, I 0, I 0, I 0, I 0, I 0, I 0, I 0, I 0, .c (.bool false)]]⟩]) (fun s => s.1 ≤ xs.length ∧ stepsM xs rr = stepsM (xs.drop s.1) s.2) (fun s => xs.length - s.1) (0, rr) ⟨by omega, rfl⟩ (Weaks.gc [0, 1, 2] 1 rfl (by repeat (first | exact trivial | refine ⟨.rfl, ?_⟩ | refine ⟨.any, ?_⟩)) (by first | rfl | (symm; unfold outH; simp only [List.map]; (repeat' (first | rfl | exact outB_bytes | exact outB_ints | exact outB_flat | refine consE ?_ ?_)); done))) fun w hi R hC => ?_
        obtain ⟨i, pr⟩ := w
        obtain ⟨hi, hst⟩ := hi
        dsimp only at hi hst hC ⊢
        by_cases hil : i < xs.length
        · have hm := mget stC xs i hil
          rw [stepsM_drop xs i hil pr] at hst
          obtain ⟨y, hy⟩ : ∃ y, xs[i] = y := ⟨_, rfl⟩
          rw [hy] at hm hst
          obtain ⟨so, st, sf, sn⟩ := y
          have hdd := do_ok so st sf sn pr
          dsimp only at hst
          generalize doR so st sf sn pr = w at *
          obtain ⟨p2, en⟩ := w
          dsimp only at hst hdd
          cases en
          · rw [if_neg (by decide)] at hst
            repeat' (first
            | rw [co_mren]
            | rw [co_co]
            | rw [co_t12]
            | rw [co_t9]
            | rw [ri_t9]
            | rw [cp_t5]
            | rw [co_z]
            | rw [ri_mren]
            | rw [co_r]
            | rw [co_op]
            | rw [co_at]
            | rw [co_nmi]
            | rw [ri_splz]
            | rw [List.length_map]
            | (show WOpsT _ (⟨_, .idx _ _ _ _, none⟩ :: _) _ _ _ _; refine T.idxs rfl rfl rfl (by omega) hm ?_)
            | refine N.regS fun K hK => ?_
            | refine N.dregS fun K hK => ?_
            | refine N.regN fun K hK => ?_
            | refine N.dregN fun K hK => ?_
            | simp only [T.mv, sm, AO.ev, put, lk, enter, reduceIte, Nat.reduceEqDiff, Nat.reduceAdd, Nat.reduceMul, Nat.reduceSub, Int.reduceNeg, Int.reduceToNat, upto, renB, setAll]
            | (refine T.nil ?_; (first | refine hK _ _ _ (by rfl) ?_ | refine hK _ _ _ ?_); (try simp only [keep, List.map, lk, reduceIte, Nat.reduceEqDiff, enter]); clear hK K)
            | (show WOpsT _ (⟨_, .call _ _, none⟩ :: _) _ _ _ _; first | refine T.call0 e54 rfl (hdd) ?_)
            | (show WOpsT _ (⟨_, .ld _ _, none⟩ :: _) _ _ _ _; first | refine L.ld ?_ | refine L.ldd ?_ | refine L.ldn ?_ | refine L.lddn ?_)
            | (show WOpsT _ (⟨_, .idx _ _ _ _, none⟩ :: _) _ _ _ _; first | refine L.idx ?_ | refine L.idxs ?_ | refine L.idxa ?_ | refine L.idxd ?_)
            | (show WOpsT _ (⟨_, .bin _ _ _, none⟩ :: _) _ _ _ _; first | refine L.add ?_ | refine L.bin ?_)
            | (show WOpsT _ (⟨_, _, some (_, true)⟩ :: _) _ _ _ _; first | refine L.goT ?_ | refine L.paT ?_ | refine L.go ?_ | refine L.pass ?_ | refine T.pU rfl ?_ | refine T.gT rfl (fun hgd => ?_) (fun hgd => ?_))
            | (show WOpsT _ (⟨_, .pick _ _ _, none⟩ :: _) _ _ _ _; first | refine L.pkT ?_ | refine L.pkF ?_ | refine L.pickT ?_ | refine L.pickF ?_ | refine L.pickB ?_ | refine T.pkD rfl (fun hgd => ?_) (fun hgd => ?_))
            | (show AKW _ _ _ _ _ _ _; first | refine N.now ?_)
            | (show AK _ _ (.cond _ _ _) _ _ _ _; first | refine N.c1 ?_ | refine N.c2 ?_ | refine N.c3 ?_ | refine N.c4 ?_ | refine N.condD rfl (fun hcd => ?_) (fun hcd => ?_) | refine N.condB rfl (fun hcd => ?_) (fun hcd => ?_) | refine N.condU rfl ?_ ?_)
            | (show AK _ _ _ _ _ _ _; first | refine N.seq ?_ | refine N.block ?_ | refine N.skip ?_ | refine N.exit ?_ | refine N.ret ?_)
            | (show RK _ _ _ _ _ _ _; simp only [rk, rk0, reduceIte, Nat.reduceEqDiff])
            | (show WOpsT _ _ _ _ _ _; first | refine L.ext ?_ | refine T.notD rfl ?_ | refine T.not rfl ?_ | refine L.fad ?_ | refine L.fadd ?_ | refine L.st ?_ | refine L.new ?_ | refine L.zero ?_ | refine L.len ?_ | refine L.lenS ?_ | refine L.lenN ?_)
            | refine hQ _ _ _ rfl ?_
            | refine hQN _ _ _ rfl ?_)
            exact hC _ _ (i + 1, p2) ⟨by dsimp only; omega, hst⟩ (by dsimp only; omega) (Weaks.gc [0, 1, 2] 1 rfl (by repeat (first | exact trivial | refine ⟨.rfl, ?_⟩ | refine ⟨.any, ?_⟩)) (by first | rfl | (symm; unfold outH; simp only [List.map]; (repeat' (first | rfl | exact outB_bytes | exact outB_ints | exact outB_flat | refine consE ?_ ?_)); done)))
          · rw [if_pos rfl] at hst
            rw [hst, if_pos (.inl rfl)] at hQ hQN
            repeat' (first
            | rw [co_mren]
            | rw [co_co]
            | rw [co_t12]
            | rw [co_t9]
            | rw [ri_t9]
            | rw [cp_t5]
            | rw [co_z]
            | rw [ri_mren]
            | rw [co_r]
            | rw [co_op]
            | rw [co_at]
            | rw [co_nmi]
            | rw [ri_splz]
            | rw [List.length_map]
            | (show WOpsT _ (⟨_, .idx _ _ _ _, none⟩ :: _) _ _ _ _; refine T.idxs rfl rfl rfl (by omega) hm ?_)
            | refine N.regS fun K hK => ?_
            | refine N.dregS fun K hK => ?_
            | refine N.regN fun K hK => ?_
            | refine N.dregN fun K hK => ?_
            | simp only [T.mv, sm, AO.ev, put, lk, enter, reduceIte, Nat.reduceEqDiff, Nat.reduceAdd, Nat.reduceMul, Nat.reduceSub, Int.reduceNeg, Int.reduceToNat, upto, renB, setAll]
            | (refine T.nil ?_; (first | refine hK _ _ _ (by rfl) ?_ | refine hK _ _ _ ?_); (try simp only [keep, List.map, lk, reduceIte, Nat.reduceEqDiff, enter]); clear hK K)
            | (show WOpsT _ (⟨_, .call _ _, none⟩ :: _) _ _ _ _; first | refine T.call0 e54 rfl (hdd) ?_)
            | (show WOpsT _ (⟨_, .ld _ _, none⟩ :: _) _ _ _ _; first | refine L.ld ?_ | refine L.ldd ?_ | refine L.ldn ?_ | refine L.lddn ?_)
            | (show WOpsT _ (⟨_, .idx _ _ _ _, none⟩ :: _) _ _ _ _; first | refine L.idx ?_ | refine L.idxs ?_ | refine L.idxa ?_ | refine L.idxd ?_)
            | (show WOpsT _ (⟨_, .bin _ _ _, none⟩ :: _) _ _ _ _; first | refine L.add ?_ | refine L.bin ?_)
            | (show WOpsT _ (⟨_, _, some (_, true)⟩ :: _) _ _ _ _; first | refine L.goT ?_ | refine L.paT ?_ | refine L.go ?_ | refine L.pass ?_ | refine T.pU rfl ?_ | refine T.gT rfl (fun hgd => ?_) (fun hgd => ?_))
            | (show WOpsT _ (⟨_, .pick _ _ _, none⟩ :: _) _ _ _ _; first | refine L.pkT ?_ | refine L.pkF ?_ | refine L.pickT ?_ | refine L.pickF ?_ | refine L.pickB ?_ | refine T.pkD rfl (fun hgd => ?_) (fun hgd => ?_))
            | (show AKW _ _ _ _ _ _ _; first | refine N.now ?_)
            | (show AK _ _ (.cond _ _ _) _ _ _ _; first | refine N.c1 ?_ | refine N.c2 ?_ | refine N.c3 ?_ | refine N.c4 ?_ | refine N.condD rfl (fun hcd => ?_) (fun hcd => ?_) | refine N.condB rfl (fun hcd => ?_) (fun hcd => ?_) | refine N.condU rfl ?_ ?_)
            | (show AK _ _ _ _ _ _ _; first | refine N.seq ?_ | refine N.block ?_ | refine N.skip ?_ | refine N.exit ?_ | refine N.ret ?_)
            | (show RK _ _ _ _ _ _ _; simp only [rk, rk0, reduceIte, Nat.reduceEqDiff])
            | (show WOpsT _ _ _ _ _ _; first | refine L.ext ?_ | refine T.notD rfl ?_ | refine T.not rfl ?_ | refine L.fad ?_ | refine L.fadd ?_ | refine L.st ?_ | refine L.new ?_ | refine L.zero ?_ | refine L.len ?_ | refine L.lenS ?_ | refine L.lenN ?_)
            | refine hQ _ _ _ rfl ?_
            | refine hQN _ _ _ rfl ?_)
            exact WS.drop (n := 0) rfl rfl
        · obtain rfl : i = xs.length := by omega
          rw [List.drop_length] at hst
          rw [hst] at hQ hQN
          by_cases hl2 : (cl.length : Int) ≤ a + 1
          · rw [if_pos (.inr hl2)] at hQ hQN
            repeat' (first
            | rw [co_mren]
            | rw [co_co]
            | rw [co_t12]
            | rw [co_t9]
            | rw [ri_t9]
            | rw [cp_t5]
            | rw [co_z]
            | rw [ri_mren]
            | rw [co_r]
            | rw [co_op]
            | rw [co_at]
            | rw [co_nmi]
            | rw [ri_splz]
            | rw [List.length_map]
            | refine N.regS fun K hK => ?_
            | refine N.dregS fun K hK => ?_
            | refine N.regN fun K hK => ?_
            | refine N.dregN fun K hK => ?_
            | simp only [T.mv, sm, AO.ev, put, lk, enter, reduceIte, Nat.reduceEqDiff, Nat.reduceAdd, Nat.reduceMul, Nat.reduceSub, Int.reduceNeg, Int.reduceToNat, upto, renB, setAll]
            | (refine T.nil ?_; (first | refine hK _ _ _ (by rfl) ?_ | refine hK _ _ _ ?_); (try simp only [keep, List.map, lk, reduceIte, Nat.reduceEqDiff, enter]); clear hK K)
            | (show WOpsT _ (⟨_, .call _ _, none⟩ :: _) _ _ _ _; first | refine T.call0 e128 rfl (hcy) ?_)
            | (show WOpsT _ (⟨_, .ld _ _, none⟩ :: _) _ _ _ _; first | refine L.ld ?_ | refine L.ldd ?_ | refine L.ldn ?_ | refine L.lddn ?_)
            | (show WOpsT _ (⟨_, .idx _ _ _ _, none⟩ :: _) _ _ _ _; first | refine L.idx ?_ | refine L.idxs ?_ | refine L.idxa ?_ | refine L.idxd ?_)
            | (show WOpsT _ (⟨_, .bin _ _ _, none⟩ :: _) _ _ _ _; first | refine L.add ?_ | refine L.bin ?_)
            | (show WOpsT _ (⟨_, _, some (_, true)⟩ :: _) _ _ _ _; first | refine L.goT ?_ | refine L.paT ?_ | refine L.go ?_ | refine L.pass ?_ | refine T.pU rfl ?_ | refine T.gT rfl (fun hgd => ?_) (fun hgd => ?_))
            | (show WOpsT _ (⟨_, .pick _ _ _, none⟩ :: _) _ _ _ _; first | refine L.pkT ?_ | refine L.pkF ?_ | refine L.pickT ?_ | refine L.pickF ?_ | refine L.pickB ?_ | refine T.pkD rfl (fun hgd => ?_) (fun hgd => ?_))
            | (show AKW _ _ _ _ _ _ _; first | refine N.now ?_)
            | (show AK _ _ (.cond _ _ _) _ _ _ _; first | refine N.c1 ?_ | refine N.c2 ?_ | refine N.c3 ?_ | refine N.c4 ?_ | refine N.condD rfl (fun hcd => ?_) (fun hcd => ?_) | refine N.condB rfl (fun hcd => ?_) (fun hcd => ?_) | refine N.condU rfl ?_ ?_)
            | (show AK _ _ _ _ _ _ _; first | refine N.seq ?_ | refine N.block ?_ | refine N.skip ?_ | refine N.exit ?_ | refine N.ret ?_)
            | (show RK _ _ _ _ _ _ _; simp only [rk, rk0, reduceIte, Nat.reduceEqDiff])
            | (show WOpsT _ _ _ _ _ _; first | refine L.ext ?_ | refine T.notD rfl ?_ | refine T.not rfl ?_ | refine L.fad ?_ | refine L.fadd ?_ | refine L.st ?_ | refine L.new ?_ | refine L.zero ?_ | refine L.len ?_ | refine L.lenS ?_ | refine L.lenN ?_)
            | refine hQ _ _ _ rfl ?_
            | refine hQN _ _ _ rfl ?_)
            all_goals first
              | exact WS.drop (n := 0) rfl rfl
              | (exfalso; omega)
          · rw [if_neg (by
              rintro (h | h)
              · cases h
              · exact hl2 h)] at hQ hQN
            repeat' (first
            | rw [co_mren]
            | rw [co_co]
            | rw [co_t12]
            | rw [co_t9]
            | rw [ri_t9]
            | rw [cp_t5]
            | rw [co_z]
            | rw [ri_mren]
            | rw [co_r]
            | rw [co_op]
            | rw [co_at]
            | rw [co_nmi]
            | rw [ri_splz]
            | rw [List.length_map]
            | refine N.regS fun K hK => ?_
            | refine N.dregS fun K hK => ?_
            | refine N.regN fun K hK => ?_
            | refine N.dregN fun K hK => ?_
            | simp only [T.mv, sm, AO.ev, put, lk, enter, reduceIte, Nat.reduceEqDiff, Nat.reduceAdd, Nat.reduceMul, Nat.reduceSub, Int.reduceNeg, Int.reduceToNat, upto, renB, setAll]
            | (refine T.nil ?_; (first | refine hK _ _ _ (by rfl) ?_ | refine hK _ _ _ ?_); (try simp only [keep, List.map, lk, reduceIte, Nat.reduceEqDiff, enter]); clear hK K)
            | (show WOpsT _ (⟨_, .call _ _, none⟩ :: _) _ _ _ _; first | refine T.call0 e128 rfl (hcy) ?_)
            | (show WOpsT _ (⟨_, .ld _ _, none⟩ :: _) _ _ _ _; first | refine L.ld ?_ | refine L.ldd ?_ | refine L.ldn ?_ | refine L.lddn ?_)
            | (show WOpsT _ (⟨_, .idx _ _ _ _, none⟩ :: _) _ _ _ _; first | refine L.idx ?_ | refine L.idxs ?_ | refine L.idxa ?_ | refine L.idxd ?_)
            | (show WOpsT _ (⟨_, .bin _ _ _, none⟩ :: _) _ _ _ _; first | refine L.add ?_ | refine L.bin ?_)
            | (show WOpsT _ (⟨_, _, some (_, true)⟩ :: _) _ _ _ _; first | refine L.goT ?_ | refine L.paT ?_ | refine L.go ?_ | refine L.pass ?_ | refine T.pU rfl ?_ | refine T.gT rfl (fun hgd => ?_) (fun hgd => ?_))
            | (show WOpsT _ (⟨_, .pick _ _ _, none⟩ :: _) _ _ _ _; first | refine L.pkT ?_ | refine L.pkF ?_ | refine L.pickT ?_ | refine L.pickF ?_ | refine L.pickB ?_ | refine T.pkD rfl (fun hgd => ?_) (fun hgd => ?_))
            | (show AKW _ _ _ _ _ _ _; first | refine N.now ?_)
            | (show AK _ _ (.cond _ _ _) _ _ _ _; first | refine N.c1 ?_ | refine N.c2 ?_ | refine N.c3 ?_ | refine N.c4 ?_ | refine N.condD rfl (fun hcd => ?_) (fun hcd => ?_) | refine N.condB rfl (fun hcd => ?_) (fun hcd => ?_) | refine N.condU rfl ?_ ?_)
            | (show AK _ _ _ _ _ _ _; first | refine N.seq ?_ | refine N.block ?_ | refine N.skip ?_ | refine N.exit ?_ | refine N.ret ?_)
            | (show RK _ _ _ _ _ _ _; simp only [rk, rk0, reduceIte, Nat.reduceEqDiff])
            | (show WOpsT _ _ _ _ _ _; first | refine L.ext ?_ | refine T.notD rfl ?_ | refine T.not rfl ?_ | refine L.fad ?_ | refine L.fadd ?_ | refine L.st ?_ | refine L.new ?_ | refine L.zero ?_ | refine L.len ?_ | refine L.lenS ?_ | refine L.lenN ?_)
            | refine hQ _ _ _ rfl ?_
            | refine hQN _ _ _ rfl ?_)
            all_goals first
              | exact WS.drop (n := 0) rfl rfl
              | (exfalso; omega)
end Go.Proofs.Ytjmmompbmjhkpaa.Calc

namespace Go.Proofs.Ytjmmompbmjhkpaa.Calc
open Go Code
set_option linter.unusedSimpArgs false
set_option linter.unusedVariables false
set_option maxRecDepth 20000
set_option maxHeartbeats 4000000
attribute [local irreducible] WOpsT AW AK RK AKW UK UC
def Bytes (m : List Int) : Prop := ∀ i, 0 ≤ m.getD i 0 ∧ m.getD i 0 < 256
abbrev memB (m : List Int) : Blk := ⟨1, 1, bcells m⟩
def bytesN (l : List Int) (n i : Nat) : List Int := (List.range n).map fun j => if j < i then l.getD j 0 % 256 else 0
def bytesOf (l : List Int) (n : Nat) : List Int := (List.range n).map fun j => l.getD j 0 % 256
end Go.Proofs.Ytjmmompbmjhkpaa.Calc

namespace Go.Proofs.Ytjmmompbmjhkpaa.Calc
open Go Code
set_option linter.unusedSimpArgs false
set_option linter.unusedVariables false
set_option maxRecDepth 20000
set_option maxHeartbeats 4000000
attribute [local irreducible] WOpsT AW AK RK AKW UK UC
def memF (f : Nat → Int) : List Int := (List.range 65536).map f
def fA : Blk := ⟨1, 1, [[.psl 1 1 0 65536]]⟩
def fB (f : Nat → Int) : Blk := ⟨1, 1, bcells (memF f)⟩
def FB (f : Nat → Int) : Prop := ∀ i, 0 ≤ f i ∧ f i < 256
theorem FB.upd {f : Nat → Int} (h : FB f) {v : Int} (hv : 0 ≤ v ∧ v < 256) (a : Nat) : FB (upd f a v) := by
  intro i; unfold Calc.upd; split
  · exact hv
  · exact h i
attribute [local irreducible] memF
def cycleM (c : Cpu) (k : Core) (irq : Bool) (f : Nat → Int) : Core × Bus × (Nat → Int) :=
  if (askM c k irq).2.d = 1 then (tellM c (askM c k irq).1 (f (askM c k irq).2.addr.toNat), ⟨1, (askM c k irq).2.addr, f (askM c k irq).2.addr.toNat⟩, f)
  else if (askM c k irq).2.d = 2 then (tellM c (askM c k irq).1 (askM c k irq).2.data, (askM c k irq).2, upd f (askM c k irq).2.addr.toNat (askM c k irq).2.data)
  else (tellM c (askM c k irq).1 (askM c k irq).2.data, (askM c k irq).2, f)
end Go.Proofs.Ytjmmompbmjhkpaa.Calc

namespace Go.Proofs.Ytjmmompbmjhkpaa.Calc
open Go Code
set_option linter.unusedSimpArgs false
set_option linter.unusedVariables false
set_option maxRecDepth 20000
set_option maxHeartbeats 4000000
attribute [local irreducible] WOpsT AW AK RK AKW UK UC memF
def runFrom (c : Cpu) : Nat → Core → List Bus → (Nat → Int) → Core × List Bus × (Nat → Int)
  | 0, k, bs, f => (k, bs, f)
  | n + 1, k, bs, f => if (cycleM c k false f).1.op = -1 ∨ (cycleM c k false f).1.op = 259 then ((cycleM c k false f).1, bs ++ [(cycleM c k false f).2.1], (cycleM c k false f).2.2)
      else runFrom c n (cycleM c k false f).1 (bs ++ [(cycleM c k false f).2.1]) (cycleM c k false f).2.2
def runM (c : Cpu) (k : Core) (f : Nat → Int) : Core × List Bus × (Nat → Int) := runFrom c 20 k [] f
instance : Flat buC := ⟨fun a x hx => by simp [buC] at hx; rcases hx with rfl | rfl | rfl <;> exact .inl ⟨_, rfl⟩⟩
end Go.Proofs.Ytjmmompbmjhkpaa.Calc

namespace Go.Proofs.Ytjmmompbmjhkpaa.Calc
open Go Code
set_option linter.unusedSimpArgs false
set_option linter.unusedVariables false
set_option maxRecDepth 20000
set_option maxHeartbeats 4000000
attribute [local irreducible] WOpsT AW AK RK AKW UK UC
def grow (l : List Ins) (F : Int → Row) (ms : List Int) (i : Nat) : List Ins := l ++ number l.length ((ms.take i).map F)
end Go.Proofs.Ytjmmompbmjhkpaa.Calc

namespace Go.Proofs.Ytjmmompbmjhkpaa.Calc
open Go Code
set_option linter.unusedSimpArgs false
set_option linter.unusedVariables false
set_option maxRecDepth 20000
set_option maxHeartbeats 4000000
attribute [local irreducible] WOpsT AW AK RK AKW UK UC
def mkH (ms : List Int) (g : Nat → List Ins) : Nat → List Blk
  | 0 => [⟨1, 1, [[.c (.slice none 0 0)]]⟩, ⟨1, 1, cells ms⟩]
  | i + 1 => [mkA 2 (g (i + 1)), ⟨1, 1, cells ms⟩, mkB (g (i + 1))]
end Go.Proofs.Ytjmmompbmjhkpaa.Calc

namespace Go.Proofs.Ytjmmompbmjhkpaa.Calc
open Go Code
set_option linter.unusedSimpArgs false
set_option linter.unusedVariables false
set_option maxRecDepth 20000
set_option maxHeartbeats 4000000
attribute [local irreducible] WOpsT AW AK RK AKW UK UC
def mA (k : Nat) : Blk := mkA 1 (number 0 (memR k))
def mB (k : Nat) : Blk := mkB (number 0 (memR k))
def joinL : List (ByteArray × Int) := [(⟨#[97, 100, 99]⟩, 4), (⟨#[115, 98, 99]⟩, 5), (⟨#[97, 110, 100]⟩, 7), (⟨#[111, 114, 97]⟩, 8), (⟨#[101, 111, 114]⟩, 9), (⟨#[99, 109, 112]⟩, 6)]
section
variable {P : Program} {q : Nat} {st : List KF} {Q : Exit → Fr → List Blk → Prop} {fr : Fr} {h : List Blk} {c : AC}
end
end Go.Proofs.Ytjmmompbmjhkpaa.Calc

namespace Go.Proofs.Ytjmmompbmjhkpaa.Calc
open Go Code
set_option linter.unusedSimpArgs false
set_option linter.unusedVariables false
set_option maxRecDepth 20000
set_option maxHeartbeats 4000000
attribute [local irreducible] WOpsT AW AK RK AKW UK UC
section
variable {P : Program} {q : Nat} {st : List KF} {Q : Exit → Fr → List Blk → Prop} {fr : Fr} {h : List Blk} {c : AC}
end
def row3 (p : ByteArray × Int × Int) : List V := [.c (.string p.1), I p.2.1, I p.2.2]
def tabA : List (ByteArray × Int × Int) := [(⟨#[116, 97, 120]⟩, 1, 0), (⟨#[116, 97, 121]⟩, 2, 0), (⟨#[116, 120, 97]⟩, 0, 1), (⟨#[116, 121, 97]⟩, 0, 2), (⟨#[116, 115, 120]⟩, 1, 3)]
def tabW : List (ByteArray × Int × Int) := [(⟨#[98, 101, 113]⟩, 2, 1), (⟨#[98, 110, 101]⟩, 2, 0), (⟨#[98, 99, 115]⟩, 1, 1), (⟨#[98, 99, 99]⟩, 1, 0), (⟨#[98, 109, 105]⟩, 128, 1), (⟨#[98, 112, 108]⟩, 128, 0)]
end Go.Proofs.Ytjmmompbmjhkpaa.Calc

namespace Go.Proofs.Ytjmmompbmjhkpaa.Calc
open Go Code
set_option linter.unusedSimpArgs false
set_option linter.unusedVariables false
set_option maxRecDepth 20000
set_option maxHeartbeats 4000000
attribute [local irreducible] WOpsT AW AK RK AKW UK UC
def resM : List Cyc := [rdM 10 5 [], rdM 11 6 [twoM 18 7 5, twoM 19 7 6, ⟨2, 3, 0, 255⟩]]
end Go.Proofs.Ytjmmompbmjhkpaa.Calc

namespace Go.Proofs.Ytjmmompbmjhkpaa.Calc
open Go Code
set_option linter.unusedSimpArgs false
set_option linter.unusedVariables false
set_option maxRecDepth 20000
set_option maxHeartbeats 4000000
attribute [local irreducible] WOpsT AW AK RK AKW UK UC
theorem cores_ok : FnE Try.prog 70 [] [] (.c (.bool true)) [] := by
  refine N.fn Try.func70 k70 lb q70 fun Q hQ hQN => ?_
  rw [c70]
  repeat' (first
  | refine N.regS fun K hK => ?_
  | refine N.dregS fun K hK => ?_
  | refine N.regN fun K hK => ?_
  | refine N.dregN fun K hK => ?_
  | simp only [T.mv, sm, AO.ev, put, lk, enter, reduceIte, Nat.reduceEqDiff, Nat.reduceAdd, Nat.reduceMul, Nat.reduceSub, Int.reduceNeg, Int.reduceToNat, upto, renB, setAll]
  | (refine T.nil ?_; (first | refine hK _ _ _ (by rfl) ?_ | refine hK _ _ _ ?_); (try simp only [keep, List.map, lk, reduceIte, Nat.reduceEqDiff, enter]); clear hK K)
  | (show WOpsT _ (⟨_, .call _ _, none⟩ :: _) _ _ _ _; first | refine T.call0 e81 rfl (coreNew_ok) ?_)
  | (show WOpsT _ (⟨_, .ld _ _, none⟩ :: _) _ _ _ _; first | refine L.ld ?_ | refine L.ldd ?_)
  | (show WOpsT _ (⟨_, .idx _ _ _ _, none⟩ :: _) _ _ _ _; first | refine L.idxa ?_ | refine L.idxd ?_)
  | (show WOpsT _ (⟨_, .bin _ _ _, none⟩ :: _) _ _ _ _; first | refine L.bin ?_)
  | (show WOpsT _ (⟨_, _, some (_, true)⟩ :: _) _ _ _ _; first | refine L.goT ?_ | refine L.paT ?_ | refine L.go ?_ | refine L.pass ?_ | refine T.pU rfl ?_ | refine T.gT rfl (fun hgd => ?_) (fun hgd => ?_))
  | (show WOpsT _ (⟨_, .pick _ _ _, none⟩ :: _) _ _ _ _; first | refine L.pkT ?_ | refine L.pkF ?_ | refine L.pickT ?_ | refine L.pickF ?_ | refine L.pickB ?_ | refine T.pkD rfl (fun hgd => ?_) (fun hgd => ?_))
  | (show AKW _ _ _ _ _ _ _; first | refine N.now ?_)
  | (show AK _ _ _ _ _ _ _; first | refine N.seq ?_ | refine N.ret ?_)
  | (show RK _ _ _ _ _ _ _; simp only [rk, rk0, reduceIte, Nat.reduceEqDiff])
  | (show WOpsT _ _ _ _ _ _; first | refine L.fad ?_ | refine L.fadd ?_ | refine L.st ?_ | refine L.zero ?_)
  | refine hQ _ _ _ rfl ?_
  | refine hQN _ _ _ rfl ?_)
  exact WS.bool rfl (by decide)
section
variable {P : Program} {rest : List AOper} {tr : Tr} {fr : Fr} {h : List Blk} {K : KT} {d : Option Nat}
end
theorem co_b (r : Nat → Int) (v : Int) : spl (spl [I 0, I 0, I 0, I 0, I 0, I 0, I 0, I 0, I 0, I 0, I 0, .c (.bool false)] 9 [I v]) 0 (ri r) = coA r v 0 false := rfl
theorem cp_mren (c : Cpu) (ks : List Nat) : (cpC c).map (ren ks) = cpC c := rfl
theorem cp_z (c : Cpu) : spl [.c (.string ⟨#[]⟩), .c (.slice none 0 0), .c (.slice none 0 0), .c (.slice none 0 0), .c (.slice none 0 0)] 0 (cpC c) = cpC c := rfl
end Go.Proofs.Ytjmmompbmjhkpaa.Calc

namespace Go.Proofs.Ytjmmompbmjhkpaa.Calc
open Go Code
set_option linter.unusedSimpArgs false
set_option linter.unusedVariables false
set_option maxRecDepth 20000
set_option maxHeartbeats 4000000
attribute [local irreducible] WOpsT AW AK RK AKW UK UC memF
def runsM : Nat → Core → (Nat → Int) → Core × (Nat → Int)
  | 0, k, f => (k, f)
  | n + 1, k, f => runsM n (runM stdM k f).1 (runM stdM k f).2.2
def progF (p : List Int) : Nat → Int := fun i => if 1024 ≤ i ∧ i < 1024 + p.length then p.getD (i - 1024) 0 else 0
def zeroF : Nat → Int := fun _ => 0
def opM (s : ByteArray) (m : Int) : Int := (gotM (fun x => decide (x.name = s ∧ x.mode = m)) stdM.ins).1.op
end Go.Proofs.Ytjmmompbmjhkpaa.Calc

namespace Go.Proofs.Ytjmmompbmjhkpaa.Calc
open Go
set_option linter.unusedVariables false
def hasIf (ss : List Stp) : Bool := ss.any fun s => s.op == 24
def leastM : List Cyc → Nat → Nat → Nat
  | [], _, n => n
  | c :: l, i, n => leastM l (i + 1) (if hasIf c.steps then min n (i + 1) else n)
theorem leastM_le : ∀ (l : List Cyc) (i n : Nat), leastM l i n ≤ n := by
  intro l
  induction l with
  | nil => intro i n; exact Nat.le_refl _
  | cons c l ih =>
    intro i n
    unfold leastM
    refine Nat.le_trans (ih _ _) ?_
    split <;> omega
theorem leastM_at : ∀ (l : List Cyc) (i n j : Nat) (hj : j < l.length), hasIf l[j].steps = true → leastM l i n ≤ i + j + 1 := by
  intro l
  induction l with
  | nil => intro i n j hj; exact absurd hj (by simp)
  | cons c l ih =>
    intro i n j hj hs
    unfold leastM
    cases j with
    | zero =>
      have hs : hasIf c.steps = true := hs
      rw [if_pos hs]
      refine Nat.le_trans (leastM_le _ _ _) (by omega)
    | succ j =>
      have := ih (i + 1) (if hasIf c.steps = true then min n (i + 1) else n) j (by simpa using hj) hs
      omega
theorem stepsM_if : ∀ (l : List Stp) (r : Nat → Int), (stepsM l r).2 = true → hasIf l = true := by
  intro l
  induction l with
  | nil => intro r h; cases h
  | cons s l ih =>
    intro r h
    unfold stepsM at h
    unfold hasIf
    rw [List.any_cons]
    split at h
    · rename_i h2
      have : s.op = 24 := by
        unfold doR at h2
        split at h2
        · assumption
        · cases h2
      rw [this]; rfl
    · have := ih _ h
      unfold hasIf at this
      rw [this, Bool.or_true]
end Go.Proofs.Ytjmmompbmjhkpaa.Calc

namespace Go.Proofs.Ytjmmompbmjhkpaa.Calc
open Go
set_option linter.unusedVariables false
set_option linter.unusedSimpArgs false
theorem mkStep_v (l : List Int) : VStep (mkStep l).1 := by
  unfold mkStep
  have r1 := sval_range l 7 (by decide)
  have r2 := sval_range (srest l 7) 2 (by decide)
  have r3 := sval_range (srest (srest l 7) 2) 25 (by decide)
  generalize srest (srest (srest l 7) 2) 25 = l3 at *
  generalize sval (srest (srest l 7) 2) 25 = d at *
  generalize sval l 7 = b at *
  generalize sval (srest l 7) 2 = w at *
  have r4 := sval_range l3 7 (by decide)
  have r5 := sval_range l3 256 (by decide)
  have r6 := sval_range l3 2 (by decide)
  have r7 := sval_range (srest l3 2) 256 (by decide)
  have hd : d = 0 ∨ d = 1 ∨ d = 2 ∨ d = 3 ∨ d = 4 ∨ d = 5 ∨ d = 6 ∨ d = 7 ∨ d = 8 ∨ d = 9 ∨ d = 10 ∨ d = 11 ∨ d = 12 ∨ d = 13 ∨ d = 14 ∨ d = 15 ∨ d = 16 ∨ d = 17 ∨ d = 18 ∨ d = 19 ∨ d = 20 ∨ d = 21 ∨ d = 22 ∨ d = 23 ∨ d = 24 := by omega
  rcases hd with rfl | rfl | rfl | rfl | rfl | rfl | rfl | rfl | rfl | rfl | rfl | rfl | rfl | rfl | rfl | rfl | rfl | rfl | rfl | rfl | rfl | rfl | rfl | rfl | rfl <;>
    simp [mkStepD, VStep, usesT, usesL, fitsP] <;> omega
def VHead (c : Cyc) : Prop := (0 ≤ c.bus ∧ c.bus ≤ 2) ∧ (c.bus = 0 → c.at_ = 0 ∧ c.reg = 0) ∧ (0 ≤ c.at_ ∧ c.at_ < 12) ∧ (0 ≤ c.reg ∧ c.reg < 7)
theorem opnd_app (l : List Cyc) (c : Cyc) : opnd (l ++ [c]) = opnd l + if c.bus = 1 ∧ c.at_ = 0 then 1 else 0 := by
  unfold opnd
  rw [List.countP_append]
  by_cases h : c.bus = 1 ∧ c.at_ = 0
  · rw [if_pos h]; simp [List.countP_cons, h.1, h.2]
  · rw [if_neg h]
    have : (c.bus == 1 && c.at_ == 0) = false := by
      cases e : (c.bus == 1 && c.at_ == 0) with
      | false => rfl
      | true => exact absurd (by simpa using e) h
    simp [List.countP_cons, this]
theorem goReads_v : ∀ (n : Nat) (acc : List Cyc) (l : List Int), (∀ c ∈ acc, VHead c) → (∀ c ∈ (goReads n acc l).1, VHead c) ∧ opnd (goReads n acc l).1 = opnd acc + n := by
  intro n
  induction n with
  | zero => intro acc l h; exact ⟨h, by simp [goReads]⟩
  | succ n ih =>
    intro acc l h
    have r := sval_range l 7 (by decide)
    obtain ⟨h1, h2⟩ := ih (acc ++ [⟨1, 0, sval l 7, []⟩]) (srest l 7) (by
      intro c hc; rcases List.mem_append.1 hc with hc | hc
      · exact h c hc
      · simp only [List.mem_singleton] at hc; subst hc; unfold VHead; dsimp only; omega)
    refine ⟨h1, ?_⟩
    show opnd (goReads n _ _).1 = _
    rw [h2, opnd_app, if_pos ⟨rfl, rfl⟩]; omega
theorem moreC_v (l : List Int) : VHead (moreC l).1 ∧ ¬ ((moreC l).1.bus = 1 ∧ (moreC l).1.at_ = 0) := by
  have r1 := sval_range l 3 (by decide)
  have r2 := sval_range (srest l 3) 11 (by decide)
  have r3 := sval_range (srest (srest l 3) 11) 7 (by decide)
  unfold moreC VHead
  split
  · dsimp only
    exact ⟨⟨by omega, by omega, by omega, by omega⟩, by omega⟩
  · dsimp only
    exact ⟨⟨by omega, by omega, by omega, by omega⟩, by omega⟩
theorem goMore_v : ∀ (n : Nat) (acc : List Cyc) (l : List Int), (∀ c ∈ acc, VHead c) → (∀ c ∈ (goMore n acc l).1, VHead c) ∧ opnd (goMore n acc l).1 = opnd acc := by
  intro n
  induction n with
  | zero => intro acc l h; exact ⟨h, rfl⟩
  | succ n ih =>
    intro acc l h
    obtain ⟨m1, m2⟩ := moreC_v l
    obtain ⟨h1, h2⟩ := ih (acc ++ [(moreC l).1]) (moreC l).2 (by
      intro c hc; rcases List.mem_append.1 hc with hc | hc
      · exact h c hc
      · simp only [List.mem_singleton] at hc; subst hc; exact m1)
    refine ⟨h1, ?_⟩
    show opnd (goMore n _ _).1 = _
    rw [h2, opnd_app, if_neg m2]; omega
theorem goSteps_v (n : Nat) (l : List Int) : (goSteps n l).1.length ≤ 6 ∧ ∀ s ∈ (goSteps n l).1, VStep s := by
  match n with
  | 0 => exact ⟨Nat.zero_le _, by intro s hs; cases hs⟩
  | 1 => exact ⟨by show 1 ≤ 6; decide, by intro s hs; have hs : s ∈ [(mkStep l).1] := hs; simp only [List.mem_singleton] at hs; subst hs; exact mkStep_v l⟩
  | n + 2 => exact ⟨by show 2 ≤ 6; decide, by
      intro s hs
      have hs : s ∈ [(mkStep l).1, (mkStep (mkStep l).2).1] := hs
      simp only [List.mem_cons, List.not_mem_nil, or_false] at hs
      rcases hs with rfl | rfl
      · exact mkStep_v l
      · exact mkStep_v _⟩
theorem goFill_v : ∀ (td acc : List Cyc) (l : List Int), (∀ c ∈ acc, VCyc c) → (∀ c ∈ td, VHead c) → (∀ c ∈ (goFill td acc l).1, VCyc c) ∧ (goFill td acc l).1.length = acc.length + td.length ∧ opnd (goFill td acc l).1 = opnd acc + opnd td := by
  intro td
  induction td with
  | nil => intro acc l h _; exact ⟨h, rfl, by simp [goFill, opnd]⟩
  | cons c td ih =>
    intro acc l h hd
    obtain ⟨s1, s2⟩ := goSteps_v (sval l 3).toNat (srest l 3)
    obtain ⟨h1, h2, h3⟩ := ih (acc ++ [⟨c.bus, c.at_, c.reg, (goSteps (sval l 3).toNat (srest l 3)).1⟩]) (goSteps (sval l 3).toNat (srest l 3)).2 (by
      intro x hx; rcases List.mem_append.1 hx with hx | hx
      · exact h x hx
      · simp only [List.mem_singleton] at hx; subst hx
        obtain ⟨v1, v2, v3, v4⟩ := hd c (List.mem_cons_self ..)
        exact ⟨v1, v2, v3, v4, s1, s2⟩) (fun x hx => hd x (List.mem_cons_of_mem _ hx))
    refine ⟨h1, ?_, ?_⟩
    · show (goFill td _ _).1.length = _
      rw [h2]; simp; omega
    · show opnd (goFill td _ _).1 = _
      rw [h3, opnd_app]
      have : opnd (c :: td) = opnd td + if c.bus = 1 ∧ c.at_ = 0 then 1 else 0 := by
        unfold opnd
        rw [List.countP_cons]
        by_cases hc : c.bus = 1 ∧ c.at_ = 0
        · rw [if_pos hc]; simp [hc.1, hc.2]
        · rw [if_neg hc]
          have : (c.bus == 1 && c.at_ == 0) = false := by
            cases e : (c.bus == 1 && c.at_ == 0) with
            | false => rfl
            | true => exact absurd (by simpa using e) hc
          simp [this]
      rw [this]
      dsimp only
      omega
theorem mkCycles_v (n : Nat) (hn : n ≤ 2) (l : List Int) : VCycs (mkCycles n l).1 ∧ opnd (mkCycles n l).1 = n := by
  unfold mkCycles mkMore mkReads
  obtain ⟨a1, a2⟩ := goReads_v n [] l (by simp)
  obtain ⟨a3, _⟩ := goReads_spec n [] l (by simp)
  generalize goReads n [] l = R at *
  have r4 := sval_range R.2 4 (by decide)
  obtain ⟨b1, b2⟩ := goMore_v (sval R.2 4).toNat R.1 (srest R.2 4) a1
  have b3 : (goMore (sval R.2 4).toNat R.1 (srest R.2 4)).1.length = R.1.length + (sval R.2 4).toNat := by
    have key : ∀ (n : Nat) (acc : List Cyc) (l : List Int), (goMore n acc l).1.length = acc.length + n := by
      intro n; induction n with
      | zero => intro acc l; rfl
      | succ n ih => intro acc l; show (goMore n _ _).1.length = _; rw [ih]; simp; omega
    exact key _ _ _
  generalize goMore (sval R.2 4).toNat R.1 (srest R.2 4) = M at *
  obtain ⟨c1, c2, c3⟩ := goFill_v M.1 [] M.2 (by simp) b1
  refine ⟨⟨?_, c1⟩, ?_⟩
  · rw [c2, b3, a3]; simp; omega
  · rw [c3, b2, a2]; simp [opnd]
theorem VCycs.sml {l : List Cyc} (h : VCycs l) : SmlC l := ⟨h.1, fun c hc => (h.2 c hc).2.2.2.2.1⟩
end Go.Proofs.Ytjmmompbmjhkpaa.Calc

namespace Go.Proofs.Ytjmmompbmjhkpaa.Calc
open Go Code
set_option linter.unusedSimpArgs false
set_option linter.unusedVariables false
set_option maxRecDepth 20000
set_option maxHeartbeats 4000000
attribute [local irreducible] WOpsT AW AK RK AKW UK UC
theorem hasIf_take (ss : List Stp) (i : Nat) (hi : i < ss.length) : hasIf (ss.take (i + 1)) = (hasIf (ss.take i) || (ss[i].op == 24)) := by
  unfold hasIf; rw [List.take_succ_eq_append_getElem hi, List.any_append]; simp
def lsM (l : List Cyc) (i : Nat) : Nat := leastM (l.take i) 0 l.length
theorem leastM_app : ∀ (l : List Cyc) (c : Cyc) (i n : Nat), leastM (l ++ [c]) i n = if hasIf c.steps then min (leastM l i n) (i + l.length + 1) else leastM l i n := by
  intro l
  induction l with
  | nil => intro c i n; unfold leastM; unfold leastM; rfl
  | cons a l ih =>
    intro c i n
    rw [List.cons_append]
    unfold leastM
    rw [ih]
    rw [show i + 1 + l.length + 1 = i + (a :: l).length + 1 by rw [List.length_cons]; omega]
theorem lsM_succ (l : List Cyc) (i : Nat) (hi : i < l.length) : lsM l (i + 1) = if hasIf l[i].steps then min (lsM l i) (i + 1) else lsM l i := by
  unfold lsM
  rw [List.take_succ_eq_append_getElem hi, leastM_app, show (l.take i).length = i by rw [List.length_take]; omega, Nat.zero_add]
theorem times_c (x : Ins) (hx : SmlC x.cy) : FnE Try.prog 72 [.agg (inC x)] [] (.tup [I ((lsM x.cy x.cy.length : Nat) + 1), I (x.cy.length + 1)]) [] := by
  obtain ⟨o, s, m, l⟩ := x
  obtain ⟨h1, h2⟩ := hx
  dsimp only at h1 h2 ⊢
  have hle : ∀ i, lsM l i ≤ l.length := fun i => leastM_le _ _ _
  refine N.fn Try.func72 k72 lb q72 fun Q hQ hQN => ?_
  rw [c72]
  repeat' (first
  | rw [List.length_map]
  | refine N.regS fun K hK => ?_
  | refine N.dregS fun K hK => ?_
  | refine N.regN fun K hK => ?_
  | refine N.dregN fun K hK => ?_
  | simp only [T.mv, sm, AO.ev, put, lk, enter, reduceIte, Nat.reduceEqDiff, Nat.reduceAdd, Nat.reduceMul, Nat.reduceSub, Int.reduceNeg, Int.reduceToNat, upto, renB, setAll]
  | (refine T.nil ?_; (first | refine hK _ _ _ (by rfl) ?_ | refine hK _ _ _ ?_); (try simp only [keep, List.map, lk, reduceIte, Nat.reduceEqDiff, enter]); clear hK K)
  | (show WOpsT _ (⟨_, .ld _ _, none⟩ :: _) _ _ _ _; first | refine L.ld ?_ | refine L.ldd ?_ | refine L.ldn ?_ | refine L.lddn ?_)
  | (show WOpsT _ (⟨_, .idx _ _ _ _, none⟩ :: _) _ _ _ _; first | refine L.idx ?_ | refine L.idxs ?_)
  | (show WOpsT _ (⟨_, .bin _ _ _, none⟩ :: _) _ _ _ _; first | refine L.add ?_ | refine L.bin ?_)
  | (show AKW _ _ _ _ _ _ _; first | refine N.now ?_)
  | (show AK _ _ (.cond _ _ _) _ _ _ _; first | refine N.c1 ?_ | refine N.c2 ?_ | refine N.c3 ?_ | refine N.c4 ?_ | refine N.condD rfl (fun hcd => ?_) (fun hcd => ?_) | refine N.condB rfl (fun hcd => ?_) (fun hcd => ?_) | refine N.condU rfl ?_ ?_)
  | (show AK _ _ _ _ _ _ _; first | refine N.seq ?_ | refine N.block ?_ | refine N.skip ?_ | refine N.exit ?_ | refine N.ret ?_)
  | (show RK _ _ _ _ _ _ _; simp only [rk, rk0, reduceIte, Nat.reduceEqDiff])
  | (show WOpsT _ _ _ _ _ _; first | refine T.min2 rfl rfl rfl ?_ | refine T.max2 rfl rfl rfl ?_ | refine L.fad ?_ | refine L.fadd ?_ | refine L.st ?_ | refine L.new ?_ | refine L.zero ?_ | refine L.len ?_ | refine L.lenS ?_ | refine L.lenN ?_)
  | refine hQ _ _ _ rfl ?_
  | refine hQN _ _ _ rfl ?_)
  refine N.loop (σ := Nat) (fun i => [(4, I l.length), (5, I (lsM l i)), (15, .sl 4 (l.map cyC)), (16, I l.length), (17, I i)]) (fun i => []) (fun i => i ≤ l.length) (fun i => l.length - i) 0 (by omega) (Weaks.gc [] 1 rfl (by repeat (first | exact trivial | refine ⟨.rfl, ?_⟩ | refine ⟨.any, ?_⟩)) (by first | rfl | (symm; unfold outH; simp only [List.map]; (repeat' (first | rfl | exact outB_bytes | exact outB_ints | exact outB_flat | refine consE ?_ ?_)); done))) fun i hi R hC => ?_
  have hli := hle i
  by_cases hil : i < l.length
  · have hm := mget cyC l i hil
    have hs6 := h2 _ (List.getElem_mem hil)
    have hsu := lsM_succ l i hil
    obtain ⟨y, hy⟩ : ∃ y, l[i] = y := ⟨_, rfl⟩
    rw [hy] at hm hs6 hsu
    obtain ⟨yb, ya, yr, ss⟩ := y
    dsimp only at hs6 hsu
    obtain ⟨v, hv⟩ : ∃ v : Nat → Nat, v = fun j => if hasIf (ss.take j) then min (lsM l i) (i + 1) else lsM l i := ⟨_, rfl⟩
    have hv0 : v 0 = lsM l i := by rw [hv]; rfl
    have hvn : v ss.length = lsM l (i + 1) := by rw [hv, hsu]; simp only [List.take_length]
    have hvs : ∀ (j : Nat) (hj : j < ss.length), v (j + 1) = if ss[j].op = 24 then min (v j) (i + 1) else v j := by
      intro j hj
      rw [hv]
      simp only [hasIf_take ss j hj]
      cases hasIf (ss.take j) <;> by_cases h : ss[j].op = 24 <;> simp [h] <;> omega
    have hvl : ∀ j, v j ≤ l.length := by
      intro j; rw [hv]; dsimp only; split <;> omega
    clear hv
    repeat' (first
    | (show WOpsT _ (⟨_, .idx _ _ _ _, none⟩ :: _) _ _ _ _; refine T.idxs rfl rfl rfl (by omega) hm ?_)
    | rw [List.length_map]
    | refine N.regS fun K hK => ?_
    | refine N.dregS fun K hK => ?_
    | refine N.regN fun K hK => ?_
    | refine N.dregN fun K hK => ?_
    | simp only [T.mv, sm, AO.ev, put, lk, enter, reduceIte, Nat.reduceEqDiff, Nat.reduceAdd, Nat.reduceMul, Nat.reduceSub, Int.reduceNeg, Int.reduceToNat, upto, renB, setAll]
    | (refine T.nil ?_; (first | refine hK _ _ _ (by rfl) ?_ | refine hK _ _ _ ?_); (try simp only [keep, List.map, lk, reduceIte, Nat.reduceEqDiff, enter]); clear hK K)
    | (show WOpsT _ (⟨_, .ld _ _, none⟩ :: _) _ _ _ _; first | refine L.ld ?_ | refine L.ldd ?_ | refine L.ldn ?_ | refine L.lddn ?_)
    | (show WOpsT _ (⟨_, .idx _ _ _ _, none⟩ :: _) _ _ _ _; first | refine L.idx ?_ | refine L.idxs ?_)
    | (show WOpsT _ (⟨_, .bin _ _ _, none⟩ :: _) _ _ _ _; first | refine L.add ?_ | refine L.bin ?_)
    | (show AKW _ _ _ _ _ _ _; first | refine N.now ?_)
    | (show AK _ _ (.cond _ _ _) _ _ _ _; first | refine N.c1 ?_ | refine N.c2 ?_ | refine N.c3 ?_ | refine N.c4 ?_ | refine N.condD rfl (fun hcd => ?_) (fun hcd => ?_) | refine N.condB rfl (fun hcd => ?_) (fun hcd => ?_) | refine N.condU rfl ?_ ?_)
    | (show AK _ _ _ _ _ _ _; first | refine N.seq ?_ | refine N.block ?_ | refine N.skip ?_ | refine N.exit ?_ | refine N.ret ?_)
    | (show RK _ _ _ _ _ _ _; simp only [rk, rk0, reduceIte, Nat.reduceEqDiff])
    | (show WOpsT _ _ _ _ _ _; first | refine T.min2 rfl rfl rfl ?_ | refine T.max2 rfl rfl rfl ?_ | refine L.fad ?_ | refine L.fadd ?_ | refine L.st ?_ | refine L.new ?_ | refine L.zero ?_ | refine L.len ?_ | refine L.lenS ?_ | refine L.lenN ?_)
    | refine hQ _ _ _ rfl ?_
    | refine hQN _ _ _ rfl ?_)
    refine N.loop (σ := Nat) (fun j => [(4, I l.length), (5, I (v j)), (6, I i), (15, .sl 4 (l.map cyC)), (16, I l.length), (17, I i), (23, .sl 4 (ss.map stC)), (24, I ss.length), (25, I j)]) (fun i => []) (fun j => j ≤ ss.length) (fun j => ss.length - j) 0 (by omega) (by rw [hv0]; exact (Weaks.gc [] 1 rfl (by repeat (first | exact trivial | refine ⟨.rfl, ?_⟩ | refine ⟨.any, ?_⟩)) (by first | rfl | (symm; unfold outH; simp only [List.map]; (repeat' (first | rfl | exact outB_bytes | exact outB_ints | exact outB_flat | refine consE ?_ ?_)); done)))) fun j hj R2 hC2 => ?_
    have hvj := hvl j
    by_cases hjl : j < ss.length
    · have hms := mget stC ss j hjl
      have hvs := hvs j hjl
      obtain ⟨z, hz⟩ : ∃ z, ss[j] = z := ⟨_, rfl⟩
      rw [hz] at hms hvs
      obtain ⟨zo, zt, zf, zn⟩ := z
      dsimp only at hvs
      by_cases h24 : zo = 24
      · rw [if_pos h24] at hvs
        repeat' (first
        | (show WOpsT _ (⟨_, .idx _ _ _ _, none⟩ :: _) _ _ _ _; refine T.idxs rfl rfl rfl (by omega) hms ?_)
        | refine N.regS fun K hK => ?_
        | refine N.dregS fun K hK => ?_
        | refine N.regN fun K hK => ?_
        | refine N.dregN fun K hK => ?_
        | simp only [T.mv, sm, AO.ev, put, lk, enter, reduceIte, Nat.reduceEqDiff, Nat.reduceAdd, Nat.reduceMul, Nat.reduceSub, Int.reduceNeg, Int.reduceToNat, upto, renB, setAll]
        | (refine T.nil ?_; (first | refine hK _ _ _ (by rfl) ?_ | refine hK _ _ _ ?_); (try simp only [keep, List.map, lk, reduceIte, Nat.reduceEqDiff, enter]); clear hK K)
        | (show WOpsT _ (⟨_, .ld _ _, none⟩ :: _) _ _ _ _; first | refine L.ld ?_ | refine L.ldd ?_ | refine L.ldn ?_ | refine L.lddn ?_)
        | (show WOpsT _ (⟨_, .idx _ _ _ _, none⟩ :: _) _ _ _ _; first | refine L.idx ?_ | refine L.idxs ?_)
        | (show WOpsT _ (⟨_, .bin _ _ _, none⟩ :: _) _ _ _ _; first | refine L.add ?_ | refine L.bin ?_)
        | (show AKW _ _ _ _ _ _ _; first | refine N.now ?_)
        | (show AK _ _ (.cond _ _ _) _ _ _ _; first | refine N.c1 ?_ | refine N.c2 ?_ | refine N.c3 ?_ | refine N.c4 ?_ | refine N.condD rfl (fun hcd => ?_) (fun hcd => ?_) | refine N.condB rfl (fun hcd => ?_) (fun hcd => ?_) | refine N.condU rfl ?_ ?_)
        | (show AK _ _ _ _ _ _ _; first | refine N.seq ?_ | refine N.block ?_ | refine N.skip ?_ | refine N.exit ?_ | refine N.ret ?_)
        | (show RK _ _ _ _ _ _ _; simp only [rk, rk0, reduceIte, Nat.reduceEqDiff])
        | (show WOpsT _ _ _ _ _ _; first | refine T.min2 rfl rfl rfl ?_ | refine T.max2 rfl rfl rfl ?_ | refine L.fad ?_ | refine L.fadd ?_ | refine L.st ?_ | refine L.new ?_ | refine L.zero ?_ | refine L.len ?_ | refine L.lenS ?_ | refine L.lenN ?_)
        | refine hQ _ _ _ rfl ?_
        | refine hQN _ _ _ rfl ?_)
        all_goals first
          | (exfalso; omega)
          | exact hC2 _ _ (j + 1) (by omega) (by omega) (by rw [hvs, show ((min (v j) (i + 1) : Nat) : Int) = min (v j : Int) ((i : Int) + 1) by omega]; exact (Weaks.gc [] 1 rfl (by repeat (first | exact trivial | refine ⟨.rfl, ?_⟩ | refine ⟨.any, ?_⟩)) (by first | rfl | (symm; unfold outH; simp only [List.map]; (repeat' (first | rfl | exact outB_bytes | exact outB_ints | exact outB_flat | refine consE ?_ ?_)); done))))
      · rw [if_neg h24] at hvs
        repeat' (first
        | (show WOpsT _ (⟨_, .idx _ _ _ _, none⟩ :: _) _ _ _ _; refine T.idxs rfl rfl rfl (by omega) hms ?_)
        | refine N.regS fun K hK => ?_
        | refine N.dregS fun K hK => ?_
        | refine N.regN fun K hK => ?_
        | refine N.dregN fun K hK => ?_
        | simp only [T.mv, sm, AO.ev, put, lk, enter, reduceIte, Nat.reduceEqDiff, Nat.reduceAdd, Nat.reduceMul, Nat.reduceSub, Int.reduceNeg, Int.reduceToNat, upto, renB, setAll]
        | (refine T.nil ?_; (first | refine hK _ _ _ (by rfl) ?_ | refine hK _ _ _ ?_); (try simp only [keep, List.map, lk, reduceIte, Nat.reduceEqDiff, enter]); clear hK K)
        | (show WOpsT _ (⟨_, .ld _ _, none⟩ :: _) _ _ _ _; first | refine L.ld ?_ | refine L.ldd ?_ | refine L.ldn ?_ | refine L.lddn ?_)
        | (show WOpsT _ (⟨_, .idx _ _ _ _, none⟩ :: _) _ _ _ _; first | refine L.idx ?_ | refine L.idxs ?_)
        | (show WOpsT _ (⟨_, .bin _ _ _, none⟩ :: _) _ _ _ _; first | refine L.add ?_ | refine L.bin ?_)
        | (show AKW _ _ _ _ _ _ _; first | refine N.now ?_)
        | (show AK _ _ (.cond _ _ _) _ _ _ _; first | refine N.c1 ?_ | refine N.c2 ?_ | refine N.c3 ?_ | refine N.c4 ?_ | refine N.condD rfl (fun hcd => ?_) (fun hcd => ?_) | refine N.condB rfl (fun hcd => ?_) (fun hcd => ?_) | refine N.condU rfl ?_ ?_)
        | (show AK _ _ _ _ _ _ _; first | refine N.seq ?_ | refine N.block ?_ | refine N.skip ?_ | refine N.exit ?_ | refine N.ret ?_)
        | (show RK _ _ _ _ _ _ _; simp only [rk, rk0, reduceIte, Nat.reduceEqDiff])
        | (show WOpsT _ _ _ _ _ _; first | refine T.min2 rfl rfl rfl ?_ | refine T.max2 rfl rfl rfl ?_ | refine L.fad ?_ | refine L.fadd ?_ | refine L.st ?_ | refine L.new ?_ | refine L.zero ?_ | refine L.len ?_ | refine L.lenS ?_ | refine L.lenN ?_)
        | refine hQ _ _ _ rfl ?_
        | refine hQN _ _ _ rfl ?_)
        all_goals first
          | (exfalso; omega)
          | exact hC2 _ _ (j + 1) (by omega) (by omega) (by rw [hvs]; exact (Weaks.gc [] 1 rfl (by repeat (first | exact trivial | refine ⟨.rfl, ?_⟩ | refine ⟨.any, ?_⟩)) (by first | rfl | (symm; unfold outH; simp only [List.map]; (repeat' (first | rfl | exact outB_bytes | exact outB_ints | exact outB_flat | refine consE ?_ ?_)); done))))
    · obtain rfl : j = ss.length := by omega
      rw [hvn]
      repeat' (first
      | refine N.regS fun K hK => ?_
      | refine N.dregS fun K hK => ?_
      | refine N.regN fun K hK => ?_
      | refine N.dregN fun K hK => ?_
      | simp only [T.mv, sm, AO.ev, put, lk, enter, reduceIte, Nat.reduceEqDiff, Nat.reduceAdd, Nat.reduceMul, Nat.reduceSub, Int.reduceNeg, Int.reduceToNat, upto, renB, setAll]
      | (refine T.nil ?_; (first | refine hK _ _ _ (by rfl) ?_ | refine hK _ _ _ ?_); (try simp only [keep, List.map, lk, reduceIte, Nat.reduceEqDiff, enter]); clear hK K)
      | (show WOpsT _ (⟨_, .ld _ _, none⟩ :: _) _ _ _ _; first | refine L.ld ?_ | refine L.ldd ?_ | refine L.ldn ?_ | refine L.lddn ?_)
      | (show WOpsT _ (⟨_, .idx _ _ _ _, none⟩ :: _) _ _ _ _; first | refine L.idx ?_ | refine L.idxs ?_)
      | (show WOpsT _ (⟨_, .bin _ _ _, none⟩ :: _) _ _ _ _; first | refine L.add ?_ | refine L.bin ?_)
      | (show AKW _ _ _ _ _ _ _; first | refine N.now ?_)
      | (show AK _ _ (.cond _ _ _) _ _ _ _; first | refine N.c1 ?_ | refine N.c2 ?_ | refine N.c3 ?_ | refine N.c4 ?_ | refine N.condD rfl (fun hcd => ?_) (fun hcd => ?_) | refine N.condB rfl (fun hcd => ?_) (fun hcd => ?_) | refine N.condU rfl ?_ ?_)
      | (show AK _ _ _ _ _ _ _; first | refine N.seq ?_ | refine N.block ?_ | refine N.skip ?_ | refine N.exit ?_ | refine N.ret ?_)
      | (show RK _ _ _ _ _ _ _; simp only [rk, rk0, reduceIte, Nat.reduceEqDiff])
      | (show WOpsT _ _ _ _ _ _; first | refine T.min2 rfl rfl rfl ?_ | refine T.max2 rfl rfl rfl ?_ | refine L.fad ?_ | refine L.fadd ?_ | refine L.st ?_ | refine L.new ?_ | refine L.zero ?_ | refine L.len ?_ | refine L.lenS ?_ | refine L.lenN ?_)
      | refine hQ _ _ _ rfl ?_
      | refine hQN _ _ _ rfl ?_)
      exact hC _ _ (i + 1) (by omega) (by omega) (Weaks.gc [] 1 rfl (by repeat (first | exact trivial | refine ⟨.rfl, ?_⟩ | refine ⟨.any, ?_⟩)) (by first | rfl | (symm; unfold outH; simp only [List.map]; (repeat' (first | rfl | exact outB_bytes | exact outB_ints | exact outB_flat | refine consE ?_ ?_)); done)))
  · obtain rfl : i = l.length := by omega
    repeat' (first
    | refine N.regS fun K hK => ?_
    | refine N.dregS fun K hK => ?_
    | refine N.regN fun K hK => ?_
    | refine N.dregN fun K hK => ?_
    | simp only [T.mv, sm, AO.ev, put, lk, enter, reduceIte, Nat.reduceEqDiff, Nat.reduceAdd, Nat.reduceMul, Nat.reduceSub, Int.reduceNeg, Int.reduceToNat, upto, renB, setAll]
    | (refine T.nil ?_; (first | refine hK _ _ _ (by rfl) ?_ | refine hK _ _ _ ?_); (try simp only [keep, List.map, lk, reduceIte, Nat.reduceEqDiff, enter]); clear hK K)
    | (show WOpsT _ (⟨_, .ld _ _, none⟩ :: _) _ _ _ _; first | refine L.ld ?_ | refine L.ldd ?_ | refine L.ldn ?_ | refine L.lddn ?_)
    | (show WOpsT _ (⟨_, .idx _ _ _ _, none⟩ :: _) _ _ _ _; first | refine L.idx ?_ | refine L.idxs ?_)
    | (show WOpsT _ (⟨_, .bin _ _ _, none⟩ :: _) _ _ _ _; first | refine L.add ?_ | refine L.bin ?_)
    | (show AKW _ _ _ _ _ _ _; first | refine N.now ?_)
    | (show AK _ _ (.cond _ _ _) _ _ _ _; first | refine N.c1 ?_ | refine N.c2 ?_ | refine N.c3 ?_ | refine N.c4 ?_ | refine N.condD rfl (fun hcd => ?_) (fun hcd => ?_) | refine N.condB rfl (fun hcd => ?_) (fun hcd => ?_) | refine N.condU rfl ?_ ?_)
    | (show AK _ _ _ _ _ _ _; first | refine N.seq ?_ | refine N.block ?_ | refine N.skip ?_ | refine N.exit ?_ | refine N.ret ?_)
    | (show RK _ _ _ _ _ _ _; simp only [rk, rk0, reduceIte, Nat.reduceEqDiff])
    | (show WOpsT _ _ _ _ _ _; first | refine T.min2 rfl rfl rfl ?_ | refine T.max2 rfl rfl rfl ?_ | refine L.fad ?_ | refine L.fadd ?_ | refine L.st ?_ | refine L.new ?_ | refine L.zero ?_ | refine L.len ?_ | refine L.lenS ?_ | refine L.lenN ?_)
    | refine hQ _ _ _ rfl ?_
    | refine hQN _ _ _ rfl ?_)
    exact WS.drop (n := 0) rfl rfl
end Go.Proofs.Ytjmmompbmjhkpaa.Calc

namespace Go.Proofs.Ytjmmompbmjhkpaa.Calc
open Go
set_option linter.unusedVariables false
set_option linter.unusedSimpArgs false
theorem askTell_in (c : Cpu) (k : Core) (irq : Bool) (d : Int) (x : Cyc) (l : List Cyc) (j : Nat) (ho : 0 ≤ k.op ∧ k.op ≤ 255) (hl : cycM c k.op = l) (ha : k.a = j) (hj : l[j]? = some x) :
    (tellM c (askM c k irq).1 d).op = -1 ∧ (j + 1 = l.length ∨ hasIf x.steps = true) ∨ (tellM c (askM c k irq).1 d).op = k.op ∧ (tellM c (askM c k irq).1 d).a = ((j + 1 : Nat) : Int) ∧ j + 1 < l.length := by
  obtain ⟨r, op, a, nmi⟩ := k
  dsimp only at ho hl ha ⊢
  subst ha
  have hlt := (List.getElem?_eq_some_iff.1 hj).1
  have hd : doingM c op (j : Int) = some x := by
    unfold doingM
    rw [if_neg (by omega), hl, Int.toNat_natCast]; exact hj
  have hask : (askM c ⟨r, op, j, nmi⟩ irq).1.op = op ∧ (askM c ⟨r, op, j, nmi⟩ irq).1.a = j := by
    unfold askM askA
    dsimp only
    rw [if_neg (by omega)]
    unfold askB
    dsimp only
    rw [if_neg (by omega), hd]
    dsimp only
    split <;> exact ⟨rfl, rfl⟩
  generalize (askM c ⟨r, op, j, nmi⟩ irq).1 = k2 at *
  obtain ⟨r2, op2, a2, n2⟩ := k2
  obtain ⟨h1, h2⟩ := hask
  dsimp only at h1 h2
  subst h1 h2
  unfold tellM
  dsimp only
  rw [if_neg (by omega)]
  unfold tellB
  dsimp only
  rw [hd]
  dsimp only
  split
  · rename_i h
    refine .inl ⟨rfl, ?_⟩
    rcases h with h | h
    · exact .inr (stepsM_if _ _ h)
    · rw [hl] at h; exact .inl (by omega)
  · rename_i h
    refine .inr ⟨rfl, rfl, ?_⟩
    have h5 : ¬ (((cycM c op2).length : Int) ≤ (j : Int) + 1) := fun h2 => h (.inr h2)
    rw [hl] at h5
    omega
def EndI (op : Int) (l : List Cyc) (n : Nat) (k : Core) : Prop := (k.op = -1 ∧ lsM l l.length ≤ n ∧ n ≤ l.length) ∨ (k.op = op ∧ k.a = n ∧ n < l.length)
theorem lsM_at (l : List Cyc) (j : Nat) (hj : j < l.length) (h : hasIf l[j].steps = true) : lsM l l.length ≤ j + 1 := by
  unfold lsM
  rw [List.take_length]
  have := leastM_at l 0 l.length j hj h
  omega
theorem lsM_le (l : List Cyc) : lsM l l.length ≤ l.length := leastM_le _ _ _
theorem EndI.step (c : Cpu) (op : Int) (l : List Cyc) (n : Nat) (k : Core) (ho : 0 ≤ op ∧ op ≤ 255) (hl : cycM c op = l) (h : EndI op l n k) (hk : k.op ≠ -1) (d : Int) : EndI op l (n + 1) (tellM c (askM c k true).1 d) := by
  rcases h with ⟨h, _⟩ | ⟨h1, h2, h3⟩
  · exact absurd h hk
  · have := askTell_in c k true d l[n] l n (by rw [h1]; exact ho) (by rw [h1]; exact hl) h2 (List.getElem?_eq_getElem h3)
    rcases this with ⟨e1, e2⟩ | ⟨e1, e2, e3⟩
    · refine .inl ⟨e1, ?_, by omega⟩
      rcases e2 with e2 | e2
      · rw [e2]; exact lsM_le l
      · exact lsM_at l n h3 e2
    · exact .inr ⟨e1.trans h1, e2, e3⟩
theorem cycM_got (c : Cpu) (o : Int) (ho : 0 ≤ o ∧ o ≤ 255) (h : (gotM (fun x => decide (x.op = o)) c.ins).2 = true) : cycM c o = (gotM (fun x => decide (x.op = o)) c.ins).1.cy := by
  unfold cycM gotM at *
  rw [if_neg (by omega), if_neg (by omega), if_neg (by omega), if_pos ho]
  cases hf : c.ins.findIdx? (fun x => decide (x.op = o)) with
  | none => rw [hf] at h; cases h
  | some i =>
    dsimp only
    obtain ⟨hi, _⟩ := List.findIdx?_eq_some_iff_getElem.1 hf
    rw [List.getElem?_eq_getElem hi, List.getD_eq_getElem?_getD, List.getElem?_eq_getElem hi]; rfl
theorem start_none (c : Cpu) (r : Nat → Int) (o : Int) (ho : 0 ≤ o ∧ o ≤ 255) (h : (gotM (fun x => decide (x.op = o)) c.ins).2 = false) : (tellM c ⟨r, -1, 0, false⟩ o).op = 259 := by
  unfold tellM
  dsimp only
  rw [if_pos rfl, show o % 256 = o by omega]
  unfold tellA
  rw [if_pos h]
theorem start_some (c : Cpu) (r : Nat → Int) (o : Int) (ho : 0 ≤ o ∧ o ≤ 255) (h : (gotM (fun x => decide (x.op = o)) c.ins).2 = true) : EndI o (gotM (fun x => decide (x.op = o)) c.ins).1.cy 0 (tellM c ⟨r, -1, 0, false⟩ o) := by
  unfold tellM
  dsimp only
  rw [if_pos rfl, show o % 256 = o by omega]
  unfold tellA
  rw [if_neg (by rw [h]; decide)]
  by_cases hl : 0 < (gotM (fun x => decide (x.op = o)) c.ins).1.cy.length
  · rw [if_pos hl]; exact .inr ⟨rfl, rfl, hl⟩
  · rw [if_neg hl]
    refine .inl ⟨rfl, ?_, Nat.zero_le _⟩
    have := lsM_le (gotM (fun x => decide (x.op = o)) c.ins).1.cy
    omega
theorem goIns_sml : ∀ (n i : Nat) (at_ : Int) (acc : List Ins) (l : List Int), (∀ x ∈ acc, SmlC x.cy) → (∀ x ∈ (goIns n i at_ acc l).1, SmlC x.cy) ∧ (goIns n i at_ acc l).1.length = acc.length + n := by
  intro n
  induction n with
  | zero => intro i at_ acc l h; exact ⟨h, rfl⟩
  | succ n ih =>
    intro i at_ acc l h
    obtain ⟨h1, h2⟩ := ih (i + 1) (at_ + (1 + sval l 30)) (acc ++ [mkIn i at_ l]) (mkInR l) (by
      intro x hx; rcases List.mem_append.1 hx with hx | hx
      · exact h x hx
      · simp only [List.mem_singleton] at hx; subst hx; exact (mkCycles_v _ (rdN_le _) _).1.sml)
    refine ⟨h1, ?_⟩
    show (goIns n _ _ _ _).1.length = _
    rw [h2]; simp; omega
theorem mkCpu_sml (l : List Int) : SmlP (mkCpu l) := by
  have r := sval_range (srest l 26) 8 (by decide)
  obtain ⟨h1, h2⟩ := goIns_sml (1 + sval (srest l 26) 8).toNat 0 0 [] (srest (srest l 26) 8) (by simp)
  exact ⟨by show (goIns _ _ _ _ _).1.length ≤ 256; rw [h2, List.length_nil]; omega, h1, (mkCycles_v 0 (by decide) _).1.sml, (mkCycles_v 0 (by decide) _).1.sml, (mkCycles_v 0 (by decide) _).1.sml⟩
theorem got_sml (c : Cpu) (hc : SmlP c) (p : Ins → Bool) : SmlC (gotM p c.ins).1.cy := by
  unfold gotM
  cases hf : c.ins.findIdx? p with
  | none => exact ⟨Nat.zero_le _, by intro x hx; cases hx⟩
  | some i =>
    obtain ⟨hi, _⟩ := List.findIdx?_eq_some_iff_getElem.1 hf
    dsimp only
    rw [List.getD_eq_getElem?_getD, List.getElem?_eq_getElem hi]
    exact hc.2.1 _ (List.getElem_mem hi)
end Go.Proofs.Ytjmmompbmjhkpaa.Calc

namespace Go.Proofs.Ytjmmompbmjhkpaa.Calc
open Go Code
set_option linter.unusedSimpArgs false
set_option linter.unusedVariables false
set_option maxRecDepth 20000
set_option maxHeartbeats 4000000
attribute [local irreducible] WOpsT AW AK RK AKW UK UC
theorem ine_mren (x : Ins) (ks : List Nat) : (inC x).map (ren ks) = inC x := rfl
theorem ine_t4 (x : Ins) : (inC x).take 4 = inC x := rfl
theorem ine_z (x : Ins) : spl [I 0, .c (.string ⟨#[]⟩), I 0, .c (.slice none 0 0)] 0 (inC x) = inC x := rfl
theorem coreends_ok (l rs : List Int) (n : Int) : FnE Try.prog 17 [.sl 1 (cells l), .sl 1 (cells rs), I n] [] (.c (.bool true)) [] := by
  have hmk := mkCpu_ok l
  have hsm := mkCpu_sml l
  generalize mkCpu l = c at *
  have hb := below_ok n 256 (by decide) (by decide)
  have hbr : 0 ≤ n % 256 ∧ n % 256 ≤ 255 := by omega
  generalize n % 256 = o at *
  have hg := registers_ok rs
  generalize regsOf rs = r at *
  have hfd := find_ok c hsm o
  have ht0 := tell_c c hsm ⟨r, -1, 0, false⟩ o
  have hss := start_some c r o hbr
  have hsn := start_none c r o hbr
  have hcg := cycM_got c o hbr
  have hgs := got_sml c hsm (fun x => decide (x.op = o))
  generalize tellM c ⟨r, -1, 0, false⟩ o = k0 at *
  generalize gotM (fun x => decide (x.op = o)) c.ins = g at *
  obtain ⟨x, b⟩ := g
  dsimp only at hss hsn hcg hgs hfd
  have htm := times_c x hgs
  have hat : ∀ (k : Core) (d : Int), FnE Try.prog 71 [.agg (cpC c), .agg (coC k), .c (.bool true)] [] (.tup [.agg (coC (askM c k true).1), .agg (buC (askM c k true).2)]) [] ∧ FnE Try.prog 69 [.agg (cpC c), .agg (coC (askM c k true).1), I d] [] (.agg (coC (tellM c (askM c k true).1 d))) [] := fun k d => ⟨ask_c c k true hsm.1, tell_c c hsm _ d⟩
  have hco := cores_ok
  obtain ⟨r0, op0, a0, n0⟩ := k0
  dsimp only [coC] at ht0
  refine N.fn Try.func17 k17 lb q17 fun Q hQ hQN => ?_
  rw [c17]
  cases b with
  | false =>
    have hop := hsn rfl
    dsimp only at hop
    subst hop
    repeat' (first
    | rw [co_mren]
    | rw [co_co]
    | rw [co_t12]
    | rw [co_t9]
    | rw [ri_t9]
    | rw [cp_t5]
    | rw [co_z]
    | rw [ri_mren]
    | rw [co_r]
    | rw [co_op]
    | rw [co_at]
    | rw [co_nmi]
    | rw [ri_splz]
    | rw [List.length_map]
    | rw [co_b]
    | rw [cp_mren]
    | rw [cp_z]
    | rw [ine_mren]
    | rw [ine_t4]
    | rw [ine_z]
    | refine N.regS fun K hK => ?_
    | refine N.dregS fun K hK => ?_
    | refine N.regN fun K hK => ?_
    | refine N.dregN fun K hK => ?_
    | simp only [T.mv, sm, AO.ev, put, lk, enter, reduceIte, Nat.reduceEqDiff, Nat.reduceAdd, Nat.reduceMul, Nat.reduceSub, Int.reduceNeg, Int.reduceToNat, upto, renB, setAll]
    | (refine T.nil ?_; (first | refine hK _ _ _ (by rfl) ?_ | refine hK _ _ _ ?_); (try simp only [keep, List.map, lk, reduceIte, Nat.reduceEqDiff, enter]); clear hK K)
    | (show WOpsT _ (⟨_, .call _ _, none⟩ :: _) _ _ _ _; first | refine T.call0 e58 rfl (hmk) ?_ | refine T.call0 e29 rfl (hb) ?_ | refine T.call0 e53 rfl (hg) ?_ | refine T.call0 e69 rfl (ht0) ?_ | refine T.call0 e62 rfl (hfd) ?_ | refine T.call0 e70 rfl (hco) ?_)
    | (show WOpsT _ (⟨_, .ld _ _, none⟩ :: _) _ _ _ _; first | refine L.ld ?_ | refine L.ldd ?_ | refine L.ldn ?_ | refine L.lddn ?_)
    | (show WOpsT _ (⟨_, .bin _ _ _, none⟩ :: _) _ _ _ _; first | refine L.add ?_ | refine L.bin ?_)
    | (show WOpsT _ (⟨_, _, some (_, true)⟩ :: _) _ _ _ _; first | refine L.goT ?_ | refine L.paT ?_ | refine L.go ?_ | refine L.pass ?_ | refine T.pU rfl ?_ | refine T.gT rfl (fun hgd => ?_) (fun hgd => ?_))
    | (show WOpsT _ (⟨_, _, some (_, false)⟩ :: _) _ _ _ _; first | refine L.goF ?_ | refine L.paF ?_ | refine L.go ?_ | refine L.pass ?_ | refine T.pU rfl ?_ | refine T.gF rfl (fun hgd => ?_) (fun hgd => ?_))
    | (show WOpsT _ (⟨_, .pick _ _ _, none⟩ :: _) _ _ _ _; first | refine L.pkT ?_ | refine L.pkF ?_ | refine L.pickT ?_ | refine L.pickF ?_ | refine L.pickB ?_ | refine T.pkD rfl (fun hgd => ?_) (fun hgd => ?_))
    | (show AKW _ _ _ _ _ _ _; first | refine N.now ?_)
    | (show AK _ _ (.cond _ _ _) _ _ _ _; first | refine N.c1 ?_ | refine N.c2 ?_ | refine N.c3 ?_ | refine N.c4 ?_ | refine N.condD rfl (fun hcd => ?_) (fun hcd => ?_) | refine N.condB rfl (fun hcd => ?_) (fun hcd => ?_) | refine N.condU rfl ?_ ?_)
    | (show AK _ _ _ _ _ _ _; first | refine N.seq ?_ | refine N.block ?_ | refine N.skip ?_ | refine N.exit ?_ | refine N.ret ?_)
    | (show RK _ _ _ _ _ _ _; simp only [rk, rk0, reduceIte, Nat.reduceEqDiff])
    | (show WOpsT _ _ _ _ _ _; first | refine L.ext ?_ | refine T.notD rfl ?_ | refine T.not rfl ?_ | refine L.fad ?_ | refine L.fadd ?_ | refine L.st ?_ | refine L.zero ?_ | refine L.build ?_ | refine L.len ?_ | refine L.lenS ?_ | refine L.lenN ?_)
    | refine hQ _ _ _ rfl ?_
    | refine hQN _ _ _ rfl ?_)
    all_goals first
      | exact WS.bool rfl (by simp; done)
      | (exfalso; omega)
      | trace_state
  | true =>
    have hE := hss rfl
    have hcy := hcg rfl
    clear hss hsn hcg
    have hstep := EndI.step c o x.cy
    obtain ⟨xo, xn, xm, xc⟩ := x
    dsimp only at *
    have hl8 := hgs.1
    repeat' (first
    | rw [co_mren]
    | rw [co_co]
    | rw [co_t12]
    | rw [co_t9]
    | rw [ri_t9]
    | rw [cp_t5]
    | rw [co_z]
    | rw [ri_mren]
    | rw [co_r]
    | rw [co_op]
    | rw [co_at]
    | rw [co_nmi]
    | rw [ri_splz]
    | rw [List.length_map]
    | rw [co_b]
    | rw [cp_mren]
    | rw [cp_z]
    | rw [ine_mren]
    | rw [ine_t4]
    | rw [ine_z]
    | refine N.regS fun K hK => ?_
    | refine N.dregS fun K hK => ?_
    | refine N.regN fun K hK => ?_
    | refine N.dregN fun K hK => ?_
    | simp only [T.mv, sm, AO.ev, put, lk, enter, reduceIte, Nat.reduceEqDiff, Nat.reduceAdd, Nat.reduceMul, Nat.reduceSub, Int.reduceNeg, Int.reduceToNat, upto, renB, setAll]
    | (refine T.nil ?_; (first | refine hK _ _ _ (by rfl) ?_ | refine hK _ _ _ ?_); (try simp only [keep, List.map, lk, reduceIte, Nat.reduceEqDiff, enter]); clear hK K)
    | (show WOpsT _ (⟨_, .call _ _, none⟩ :: _) _ _ _ _; first | refine T.call0 e58 rfl (hmk) ?_ | refine T.call0 e29 rfl (hb) ?_ | refine T.call0 e53 rfl (hg) ?_ | refine T.call0 e69 rfl (ht0) ?_ | refine T.call0 e62 rfl (hfd) ?_ | refine T.call0 e70 rfl (hco) ?_)
    | (show WOpsT _ (⟨_, .ld _ _, none⟩ :: _) _ _ _ _; first | refine L.ld ?_ | refine L.ldd ?_ | refine L.ldn ?_ | refine L.lddn ?_)
    | (show WOpsT _ (⟨_, .bin _ _ _, none⟩ :: _) _ _ _ _; first | refine L.add ?_ | refine L.bin ?_)
    | (show WOpsT _ (⟨_, _, some (_, true)⟩ :: _) _ _ _ _; first | refine L.goT ?_ | refine L.paT ?_ | refine L.go ?_ | refine L.pass ?_ | refine T.pU rfl ?_ | refine T.gT rfl (fun hgd => ?_) (fun hgd => ?_))
    | (show WOpsT _ (⟨_, _, some (_, false)⟩ :: _) _ _ _ _; first | refine L.goF ?_ | refine L.paF ?_ | refine L.go ?_ | refine L.pass ?_ | refine T.pU rfl ?_ | refine T.gF rfl (fun hgd => ?_) (fun hgd => ?_))
    | (show WOpsT _ (⟨_, .pick _ _ _, none⟩ :: _) _ _ _ _; first | refine L.pkT ?_ | refine L.pkF ?_ | refine L.pickT ?_ | refine L.pickF ?_ | refine L.pickB ?_ | refine T.pkD rfl (fun hgd => ?_) (fun hgd => ?_))
    | (show AKW _ _ _ _ _ _ _; first | refine N.now ?_)
    | (show AK _ _ (.cond _ _ _) _ _ _ _; first | refine N.c1 ?_ | refine N.c2 ?_ | refine N.c3 ?_ | refine N.c4 ?_ | refine N.condD rfl (fun hcd => ?_) (fun hcd => ?_) | refine N.condB rfl (fun hcd => ?_) (fun hcd => ?_) | refine N.condU rfl ?_ ?_)
    | (show AK _ _ _ _ _ _ _; first | refine N.seq ?_ | refine N.block ?_ | refine N.skip ?_ | refine N.exit ?_ | refine N.ret ?_)
    | (show RK _ _ _ _ _ _ _; simp only [rk, rk0, reduceIte, Nat.reduceEqDiff])
    | (show WOpsT _ _ _ _ _ _; first | refine L.ext ?_ | refine T.notD rfl ?_ | refine T.not rfl ?_ | refine L.fad ?_ | refine L.fadd ?_ | refine L.st ?_ | refine L.zero ?_ | refine L.build ?_ | refine L.len ?_ | refine L.lenS ?_ | refine L.lenN ?_)
    | refine hQ _ _ _ rfl ?_
    | refine hQN _ _ _ rfl ?_)
    refine N.loop (σ := Nat × Core) (fun s => [(7, .ptr 0 1 0 0), (8, .ptr 1 1 0 0), (9, .ptr 2 1 0 0), (11, I s.1)]) (fun s => [⟨1, 5, [cpC c]⟩, ⟨1, 12, [coC s.2]⟩, ⟨1, 4, [inC ⟨xo, xn, xm, xc⟩]⟩]) (fun s => EndI o xc s.1 s.2) (fun s => 9 - s.1) (0, _) hE (Weaks.sel (by repeat (first | exact trivial | refine ⟨.rfl, ?_⟩ | refine ⟨.any, ?_⟩)) rfl) fun w hi K2 hC => ?_
    obtain ⟨i, k⟩ := w
    dsimp only at hi hC ⊢
    obtain ⟨hk1, hk2⟩ := hat k i
    have hil : i ≤ xc.length := by rcases hi with ⟨_, _, h⟩ | ⟨_, _, h⟩ <;> omega
    by_cases hop : k.op = -1
    · have hfin : lsM xc xc.length ≤ i ∧ i ≤ xc.length := by
        rcases hi with ⟨_, h⟩ | ⟨h, _⟩
        · exact h
        · exfalso; omega
      clear hstep hk1 hk2 hat ht0 hfd hmk hb hg
      obtain ⟨r1, op1, a1, n1⟩ := k
      dsimp only at hop
      subst hop
      rw [show coC ⟨r1, -1, a1, n1⟩ = coA r1 (-1) a1 n1 from rfl]
      generalize lsM xc xc.length = ls at *
      repeat' (first
      | rw [co_mren]
      | rw [co_co]
      | rw [co_t12]
      | rw [co_t9]
      | rw [ri_t9]
      | rw [cp_t5]
      | rw [co_z]
      | rw [ri_mren]
      | rw [co_r]
      | rw [co_op]
      | rw [co_at]
      | rw [co_nmi]
      | rw [ri_splz]
      | rw [List.length_map]
      | rw [co_b]
      | rw [cp_mren]
      | rw [cp_z]
      | rw [ine_mren]
      | rw [ine_t4]
      | rw [ine_z]
      | refine N.regS fun K hK => ?_
      | refine N.dregS fun K hK => ?_
      | refine N.regN fun K hK => ?_
      | refine N.dregN fun K hK => ?_
      | simp only [T.mv, sm, AO.ev, put, lk, enter, reduceIte, Nat.reduceEqDiff, Nat.reduceAdd, Nat.reduceMul, Nat.reduceSub, Int.reduceNeg, Int.reduceToNat, upto, renB, setAll]
      | (refine T.nil ?_; (first | refine hK _ _ _ (by rfl) ?_ | refine hK _ _ _ ?_); (try simp only [keep, List.map, lk, reduceIte, Nat.reduceEqDiff, enter]); clear hK K)
      | (show WOpsT _ (⟨_, .call _ _, none⟩ :: _) _ _ _ _; first | refine T.call0 e72 rfl (htm) ?_)
      | (show WOpsT _ (⟨_, .ld _ _, none⟩ :: _) _ _ _ _; first | refine L.ld ?_ | refine L.ldd ?_ | refine L.ldn ?_ | refine L.lddn ?_)
      | (show WOpsT _ (⟨_, .bin _ _ _, none⟩ :: _) _ _ _ _; first | refine L.add ?_ | refine L.bin ?_)
      | (show WOpsT _ (⟨_, _, some (_, true)⟩ :: _) _ _ _ _; first | refine L.goT ?_ | refine L.paT ?_ | refine L.go ?_ | refine L.pass ?_ | refine T.pU rfl ?_ | refine T.gT rfl (fun hgd => ?_) (fun hgd => ?_))
      | (show WOpsT _ (⟨_, _, some (_, false)⟩ :: _) _ _ _ _; first | refine L.goF ?_ | refine L.paF ?_ | refine L.go ?_ | refine L.pass ?_ | refine T.pU rfl ?_ | refine T.gF rfl (fun hgd => ?_) (fun hgd => ?_))
      | (show WOpsT _ (⟨_, .pick _ _ _, none⟩ :: _) _ _ _ _; first | refine L.pkT ?_ | refine L.pkF ?_ | refine L.pickT ?_ | refine L.pickF ?_ | refine L.pickB ?_ | refine T.pkD rfl (fun hgd => ?_) (fun hgd => ?_))
      | (show AKW _ _ _ _ _ _ _; first | refine N.now ?_)
      | (show AK _ _ (.cond _ _ _) _ _ _ _; first | refine N.c1 ?_ | refine N.c2 ?_ | refine N.c3 ?_ | refine N.c4 ?_ | refine N.condD rfl (fun hcd => ?_) (fun hcd => ?_) | refine N.condB rfl (fun hcd => ?_) (fun hcd => ?_) | refine N.condU rfl ?_ ?_)
      | (show AK _ _ _ _ _ _ _; first | refine N.seq ?_ | refine N.block ?_ | refine N.skip ?_ | refine N.exit ?_ | refine N.ret ?_)
      | (show RK _ _ _ _ _ _ _; simp only [rk, rk0, reduceIte, Nat.reduceEqDiff])
      | (show WOpsT _ _ _ _ _ _; first | refine L.ext ?_ | refine T.notD rfl ?_ | refine T.not rfl ?_ | refine L.fad ?_ | refine L.fadd ?_ | refine L.st ?_ | refine L.zero ?_ | refine L.build ?_ | refine L.len ?_ | refine L.lenS ?_ | refine L.lenN ?_)
      | refine hQ _ _ _ rfl ?_
      | refine hQN _ _ _ rfl ?_)
      all_goals first
        | exact WS.bool rfl (by simp; omega)
        | (exfalso; omega)
        | trace_state
    · have hn := hstep i k hbr hcy hi hop i
      have hil2 : i < xc.length := by rcases hi with ⟨h, _⟩ | ⟨_, _, h⟩ <;> omega
      generalize (askM c k true).2 = bu at *
      generalize (askM c k true).1 = k1 at *
      generalize tellM c k1 i = k2 at *
      obtain ⟨r1, op1, a1, n1⟩ := k
      obtain ⟨r2, op2, a2, n2⟩ := k1
      obtain ⟨r3, op3, a3, n3⟩ := k2
      dsimp only [coC] at hk1 hk2 hop
      rw [show coC ⟨r1, op1, a1, n1⟩ = coA r1 op1 a1 n1 from rfl]
      repeat' (first
      | rw [co_mren]
      | rw [co_co]
      | rw [co_t12]
      | rw [co_t9]
      | rw [ri_t9]
      | rw [cp_t5]
      | rw [co_z]
      | rw [ri_mren]
      | rw [co_r]
      | rw [co_op]
      | rw [co_at]
      | rw [co_nmi]
      | rw [ri_splz]
      | rw [List.length_map]
      | rw [co_b]
      | rw [cp_mren]
      | rw [cp_z]
      | rw [ine_mren]
      | rw [ine_t4]
      | rw [ine_z]
      | refine N.regS fun K hK => ?_
      | refine N.dregS fun K hK => ?_
      | refine N.regN fun K hK => ?_
      | refine N.dregN fun K hK => ?_
      | simp only [T.mv, sm, AO.ev, put, lk, enter, reduceIte, Nat.reduceEqDiff, Nat.reduceAdd, Nat.reduceMul, Nat.reduceSub, Int.reduceNeg, Int.reduceToNat, upto, renB, setAll]
      | (refine T.nil ?_; (first | refine hK _ _ _ (by rfl) ?_ | refine hK _ _ _ ?_); (try simp only [keep, List.map, lk, reduceIte, Nat.reduceEqDiff, enter]); clear hK K)
      | (show WOpsT _ (⟨_, .call _ _, none⟩ :: _) _ _ _ _; first | refine T.call0 e71 rfl (hk1) ?_ | refine T.call0 e69 rfl (hk2) ?_)
      | (show WOpsT _ (⟨_, .ld _ _, none⟩ :: _) _ _ _ _; first | refine L.ld ?_ | refine L.ldd ?_ | refine L.ldn ?_ | refine L.lddn ?_)
      | (show WOpsT _ (⟨_, .bin _ _ _, none⟩ :: _) _ _ _ _; first | refine L.add ?_ | refine L.bin ?_)
      | (show WOpsT _ (⟨_, _, some (_, true)⟩ :: _) _ _ _ _; first | refine L.goT ?_ | refine L.paT ?_ | refine L.go ?_ | refine L.pass ?_ | refine T.pU rfl ?_ | refine T.gT rfl (fun hgd => ?_) (fun hgd => ?_))
      | (show WOpsT _ (⟨_, _, some (_, false)⟩ :: _) _ _ _ _; first | refine L.goF ?_ | refine L.paF ?_ | refine L.go ?_ | refine L.pass ?_ | refine T.pU rfl ?_ | refine T.gF rfl (fun hgd => ?_) (fun hgd => ?_))
      | (show WOpsT _ (⟨_, .pick _ _ _, none⟩ :: _) _ _ _ _; first | refine L.pkT ?_ | refine L.pkF ?_ | refine L.pickT ?_ | refine L.pickF ?_ | refine L.pickB ?_ | refine T.pkD rfl (fun hgd => ?_) (fun hgd => ?_))
      | (show AKW _ _ _ _ _ _ _; first | refine N.now ?_)
      | (show AK _ _ (.cond _ _ _) _ _ _ _; first | refine N.c1 ?_ | refine N.c2 ?_ | refine N.c3 ?_ | refine N.c4 ?_ | refine N.condD rfl (fun hcd => ?_) (fun hcd => ?_) | refine N.condB rfl (fun hcd => ?_) (fun hcd => ?_) | refine N.condU rfl ?_ ?_)
      | (show AK _ _ _ _ _ _ _; first | refine N.seq ?_ | refine N.block ?_ | refine N.skip ?_ | refine N.exit ?_ | refine N.ret ?_)
      | (show RK _ _ _ _ _ _ _; simp only [rk, rk0, reduceIte, Nat.reduceEqDiff])
      | (show WOpsT _ _ _ _ _ _; first | refine L.ext ?_ | refine T.notD rfl ?_ | refine T.not rfl ?_ | refine L.fad ?_ | refine L.fadd ?_ | refine L.st ?_ | refine L.zero ?_ | refine L.build ?_ | refine L.len ?_ | refine L.lenS ?_ | refine L.lenN ?_)
      | refine hQ _ _ _ rfl ?_
      | refine hQN _ _ _ rfl ?_)
      all_goals first
        | (exfalso; omega)
        | exact hC _ _ (i + 1, ⟨r3, op3, a3, n3⟩) hn (by dsimp only; omega) (Weaks.gc [0, 1, 2] 1 rfl (by repeat (first | exact trivial | refine ⟨.rfl, ?_⟩ | refine ⟨.any, ?_⟩)) rfl)
        | trace_state
end Go.Proofs.Ytjmmompbmjhkpaa.Calc

