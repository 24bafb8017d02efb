/- Several texts in one (FnStdG, FnStdH, FnCoreL, FnWholeC, PureRg, FnWholeD, FnWholeH, PureTimes, PureTimesB, PureKeep, FnKeep, FnWholeF), for the proof of LawWholeKeeps. No condition beyond those in each lemma. -/
import Derived.Test.YtjmmompbmjhkpaaPLawWholeKeepsF
import Derived.Test.YtjmmompbmjhkpaaPLawWholeKeepsE
import Derived.Test.YtjmmompbmjhkpaaPLawWholeKeepsD
import Derived.KernelRfl
namespace Go.Proofs.Ytjmmompbmjhkpaa.Calc
open Go Code
set_option linter.unusedSimpArgs false
set_option linter.unusedVariables false
set_option maxRecDepth 20000
set_option maxHeartbeats 4000000
attribute [local irreducible] WOpsT AW AK RK AKW UK UC
theorem outB_in {h : List Blk} {ids : List Nat} {n v : Nat} {l : List Ins} {x : Ins} {row : List V} (hx : row.map (out h ids n) = inC x) : outB h ids n ⟨v, 4, l.map inC ++ [row]⟩ = ⟨v, 4, l.map inC ++ [inC x]⟩ := by
  rw [outB_flatA, List.map_cons, List.map_nil, hx]
section
variable {P : Program} {q : Nat} {st : List KF} {Q : Exit → Fr → List Blk → Prop} {fr : Fr} {h : List Blk} {c : AC}
theorem wA (k : Nat) (fr1 : Fr) (hA : AK P q c st Q fr1 [mA k, mB k]) (hids : gcOk q h.length [0, 1] = true := by rfl) (hs : selO h [0, 1] 2 fr fr1 := by exact ⟨.rfl, .rfl, .rfl, trivial⟩) (h0 : mA k = outB h [0, 1] 2 (h.getD 0 default) := by rfl) (h1 : mB k = h.getD 1 default := by rfl) : AKW P q c st Q fr h :=
  N.weak (Weaks.gc [0, 1] 2 hids hs (by
    show [_, _] = [outB h [0, 1] 2 (h.getD 0 default), outB h [0, 1] 2 (h.getD 1 default)]
    rw [← h0, ← h1, outB_mB])) (N.now hA)
theorem wB (k : Nat) (hA : AK P q c st Q [(0, .ptr 0 1 0 0)] [mA k, mB k]) (hids : gcOk q h.length [0, 1] = true := by rfl) (hs : selO h [0, 1] 0 fr [(0, .ptr 0 1 0 0)] := by exact ⟨.rfl, trivial⟩) (h0 : h.getD 0 default = renB [0, 1] (mA k) := by rfl) (h1 : h.getD 1 default = renB [0, 1] (mB k) := by rfl) : AKW P q c st Q fr h :=
  N.weak (Weaks.gc [0, 1] 0 hids hs (by
    show [_, _] = [outB h [0, 1] 0 (h.getD 0 default), outB h [0, 1] 0 (h.getD 1 default)]
    rw [h0, h1, renB_mB, outB_mB]; rfl)) (N.now hA)
end
theorem mB_succ {k : Nat} {s : ByteArray} {m : Int} {cy : List Cyc} (hc : stdL[k]? = some [(s, m, cy)]) : mB (k + 1) = ⟨(number 0 (memR k)).length + 1, 4, (number 0 (memR k)).map inC ++ [inC (insN (number 0 (memR k)) s m cy)]⟩ := by
  rw [← mkB_snoc, show number 0 (memR k) ++ [insN (number 0 (memR k)) s m cy] = number 0 (memR (k + 1)) from num_succ hc]; rfl
theorem mA_succ {k : Nat} {c : Row} (hc : stdL[k]? = some [c]) : mA (k + 1) = ⟨1, 1, [[.psl 1 ((number 0 (memR k)).length + 1) 0 ((number 0 (memR k)).length + 1)]]⟩ := by
  unfold mA mkA
  rw [number_len, number_len, memR_succ k _ hc, List.length_append]; rfl
theorem addS1 (k : Nat) (hk : k < 50 ∧ 1 ≤ k) (s : ByteArray) (m b a r : Int) (ss : List Stp) (n : Nat) :
    FnE Try.prog 183 [.ptr 0 1 0 0, .c (.string s), I m, .psl 2 1 0 1] [mA k, mB k, ⟨1, 4, [[I b, I a, I r, .psl 3 1 0 n]]⟩, ⟨1, 4, ss.map stC⟩] (.tup [])
      [⟨1, 1, [[.psl 1 ((number 0 (memR k)).length + 1) 0 ((number 0 (memR k)).length + 1)]]⟩, ⟨(number 0 (memR k)).length + 1, 4, (number 0 (memR k)).map inC ++ [[I ((number 0 (memR k)).length + 1), .c (.string s), I m, .psl 2 1 0 1]]⟩, ⟨1, 4, [[I b, I a, I r, .psl 3 1 0 n]]⟩, ⟨1, 4, ss.map stC⟩] := by
  have hl := num_len k hk
  unfold mA mB
  obtain ⟨l, hle⟩ : ∃ l, number 0 (memR k) = l := ⟨_, rfl⟩
  rw [hle] at hl ⊢
  refine N.fn Try.func183 k183 lb q183 fun Q hQ hQN => ?_
  rw [c183]
  repeat' (first
    | (show WOpsT _ (⟨_, .app _ _ _ _, none⟩ :: _) _ _ _ _; refine T.app rfl rfl rfl ⟨by decide, by decide⟩ ⟨rfl, rfl, by rw [Nat.zero_add]; exact (List.length_map _).symm, by simp; omega⟩ ?_)
    | (show WOpsT _ (⟨_, .st _ _ _, none⟩ :: _) _ _ _ _; refine T.st rfl rfl (vcells_psl rfl rfl) ⟨rfl, rfl⟩ rfl (Nat.le_of_ble_eq_true rfl) ?_)
    | refine N.regS fun K hK => ?_
    | refine N.dregS fun K hK => ?_
    | refine N.regN fun K hK => ?_
    | refine N.dregN fun K hK => ?_
    | simp only [T.mv, sm, AO.ev, put, lk, enter, reduceIte, Nat.reduceEqDiff, Nat.reduceAdd, Nat.reduceMul, Nat.reduceSub, Int.reduceNeg, Int.reduceToNat, upto, renB, setAll]
    | (refine T.nil ?_; (first | refine hK _ _ _ (by rfl) ?_ | refine hK _ _ _ ?_); (try simp only [keep, List.map, lk, reduceIte, Nat.reduceEqDiff, enter]); clear hK K)
    | (show WOpsT _ (⟨_, .ld _ _, none⟩ :: _) _ _ _ _; first | refine L.ld ?_ | refine L.ldd ?_)
    | (show WOpsT _ (⟨_, .bin _ _ _, none⟩ :: _) _ _ _ _; first | refine L.add ?_ | refine L.bin ?_)
    | (show AKW _ _ _ _ _ _ _; first | refine N.now ?_)
    | (show AK _ _ _ _ _ _ _; first | refine N.seq ?_ | refine N.ret ?_)
    | (show RK _ _ _ _ _ _ _; simp only [rk, rk0, reduceIte, Nat.reduceEqDiff])
    | (show WOpsT _ _ _ _ _ _; first | refine L.fad ?_ | refine L.fadd ?_ | refine L.nilc ?_ | refine L.nilcd ?_ | refine T.nilcf rfl ?_ | refine T.nilci rfl ?_ | refine L.st ?_ | refine L.build ?_ | refine L.len ?_ | refine L.lenS ?_ | refine L.lenN ?_ | refine L.bsl ?_)
    | refine hQ _ _ _ rfl ?_
    | refine hQN _ _ _ rfl ?_)
  exact WS.gc [0, 1, 2, 3] 0 rfl (by show [_, ⟨_, _, _⟩, _, ⟨1, 4, ss.map stC⟩] = [_, outB _ _ _ ⟨l.length + 1, 4, l.map inC ++ [[I (l.length + 1), .c (.string s), I m, .psl 2 1 0 1]]⟩, _, outB _ _ _ ⟨1, 4, ss.map stC⟩]; rw [outB_flatA, outB_flat]; rfl) .rfl
theorem addS2 (k : Nat) (hk : k < 50 ∧ 1 ≤ k) (s : ByteArray) (m b a r b' a' r' : Int) (ss ss' : List Stp) (n n' : Nat) :
    FnE Try.prog 183 [.ptr 0 1 0 0, .c (.string s), I m, .psl 2 1 0 2] [mA k, mB k, ⟨1, 4, [[I b, I a, I r, .psl 3 1 0 n], [I b', I a', I r', .psl 4 1 0 n']]⟩, ⟨1, 4, ss.map stC⟩, ⟨1, 4, ss'.map stC⟩] (.tup [])
      [⟨1, 1, [[.psl 1 ((number 0 (memR k)).length + 1) 0 ((number 0 (memR k)).length + 1)]]⟩, ⟨(number 0 (memR k)).length + 1, 4, (number 0 (memR k)).map inC ++ [[I ((number 0 (memR k)).length + 1), .c (.string s), I m, .psl 2 1 0 2]]⟩, ⟨1, 4, [[I b, I a, I r, .psl 3 1 0 n], [I b', I a', I r', .psl 4 1 0 n']]⟩, ⟨1, 4, ss.map stC⟩, ⟨1, 4, ss'.map stC⟩] := by
  have hl := num_len k hk
  unfold mA mB
  obtain ⟨l, hle⟩ : ∃ l, number 0 (memR k) = l := ⟨_, rfl⟩
  rw [hle] at hl ⊢
  refine N.fn Try.func183 k183 lb q183 fun Q hQ hQN => ?_
  rw [c183]
  repeat' (first
    | (show WOpsT _ (⟨_, .app _ _ _ _, none⟩ :: _) _ _ _ _; refine T.app rfl rfl rfl ⟨by decide, by decide⟩ ⟨rfl, rfl, by rw [Nat.zero_add]; exact (List.length_map _).symm, by simp; omega⟩ ?_)
    | (show WOpsT _ (⟨_, .st _ _ _, none⟩ :: _) _ _ _ _; refine T.st rfl rfl (vcells_psl rfl rfl) ⟨rfl, rfl⟩ rfl (Nat.le_of_ble_eq_true rfl) ?_)
    | refine N.regS fun K hK => ?_
    | refine N.dregS fun K hK => ?_
    | refine N.regN fun K hK => ?_
    | refine N.dregN fun K hK => ?_
    | simp only [T.mv, sm, AO.ev, put, lk, enter, reduceIte, Nat.reduceEqDiff, Nat.reduceAdd, Nat.reduceMul, Nat.reduceSub, Int.reduceNeg, Int.reduceToNat, upto, renB, setAll]
    | (refine T.nil ?_; (first | refine hK _ _ _ (by rfl) ?_ | refine hK _ _ _ ?_); (try simp only [keep, List.map, lk, reduceIte, Nat.reduceEqDiff, enter]); clear hK K)
    | (show WOpsT _ (⟨_, .ld _ _, none⟩ :: _) _ _ _ _; first | refine L.ld ?_ | refine L.ldd ?_)
    | (show WOpsT _ (⟨_, .bin _ _ _, none⟩ :: _) _ _ _ _; first | refine L.add ?_ | refine L.bin ?_)
    | (show AKW _ _ _ _ _ _ _; first | refine N.now ?_)
    | (show AK _ _ _ _ _ _ _; first | refine N.seq ?_ | refine N.ret ?_)
    | (show RK _ _ _ _ _ _ _; simp only [rk, rk0, reduceIte, Nat.reduceEqDiff])
    | (show WOpsT _ _ _ _ _ _; first | refine L.fad ?_ | refine L.fadd ?_ | refine L.nilc ?_ | refine L.nilcd ?_ | refine T.nilcf rfl ?_ | refine T.nilci rfl ?_ | refine L.st ?_ | refine L.build ?_ | refine L.len ?_ | refine L.lenS ?_ | refine L.lenN ?_ | refine L.bsl ?_)
    | refine hQ _ _ _ rfl ?_
    | refine hQN _ _ _ rfl ?_)
  exact WS.gc [0, 1, 2, 3, 4] 0 rfl (by show [_, ⟨_, _, _⟩, _, ⟨1, 4, ss.map stC⟩, ⟨1, 4, ss'.map stC⟩] = [_, outB _ _ _ ⟨l.length + 1, 4, l.map inC ++ [[I (l.length + 1), .c (.string s), I m, .psl 2 1 0 2]]⟩, _, outB _ _ _ ⟨1, 4, ss.map stC⟩, outB _ _ _ ⟨1, 4, ss'.map stC⟩]; rw [outB_flatA, outB_flat, outB_flat]; rfl) .rfl
def row3 (p : ByteArray × Int × Int) : List V := [.c (.string p.1), I p.2.1, I p.2.2]
def tabA : List (ByteArray × Int × Int) := [(⟨#[116, 97, 120]⟩, 1, 0), (⟨#[116, 97, 121]⟩, 2, 0), (⟨#[116, 120, 97]⟩, 0, 1), (⟨#[116, 121, 97]⟩, 0, 2), (⟨#[116, 115, 120]⟩, 1, 3)]
def tabW : List (ByteArray × Int × Int) := [(⟨#[98, 101, 113]⟩, 2, 1), (⟨#[98, 110, 101]⟩, 2, 0), (⟨#[98, 99, 115]⟩, 1, 1), (⟨#[98, 99, 99]⟩, 1, 0), (⟨#[98, 109, 105]⟩, 128, 1), (⟨#[98, 112, 108]⟩, 128, 0)]
theorem alone_ok : FnE Try.prog 146 [.ptr 0 1 0 0] [mA 20, mB 20] (.tup []) [mA 39, mB 39] := by
  refine N.fn Try.func146 k146 lb q146 fun Q hQ hQN => ?_
  rw [c146]
  repeat' (first
    | refine N.regS fun K hK => ?_
    | refine N.dregS fun K hK => ?_
    | refine N.regN fun K hK => ?_
    | refine N.dregN fun K hK => ?_
    | simp only [T.mv, sm, AO.ev, put, lk, enter, reduceIte, Nat.reduceEqDiff, Nat.reduceAdd, Nat.reduceMul, Nat.reduceSub, Int.reduceNeg, Int.reduceToNat, upto, renB, setAll]
    | (refine T.nil ?_; (first | refine hK _ _ _ (by rfl) ?_ | refine hK _ _ _ ?_); (try simp only [keep, List.map, lk, reduceIte, Nat.reduceEqDiff, enter]); clear hK K)
    | (show WOpsT _ (⟨_, .ld _ _, none⟩ :: _) _ _ _ _; first | refine L.ld ?_ | refine L.ldd ?_ | refine L.ldn ?_ | refine L.lddn ?_)
    | (show WOpsT _ (⟨_, .idx _ _ _ _, none⟩ :: _) _ _ _ _; first | refine L.idx ?_ | refine L.idxs ?_)
    | (show WOpsT _ (⟨_, .bin _ _ _, none⟩ :: _) _ _ _ _; first | refine L.add ?_ | refine L.bin ?_)
    | (show AK _ _ (.cond _ _ _) _ _ _ _; first | refine N.c1 ?_ | refine N.c2 ?_ | refine N.c3 ?_ | refine N.c4 ?_ | refine N.condD rfl (fun hcd => ?_) (fun hcd => ?_) | refine N.condB rfl (fun hcd => ?_) (fun hcd => ?_) | refine N.condU rfl ?_ ?_)
    | (show AK _ _ _ _ _ _ _; first | refine N.seq ?_ | refine N.block ?_ | refine N.skip ?_ | refine N.exit ?_ | refine N.ret ?_)
    | (show RK _ _ _ _ _ _ _; simp only [rk, rk0, reduceIte, Nat.reduceEqDiff])
    | (show WOpsT _ _ _ _ _ _; first | refine L.fad ?_ | refine L.fadd ?_ | refine L.st ?_ | refine L.zero ?_ | refine L.build ?_ | refine L.len ?_ | refine L.lenS ?_ | refine L.lenN ?_ | refine L.bsl ?_)
    | refine hQ _ _ _ rfl ?_
    | refine hQN _ _ _ rfl ?_)
  refine N.weak (fr1 := [(0, .ptr 0 1 0 0), (9, .psl 2 1 0 5), (10, I 5), (11, I 0)]) (h1 := [mA 20, mB 20, ⟨1, 3, tabA.map row3⟩]) (Weaks.sel (by repeat (first | exact trivial | refine ⟨.rfl, ?_⟩ | refine ⟨.any, ?_⟩)) rfl) (N.now ?_)
  repeat' (first
    | refine N.regS fun K hK => ?_
    | refine N.dregS fun K hK => ?_
    | refine N.regN fun K hK => ?_
    | refine N.dregN fun K hK => ?_
    | simp only [T.mv, sm, AO.ev, put, lk, enter, reduceIte, Nat.reduceEqDiff, Nat.reduceAdd, Nat.reduceMul, Nat.reduceSub, Int.reduceNeg, Int.reduceToNat, upto, renB, setAll]
    | (refine T.nil ?_; (first | refine hK _ _ _ (by rfl) ?_ | refine hK _ _ _ ?_); (try simp only [keep, List.map, lk, reduceIte, Nat.reduceEqDiff, enter]); clear hK K)
    | (show WOpsT _ (⟨_, .ld _ _, none⟩ :: _) _ _ _ _; first | refine L.ld ?_ | refine L.ldd ?_ | refine L.ldn ?_ | refine L.lddn ?_)
    | (show WOpsT _ (⟨_, .idx _ _ _ _, none⟩ :: _) _ _ _ _; first | refine L.idx ?_ | refine L.idxs ?_)
    | (show WOpsT _ (⟨_, .bin _ _ _, none⟩ :: _) _ _ _ _; first | refine L.add ?_ | refine L.bin ?_)
    | (show AK _ _ (.cond _ _ _) _ _ _ _; first | refine N.c1 ?_ | refine N.c2 ?_ | refine N.c3 ?_ | refine N.c4 ?_ | refine N.condD rfl (fun hcd => ?_) (fun hcd => ?_) | refine N.condB rfl (fun hcd => ?_) (fun hcd => ?_) | refine N.condU rfl ?_ ?_)
    | (show AK _ _ _ _ _ _ _; first | refine N.seq ?_ | refine N.block ?_ | refine N.skip ?_ | refine N.exit ?_ | refine N.ret ?_)
    | (show RK _ _ _ _ _ _ _; simp only [rk, rk0, reduceIte, Nat.reduceEqDiff])
    | (show WOpsT _ _ _ _ _ _; first | refine L.fad ?_ | refine L.fadd ?_ | refine L.st ?_ | refine L.zero ?_ | refine L.build ?_ | refine L.len ?_ | refine L.lenS ?_ | refine L.lenN ?_ | refine L.bsl ?_)
    | refine hQ _ _ _ rfl ?_
    | refine hQN _ _ _ rfl ?_)
  refine N.loop (σ := Nat) (fun i => [(0, .ptr 0 1 0 0), (9, .psl 2 1 0 5), (10, I 5), (11, I i)]) (fun i => [mA (20 + i), mB (20 + i), ⟨1, 3, tabA.map row3⟩]) (fun i => i ≤ 5) (fun i => 5 - i) 0 (by omega) (Weaks.sel (by repeat (first | exact trivial | refine ⟨.rfl, ?_⟩ | refine ⟨.any, ?_⟩)) rfl) fun i hi R hC => ?_
  by_cases hil : i < 5
  · have e3 : 0 + (i : Int).toNat = i := by omega
    obtain ⟨p, hp⟩ : ∃ p, tabA[i]? = some p := ⟨tabA[i]'hil, List.getElem?_eq_getElem hil⟩
    have hrow : (tabA.map row3)[i]? = some (row3 p) := by rw [List.getElem?_map, hp]; rfl
    have hst : stdL[20 + i]? = some [(p.1, 0, [noM [twoM 1 p.2.1 p.2.2, oneM 3 p.2.1]])] := by
      have : ∀ j, j < 5 → ∀ q, tabA[j]? = some q → stdL[20 + j]? = some [(q.1, 0, [noM [twoM 1 q.2.1 q.2.2, oneM 3 q.2.1]])] := by
        intro j hj q hq
        match j, hj with
        | 0, _ => cases hq; rfl
        | 1, _ => cases hq; rfl
        | 2, _ => cases hq; rfl
        | 3, _ => cases hq; rfl
        | 4, _ => cases hq; rfl
      exact this i hil p hp
    have hj := addS1 (20 + i) (by omega) p.1 0 0 0 0 [twoM 1 p.2.1 p.2.2, oneM 3 p.2.1] 2
    repeat' (first
      | rw [e3]
      | (show WOpsT _ (⟨_, .ld _ _, none⟩ :: _) _ _ _ _; refine T.ldn rfl rfl rfl hrow (Nat.le_of_ble_eq_true rfl) ?_)
      | rw [rows_renA]
      | refine N.regS fun K hK => ?_
      | refine N.dregS fun K hK => ?_
      | refine N.regN fun K hK => ?_
      | refine N.dregN fun K hK => ?_
      | simp only [T.mv, sm, AO.ev, put, lk, enter, reduceIte, Nat.reduceEqDiff, Nat.reduceAdd, Nat.reduceMul, Nat.reduceSub, Int.reduceNeg, Int.reduceToNat, upto, renB, setAll]
      | (refine T.nil ?_; (first | refine hK _ _ _ (by rfl) ?_ | refine hK _ _ _ ?_); (try simp only [keep, List.map, lk, reduceIte, Nat.reduceEqDiff, enter]); clear hK K)
      | (show WOpsT _ (⟨_, .call _ _, none⟩ :: _) _ _ _ _; first | refine T.call0 e185 rfl ((two_ok 1 p.2.1 p.2.2)) ?_ | refine T.call0 e186 rfl ((one_ok 3 p.2.1)) ?_ | refine T.cP [4] e184 ((noP_ok [twoM 1 p.2.1 p.2.2, oneM 3 p.2.1] 2)) ?_ | refine T.cP [0, 1, 5, 4] e183 (hj) ?_)
      | (show WOpsT _ (⟨_, .ld _ _, none⟩ :: _) _ _ _ _; first | refine L.ld ?_ | refine L.ldd ?_ | refine L.ldn ?_ | refine L.lddn ?_)
      | (show WOpsT _ (⟨_, .idx _ _ _ _, none⟩ :: _) _ _ _ _; first | refine L.idx ?_ | refine L.idxs ?_)
      | (show WOpsT _ (⟨_, .bin _ _ _, none⟩ :: _) _ _ _ _; first | refine L.add ?_ | refine L.bin ?_)
      | (show AKW _ _ _ _ _ _ _; first | refine N.now ?_)
      | (show AK _ _ (.cond _ _ _) _ _ _ _; first | refine N.c1 ?_ | refine N.c2 ?_ | refine N.c3 ?_ | refine N.c4 ?_ | refine N.condD rfl (fun hcd => ?_) (fun hcd => ?_) | refine N.condB rfl (fun hcd => ?_) (fun hcd => ?_) | refine N.condU rfl ?_ ?_)
      | (show AK _ _ _ _ _ _ _; first | refine N.seq ?_ | refine N.block ?_ | refine N.skip ?_ | refine N.exit ?_ | refine N.ret ?_)
      | (show RK _ _ _ _ _ _ _; simp only [rk, rk0, reduceIte, Nat.reduceEqDiff])
      | (show WOpsT _ _ _ _ _ _; first | refine L.fad ?_ | refine L.fadd ?_ | refine L.st ?_ | refine L.zero ?_ | refine L.build ?_ | refine L.len ?_ | refine L.lenS ?_ | refine L.lenN ?_ | refine L.bsl ?_)
      | refine hQ _ _ _ rfl ?_
      | refine hQN _ _ _ rfl ?_)
    exact hC _ _ (i + 1) (by omega) (by omega) (Weaks.gc [0, 1, 2] 2 rfl (by repeat (first | exact trivial | refine ⟨.rfl, ?_⟩ | refine ⟨.any, ?_⟩)) (by rw [show 20 + (i + 1) = 20 + i + 1 from rfl, mA_succ hst, mB_succ hst]; show [_, _, _] = [_, outB _ [0, 1, 2] 2 ⟨_, 4, (number 0 (memR (20 + i))).map inC ++ [_]⟩, _]; rw [outB_in (x := insN (number 0 (memR (20 + i))) p.1 0 ([noM [twoM 1 p.2.1 p.2.2, oneM 3 p.2.1]])) rfl]; rfl))
  · obtain rfl : i = 5 := by omega
    repeat' (first
      | (show AKW _ _ (.seq (.cond _ _ _) _) _ _ _ _; refine N.now ?_)
      | refine N.regS fun K hK => ?_
      | refine N.dregS fun K hK => ?_
      | refine N.regN fun K hK => ?_
      | refine N.dregN fun K hK => ?_
      | simp only [T.mv, sm, AO.ev, put, lk, enter, reduceIte, Nat.reduceEqDiff, Nat.reduceAdd, Nat.reduceMul, Nat.reduceSub, Int.reduceNeg, Int.reduceToNat, upto, renB, setAll]
      | (refine T.nil ?_; (first | refine hK _ _ _ (by rfl) ?_ | refine hK _ _ _ ?_); (try simp only [keep, List.map, lk, reduceIte, Nat.reduceEqDiff, enter]); clear hK K)
      | (show WOpsT _ (⟨_, .ld _ _, none⟩ :: _) _ _ _ _; first | refine L.ld ?_ | refine L.ldd ?_ | refine L.ldn ?_ | refine L.lddn ?_)
      | (show WOpsT _ (⟨_, .idx _ _ _ _, none⟩ :: _) _ _ _ _; first | refine L.idx ?_ | refine L.idxs ?_)
      | (show WOpsT _ (⟨_, .bin _ _ _, none⟩ :: _) _ _ _ _; first | refine L.add ?_ | refine L.bin ?_)
      | (show AK _ _ (.cond _ _ _) _ _ _ _; first | refine N.c1 ?_ | refine N.c2 ?_ | refine N.c3 ?_ | refine N.c4 ?_ | refine N.condD rfl (fun hcd => ?_) (fun hcd => ?_) | refine N.condB rfl (fun hcd => ?_) (fun hcd => ?_) | refine N.condU rfl ?_ ?_)
      | (show AK _ _ _ _ _ _ _; first | refine N.seq ?_ | refine N.block ?_ | refine N.skip ?_ | refine N.exit ?_ | refine N.ret ?_)
      | (show RK _ _ _ _ _ _ _; simp only [rk, rk0, reduceIte, Nat.reduceEqDiff])
      | (show WOpsT _ _ _ _ _ _; first | refine L.fad ?_ | refine L.fadd ?_ | refine L.st ?_ | refine L.zero ?_ | refine L.build ?_ | refine L.len ?_ | refine L.lenS ?_ | refine L.lenN ?_ | refine L.bsl ?_)
      | refine hQ _ _ _ rfl ?_
      | refine hQN _ _ _ rfl ?_)
    refine N.weak (fr1 := [(0, .ptr 0 1 0 0)]) (h1 := [mA 25, mB 25]) (Weaks.gc [0, 1] 0 rfl ⟨.rfl, trivial⟩ (by show [mA 25, mB 25] = [outB _ [0, 1] 0 (mA 25), outB _ _ _ (mB 25)]; rw [outB_mB]; rfl)) (N.now ?_)
    repeat' (first
      | (show AK _ _ (.seq (.reg (⟨some 31, _, _⟩ :: _) _) _) _ _ _ _; refine N.cut 5 fun K hK => ?_)
      | (show AKW _ _ (.seq (.reg (⟨some 36, _, _⟩ :: _) _) _) _ _ _ _; refine wA 25 [(0, .ptr 0 1 0 0), (31, .ptr 0 1 0 0), (35, .sl 4 (([noM [twoM 1 3 1]]).map cyC))] ?_)
      | (show AK _ _ (.seq (.reg (⟨some 37, _, _⟩ :: _) _) _) _ _ _ _; refine N.cut 5 fun K hK => ?_)
      | (show AKW _ _ (.seq (.reg (⟨some 42, _, _⟩ :: _) _) _) _ _ _ _; refine wA 26 [(0, .ptr 0 1 0 0), (37, .ptr 0 1 0 0), (41, .sl 4 (([noM [oneM 10 1]]).map cyC))] ?_)
      | (show AKW _ _ (.seq (.reg (⟨some 37, _, _⟩ :: _) _) _) _ _ _ _; refine wB 26 ?_)
      | (show AK _ _ (.seq (.reg (⟨some 43, _, _⟩ :: _) _) _) _ _ _ _; refine N.cut 5 fun K hK => ?_)
      | (show AKW _ _ (.seq (.reg (⟨some 48, _, _⟩ :: _) _) _) _ _ _ _; refine wA 27 [(0, .ptr 0 1 0 0), (43, .ptr 0 1 0 0), (47, .sl 4 (([noM [oneM 10 2]]).map cyC))] ?_)
      | (show AKW _ _ (.seq (.reg (⟨some 43, _, _⟩ :: _) _) _) _ _ _ _; refine wB 27 ?_)
      | (show AK _ _ (.seq (.reg (⟨some 49, _, _⟩ :: _) _) _) _ _ _ _; refine N.cut 5 fun K hK => ?_)
      | (show AKW _ _ (.seq (.reg (⟨some 54, _, _⟩ :: _) _) _) _ _ _ _; refine wA 28 [(0, .ptr 0 1 0 0), (49, .ptr 0 1 0 0), (53, .sl 4 (([noM [oneM 11 1]]).map cyC))] ?_)
      | (show AKW _ _ (.seq (.reg (⟨some 49, _, _⟩ :: _) _) _) _ _ _ _; refine wB 28 ?_)
      | (show AK _ _ (.seq (.reg (⟨some 55, _, _⟩ :: _) _) _) _ _ _ _; refine N.cut 5 fun K hK => ?_)
      | (show AKW _ _ (.seq (.reg (⟨some 60, _, _⟩ :: _) _) _) _ _ _ _; refine wA 29 [(0, .ptr 0 1 0 0), (55, .ptr 0 1 0 0), (59, .sl 4 (([noM [oneM 11 2]]).map cyC))] ?_)
      | (show AKW _ _ (.seq (.reg (⟨some 55, _, _⟩ :: _) _) _) _ _ _ _; refine wB 29 ?_)
      | (show AK _ _ (.seq (.reg (⟨some 61, _, _⟩ :: _) _) _) _ _ _ _; refine N.cut 5 fun K hK => ?_)
      | (show AKW _ _ (.seq (.reg (⟨some 66, _, _⟩ :: _) _) _) _ _ _ _; refine wA 30 [(0, .ptr 0 1 0 0), (61, .ptr 0 1 0 0), (65, .sl 4 (([noM [⟨17, 0, 0, 1⟩]]).map cyC))] ?_)
      | (show AKW _ _ (.seq (.reg (⟨some 61, _, _⟩ :: _) _) _) _ _ _ _; refine wB 30 ?_)
      | (show AK _ _ (.seq (.reg (⟨some 67, _, _⟩ :: _) _) _) _ _ _ _; refine N.cut 5 fun K hK => ?_)
      | (show AKW _ _ (.seq (.reg (⟨some 72, _, _⟩ :: _) _) _) _ _ _ _; refine wA 31 [(0, .ptr 0 1 0 0), (67, .ptr 0 1 0 0), (71, .sl 4 (([noM [⟨16, 0, 0, 1⟩]]).map cyC))] ?_)
      | (show AKW _ _ (.seq (.reg (⟨some 67, _, _⟩ :: _) _) _) _ _ _ _; refine wB 31 ?_)
      | (show AK _ _ (.seq (.reg (⟨some 73, _, _⟩ :: _) _) _) _ _ _ _; refine N.cut 5 fun K hK => ?_)
      | (show AKW _ _ (.seq (.reg (⟨some 78, _, _⟩ :: _) _) _) _ _ _ _; refine wA 32 [(0, .ptr 0 1 0 0), (73, .ptr 0 1 0 0), (77, .sl 4 (([noM [⟨17, 0, 0, 4⟩]]).map cyC))] ?_)
      | (show AKW _ _ (.seq (.reg (⟨some 73, _, _⟩ :: _) _) _) _ _ _ _; refine wB 32 ?_)
      | (show AK _ _ (.seq (.reg (⟨some 79, _, _⟩ :: _) _) _) _ _ _ _; refine N.cut 5 fun K hK => ?_)
      | (show AKW _ _ (.seq (.reg (⟨some 84, _, _⟩ :: _) _) _) _ _ _ _; refine wA 33 [(0, .ptr 0 1 0 0), (79, .ptr 0 1 0 0), (83, .sl 4 (([noM [⟨16, 0, 0, 4⟩]]).map cyC))] ?_)
      | (show AKW _ _ (.seq (.reg (⟨some 79, _, _⟩ :: _) _) _) _ _ _ _; refine wB 33 ?_)
      | (show AK _ _ (.seq (.reg (⟨some 85, _, _⟩ :: _) _) _) _ _ _ _; refine N.cut 3 fun K hK => ?_)
      | (show AKW _ _ (.seq (.reg (⟨some 88, _, _⟩ :: _) _) _) _ _ _ _; refine wA 34 [(0, .ptr 0 1 0 0), (85, .ptr 0 1 0 0), (87, .sl 4 (([noM []]).map cyC))] ?_)
      | (show AKW _ _ (.seq (.reg (⟨some 85, _, _⟩ :: _) _) _) _ _ _ _; refine wB 34 ?_)
      | (show AK _ _ (.seq (.reg (⟨some 89, _, _⟩ :: _) _) _) _ _ _ _; refine N.cut 3 fun K hK => ?_)
      | (show AKW _ _ (.seq (.reg (⟨some 92, _, _⟩ :: _) _) _) _ _ _ _; refine wA 35 [(0, .ptr 0 1 0 0), (89, .ptr 0 1 0 0), (91, .sl 4 (([wrM 4 0 []]).map cyC))] ?_)
      | (show AKW _ _ (.seq (.reg (⟨some 89, _, _⟩ :: _) _) _) _ _ _ _; refine wB 35 ?_)
      | (show AK _ _ (.seq (.reg (⟨some 93, _, _⟩ :: _) _) _) _ _ _ _; refine N.cut 5 fun K hK => ?_)
      | (show AKW _ _ (.seq (.reg (⟨some 98, _, _⟩ :: _) _) _) _ _ _ _; refine wA 36 [(0, .ptr 0 1 0 0), (93, .ptr 0 1 0 0), (97, .sl 4 (([rdM 5 0 [oneM 3 0]]).map cyC))] ?_)
      | (show AKW _ _ (.seq (.reg (⟨some 93, _, _⟩ :: _) _) _) _ _ _ _; refine wB 36 ?_)
      | (show AK _ _ (.seq (.reg (⟨some 99, _, _⟩ :: _) _) _) _ _ _ _; refine N.cut 3 fun K hK => ?_)
      | (show AKW _ _ (.seq (.reg (⟨some 102, _, _⟩ :: _) _) _) _ _ _ _; refine wA 37 [(0, .ptr 0 1 0 0), (99, .ptr 0 1 0 0), (101, .sl 4 (([wrM 4 4 []]).map cyC))] ?_)
      | (show AKW _ _ (.seq (.reg (⟨some 99, _, _⟩ :: _) _) _) _ _ _ _; refine wB 37 ?_)
      | (show AK _ _ (.reg (⟨some 103, _, _⟩ :: _) _) _ _ _ _; refine N.cutN 3 fun K hK => ?_)
      | (show AKW _ _ (.reg (⟨some 106, _, _⟩ :: _) _) _ _ _ _; refine wA 38 [(0, .ptr 0 1 0 0), (103, .ptr 0 1 0 0), (105, .sl 4 (([rdM 5 4 []]).map cyC))] ?_)
      | (show AKW _ _ (.reg (⟨some 103, _, _⟩ :: _) _) _ _ _ _; refine wB 38 ?_)
      | refine N.regS fun K hK => ?_
      | refine N.dregS fun K hK => ?_
      | refine N.regN fun K hK => ?_
      | refine N.dregN fun K hK => ?_
      | simp only [T.mv, sm, AO.ev, put, lk, enter, reduceIte, Nat.reduceEqDiff, Nat.reduceAdd, Nat.reduceMul, Nat.reduceSub, Int.reduceNeg, Int.reduceToNat, upto, renB, setAll]
      | (refine T.nil ?_; (first | refine hK _ _ _ (by rfl) ?_ | refine hK _ _ _ ?_); (try simp only [keep, List.map, lk, reduceIte, Nat.reduceEqDiff, enter]); clear hK K)
      | (show WOpsT _ (⟨_, .call _ _, none⟩ :: _) _ _ _ _; first | refine T.call0 e185 rfl ((two_ok 1 3 1)) ?_ | refine T.cP [2] e184 ((noP_ok [twoM 1 3 1] 1)) ?_ rfl rfl | refine T.cP [0, 1] e183 ((addK 25 (by decide) ⟨#[116, 120, 115]⟩ 0 [noM [twoM 1 3 1]] rfl)) ?_ | refine T.call0 e186 rfl ((one_ok 10 1)) ?_ | refine T.cP [2] e184 ((noP_ok [oneM 10 1] 1)) ?_ rfl rfl | refine T.cP [0, 1] e183 ((addK 26 (by decide) ⟨#[105, 110, 120]⟩ 0 [noM [oneM 10 1]] rfl)) ?_ | refine T.call0 e186 rfl ((one_ok 10 2)) ?_ | refine T.cP [2] e184 ((noP_ok [oneM 10 2] 1)) ?_ rfl rfl | refine T.cP [0, 1] e183 ((addK 27 (by decide) ⟨#[105, 110, 121]⟩ 0 [noM [oneM 10 2]] rfl)) ?_ | refine T.call0 e186 rfl ((one_ok 11 1)) ?_ | refine T.cP [2] e184 ((noP_ok [oneM 11 1] 1)) ?_ rfl rfl | refine T.cP [0, 1] e183 ((addK 28 (by decide) ⟨#[100, 101, 120]⟩ 0 [noM [oneM 11 1]] rfl)) ?_ | refine T.call0 e186 rfl ((one_ok 11 2)) ?_ | refine T.cP [2] e184 ((noP_ok [oneM 11 2] 1)) ?_ rfl rfl | refine T.cP [0, 1] e183 ((addK 29 (by decide) ⟨#[100, 101, 121]⟩ 0 [noM [oneM 11 2]] rfl)) ?_ | refine T.cP [2] e184 ((noP_ok [⟨17, 0, 0, 1⟩] 1)) ?_ rfl rfl | refine T.cP [0, 1] e183 ((addK 30 (by decide) ⟨#[99, 108, 99]⟩ 0 [noM [⟨17, 0, 0, 1⟩]] rfl)) ?_ | refine T.cP [2] e184 ((noP_ok [⟨16, 0, 0, 1⟩] 1)) ?_ rfl rfl | refine T.cP [0, 1] e183 ((addK 31 (by decide) ⟨#[115, 101, 99]⟩ 0 [noM [⟨16, 0, 0, 1⟩]] rfl)) ?_ | refine T.cP [2] e184 ((noP_ok [⟨17, 0, 0, 4⟩] 1)) ?_ rfl rfl | refine T.cP [0, 1] e183 ((addK 32 (by decide) ⟨#[99, 108, 105]⟩ 0 [noM [⟨17, 0, 0, 4⟩]] rfl)) ?_ | refine T.cP [2] e184 ((noP_ok [⟨16, 0, 0, 4⟩] 1)) ?_ rfl rfl | refine T.cP [0, 1] e183 ((addK 33 (by decide) ⟨#[115, 101, 105]⟩ 0 [noM [⟨16, 0, 0, 4⟩]] rfl)) ?_ | refine T.call0 e184 rfl (noN_ok) ?_ | refine T.cP [0, 1] e183 ((addK 34 (by decide) ⟨#[110, 111, 112]⟩ 0 [noM []] rfl)) ?_ | refine T.call0 e187 rfl ((wrN_ok 4 0)) ?_ | refine T.cP [0, 1] e183 ((addK 35 (by decide) ⟨#[112, 104, 97]⟩ 0 [wrM 4 0 []] rfl)) ?_ | refine T.call0 e186 rfl ((one_ok 3 0)) ?_ | refine T.cP [2] e148 ((rdP_ok 5 0 [oneM 3 0] 1)) ?_ rfl rfl | refine T.cP [0, 1] e183 ((addK 36 (by decide) ⟨#[112, 108, 97]⟩ 0 [rdM 5 0 [oneM 3 0]] rfl)) ?_ | refine T.call0 e187 rfl ((wrN_ok 4 4)) ?_ | refine T.cP [0, 1] e183 ((addK 37 (by decide) ⟨#[112, 104, 112]⟩ 0 [wrM 4 4 []] rfl)) ?_ | refine T.call0 e148 rfl ((rdN_ok 5 4)) ?_ | refine T.cP [0, 1] e183 ((addK 38 (by decide) ⟨#[112, 108, 112]⟩ 0 [rdM 5 4 []] rfl)) ?_)
      | (show WOpsT _ (⟨_, .ld _ _, none⟩ :: _) _ _ _ _; first | refine L.ld ?_ | refine L.ldd ?_ | refine L.ldn ?_ | refine L.lddn ?_)
      | (show WOpsT _ (⟨_, .idx _ _ _ _, none⟩ :: _) _ _ _ _; first | refine L.idx ?_ | refine L.idxs ?_)
      | (show WOpsT _ (⟨_, .bin _ _ _, none⟩ :: _) _ _ _ _; first | refine L.add ?_ | refine L.bin ?_)
      | (show AKW _ _ _ _ _ _ _; first | refine N.now ?_)
      | (show AK _ _ (.cond _ _ _) _ _ _ _; first | refine N.c1 ?_ | refine N.c2 ?_ | refine N.c3 ?_ | refine N.c4 ?_ | refine N.condD rfl (fun hcd => ?_) (fun hcd => ?_) | refine N.condB rfl (fun hcd => ?_) (fun hcd => ?_) | refine N.condU rfl ?_ ?_)
      | (show AK _ _ _ _ _ _ _; first | refine N.seq ?_ | refine N.block ?_ | refine N.skip ?_ | refine N.exit ?_ | refine N.ret ?_)
      | (show RK _ _ _ _ _ _ _; simp only [rk, rk0, reduceIte, Nat.reduceEqDiff])
      | (show WOpsT _ _ _ _ _ _; first | refine L.fad ?_ | refine L.fadd ?_ | refine L.st ?_ | refine L.zero ?_ | refine L.build ?_ | refine L.len ?_ | refine L.lenS ?_ | refine L.lenN ?_ | refine L.bsl ?_)
      | refine hQ _ _ _ rfl ?_
      | refine hQN _ _ _ rfl ?_)
    exact WS.gc [0, 1] 0 rfl (by show [mA 39, mB 39] = [outB _ [0, 1] 0 (renB [0, 1] (mA 39)), outB _ _ _ (renB _ (mB 39))]; rw [renB_mB, outB_mB]; rfl) .rfl
theorem ways_ok : FnE Try.prog 147 [.ptr 0 1 0 0] [mA 39, mB 39] (.tup []) [mA 49, mB 49] := by
  refine N.fn Try.func147 k147 lb q147 fun Q hQ hQN => ?_
  rw [c147]
  repeat' (first
    | (show AK _ _ (.seq (.reg (⟨some 4, _, _⟩ :: _) _) _) _ _ _ _; refine N.cut 5 fun K hK => ?_)
    | (show AKW _ _ (.seq (.reg (⟨some 9, _, _⟩ :: _) _) _) _ _ _ _; refine wA 39 [(0, .ptr 0 1 0 0), (4, .ptr 0 1 0 0), (8, .sl 4 (([rdM 0 5 [], rdM 0 6 (jumpM 7)]).map cyC))] ?_)
    | (show AK _ _ (.seq (.reg (⟨some 10, _, _⟩ :: _) _) _) _ _ _ _; refine N.cut 15 fun K hK => ?_)
    | (show AKW _ _ (.seq (.reg (⟨some 25, _, _⟩ :: _) _) _) _ _ _ _; refine wA 40 [(0, .ptr 0 1 0 0), (10, .ptr 0 1 0 0), (24, .sl 4 (([rdM 0 5 [twoM 18 8 5], rdM 0 5 [twoM 19 8 5, twoM 21 5 7], wrM 4 5 [twoM 20 5 7], wrM 4 5 [twoM 1 7 8]]).map cyC))] ?_)
    | (show AKW _ _ (.seq (.reg (⟨some 10, _, _⟩ :: _) _) _) _ _ _ _; refine wB 40 ?_)
    | (show AK _ _ (.seq (.reg (⟨some 26, _, _⟩ :: _) _) _) _ _ _ _; refine N.cut 5 fun K hK => ?_)
    | (show AKW _ _ (.seq (.reg (⟨some 31, _, _⟩ :: _) _) _) _ _ _ _; refine wA 41 [(0, .ptr 0 1 0 0), (26, .ptr 0 1 0 0), (30, .sl 4 (([rdM 5 5 [], rdM 5 6 (jumpM 7)]).map cyC))] ?_)
    | (show AKW _ _ (.seq (.reg (⟨some 26, _, _⟩ :: _) _) _) _ _ _ _; refine wB 41 ?_)
    | (show AK _ _ (.seq (.reg (⟨some 32, _, _⟩ :: _) _) _) _ _ _ _; refine N.cut 6 fun K hK => ?_)
    | (show AKW _ _ (.seq (.reg (⟨some 38, _, _⟩ :: _) _) _) _ _ _ _; refine wA 42 [(0, .ptr 0 1 0 0), (32, .ptr 0 1 0 0), (37, .sl 4 (([rdM 5 4 [], rdM 5 5 [], rdM 5 6 (jumpM 7)]).map cyC))] ?_)
    | (show AKW _ _ (.seq (.reg (⟨some 32, _, _⟩ :: _) _) _) _ _ _ _; refine wB 42 ?_)
    | refine N.regS fun K hK => ?_
    | refine N.dregS fun K hK => ?_
    | refine N.regN fun K hK => ?_
    | refine N.dregN fun K hK => ?_
    | simp only [T.mv, sm, AO.ev, put, lk, enter, reduceIte, Nat.reduceEqDiff, Nat.reduceAdd, Nat.reduceMul, Nat.reduceSub, Int.reduceNeg, Int.reduceToNat, upto, renB, setAll]
    | (refine T.nil ?_; (first | refine hK _ _ _ (by rfl) ?_ | refine hK _ _ _ ?_); (try simp only [keep, List.map, lk, reduceIte, Nat.reduceEqDiff, enter]); clear hK K)
    | (show WOpsT _ (⟨_, .call _ _, none⟩ :: _) _ _ _ _; first | refine T.call0 e148 rfl ((rdN_ok 5 5)) ?_ | refine T.call0 e148 rfl ((rdN_ok 0 5)) ?_ | refine T.call0 e148 rfl ((rdN_ok 5 4)) ?_ | refine T.callN e149 rfl ((jump_ok 7)) (by simp) ?_ | refine T.cP [2] e148 ((rdP_ok 0 6 (jumpM 7) 2)) ?_ rfl rfl | refine T.cP [0, 1] e183 ((addK 39 (by decide) ⟨#[106, 109, 112]⟩ 4 [rdM 0 5 [], rdM 0 6 (jumpM 7)] rfl)) ?_ | refine T.call0 e185 rfl ((two_ok 18 8 5)) ?_ | refine T.call0 e185 rfl ((two_ok 19 8 5)) ?_ | refine T.call0 e185 rfl ((two_ok 21 5 7)) ?_ | refine T.call0 e185 rfl ((two_ok 20 5 7)) ?_ | refine T.call0 e185 rfl ((two_ok 1 7 8)) ?_ | refine T.cP [2] e148 ((rdP_ok 0 5 [twoM 18 8 5] 1)) ?_ rfl rfl | refine T.cP [3] e148 ((rdP_ok 0 5 [twoM 19 8 5, twoM 21 5 7] 2)) ?_ rfl rfl | refine T.cP [4] e187 ((wrP_ok 4 5 [twoM 20 5 7] 1)) ?_ rfl rfl | refine T.cP [5] e187 ((wrP_ok 4 5 [twoM 1 7 8] 1)) ?_ rfl rfl | refine T.cP [0, 1] e183 ((addK 40 (by decide) ⟨#[106, 115, 114]⟩ 4 [rdM 0 5 [twoM 18 8 5], rdM 0 5 [twoM 19 8 5, twoM 21 5 7], wrM 4 5 [twoM 20 5 7], wrM 4 5 [twoM 1 7 8]] rfl)) ?_ | refine T.cP [2] e148 ((rdP_ok 5 6 (jumpM 7) 2)) ?_ rfl rfl | refine T.cP [0, 1] e183 ((addK 41 (by decide) ⟨#[114, 116, 115]⟩ 0 [rdM 5 5 [], rdM 5 6 (jumpM 7)] rfl)) ?_ | refine T.cP [0, 1] e183 ((addK 42 (by decide) ⟨#[114, 116, 105]⟩ 0 [rdM 5 4 [], rdM 5 5 [], rdM 5 6 (jumpM 7)] rfl)) ?_)
    | (show WOpsT _ (⟨_, .ld _ _, none⟩ :: _) _ _ _ _; first | refine L.ld ?_ | refine L.ldd ?_ | refine L.ldn ?_ | refine L.lddn ?_)
    | (show WOpsT _ (⟨_, .idx _ _ _ _, none⟩ :: _) _ _ _ _; first | refine L.idx ?_ | refine L.idxs ?_)
    | (show WOpsT _ (⟨_, .bin _ _ _, none⟩ :: _) _ _ _ _; first | refine L.add ?_ | refine L.bin ?_)
    | (show AK _ _ (.cond _ _ _) _ _ _ _; first | refine N.c1 ?_ | refine N.c2 ?_ | refine N.c3 ?_ | refine N.c4 ?_ | refine N.condD rfl (fun hcd => ?_) (fun hcd => ?_) | refine N.condB rfl (fun hcd => ?_) (fun hcd => ?_) | refine N.condU rfl ?_ ?_)
    | (show AK _ _ _ _ _ _ _; first | refine N.seq ?_ | refine N.block ?_ | refine N.skip ?_ | refine N.exit ?_ | refine N.ret ?_)
    | (show RK _ _ _ _ _ _ _; simp only [rk, rk0, reduceIte, Nat.reduceEqDiff])
    | (show WOpsT _ _ _ _ _ _; first | refine L.fad ?_ | refine L.fadd ?_ | refine L.st ?_ | refine L.zero ?_ | refine L.build ?_ | refine L.len ?_ | refine L.lenS ?_ | refine L.lenN ?_ | refine L.bsl ?_)
    | refine hQ _ _ _ rfl ?_
    | refine hQN _ _ _ rfl ?_)
  refine wB 43 ?_
  repeat' (first
    | refine N.regS fun K hK => ?_
    | refine N.dregS fun K hK => ?_
    | refine N.regN fun K hK => ?_
    | refine N.dregN fun K hK => ?_
    | simp only [T.mv, sm, AO.ev, put, lk, enter, reduceIte, Nat.reduceEqDiff, Nat.reduceAdd, Nat.reduceMul, Nat.reduceSub, Int.reduceNeg, Int.reduceToNat, upto, renB, setAll]
    | (refine T.nil ?_; (first | refine hK _ _ _ (by rfl) ?_ | refine hK _ _ _ ?_); (try simp only [keep, List.map, lk, reduceIte, Nat.reduceEqDiff, enter]); clear hK K)
    | (show WOpsT _ (⟨_, .ld _ _, none⟩ :: _) _ _ _ _; first | refine L.ld ?_ | refine L.ldd ?_ | refine L.ldn ?_ | refine L.lddn ?_)
    | (show WOpsT _ (⟨_, .idx _ _ _ _, none⟩ :: _) _ _ _ _; first | refine L.idx ?_ | refine L.idxs ?_)
    | (show WOpsT _ (⟨_, .bin _ _ _, none⟩ :: _) _ _ _ _; first | refine L.add ?_ | refine L.bin ?_)
    | (show AK _ _ (.cond _ _ _) _ _ _ _; first | refine N.c1 ?_ | refine N.c2 ?_ | refine N.c3 ?_ | refine N.c4 ?_ | refine N.condD rfl (fun hcd => ?_) (fun hcd => ?_) | refine N.condB rfl (fun hcd => ?_) (fun hcd => ?_) | refine N.condU rfl ?_ ?_)
    | (show AK _ _ _ _ _ _ _; first | refine N.seq ?_ | refine N.block ?_ | refine N.skip ?_ | refine N.exit ?_ | refine N.ret ?_)
    | (show RK _ _ _ _ _ _ _; simp only [rk, rk0, reduceIte, Nat.reduceEqDiff])
    | (show WOpsT _ _ _ _ _ _; first | refine L.fad ?_ | refine L.fadd ?_ | refine L.st ?_ | refine L.zero ?_ | refine L.build ?_ | refine L.len ?_ | refine L.lenS ?_ | refine L.lenN ?_ | refine L.bsl ?_)
    | refine hQ _ _ _ rfl ?_
    | refine hQN _ _ _ rfl ?_)
  refine N.weak (fr1 := [(0, .ptr 0 1 0 0), (45, .psl 2 1 0 6), (46, I 6), (47, I 0)]) (h1 := [mA 43, mB 43, ⟨1, 3, tabW.map row3⟩]) (Weaks.sel (by repeat (first | exact trivial | refine ⟨.rfl, ?_⟩ | refine ⟨.any, ?_⟩)) rfl) (N.now ?_)
  repeat' (first
    | refine N.regS fun K hK => ?_
    | refine N.dregS fun K hK => ?_
    | refine N.regN fun K hK => ?_
    | refine N.dregN fun K hK => ?_
    | simp only [T.mv, sm, AO.ev, put, lk, enter, reduceIte, Nat.reduceEqDiff, Nat.reduceAdd, Nat.reduceMul, Nat.reduceSub, Int.reduceNeg, Int.reduceToNat, upto, renB, setAll]
    | (refine T.nil ?_; (first | refine hK _ _ _ (by rfl) ?_ | refine hK _ _ _ ?_); (try simp only [keep, List.map, lk, reduceIte, Nat.reduceEqDiff, enter]); clear hK K)
    | (show WOpsT _ (⟨_, .ld _ _, none⟩ :: _) _ _ _ _; first | refine L.ld ?_ | refine L.ldd ?_ | refine L.ldn ?_ | refine L.lddn ?_)
    | (show WOpsT _ (⟨_, .idx _ _ _ _, none⟩ :: _) _ _ _ _; first | refine L.idx ?_ | refine L.idxs ?_)
    | (show WOpsT _ (⟨_, .bin _ _ _, none⟩ :: _) _ _ _ _; first | refine L.add ?_ | refine L.bin ?_)
    | (show AK _ _ (.cond _ _ _) _ _ _ _; first | refine N.c1 ?_ | refine N.c2 ?_ | refine N.c3 ?_ | refine N.c4 ?_ | refine N.condD rfl (fun hcd => ?_) (fun hcd => ?_) | refine N.condB rfl (fun hcd => ?_) (fun hcd => ?_) | refine N.condU rfl ?_ ?_)
    | (show AK _ _ _ _ _ _ _; first | refine N.seq ?_ | refine N.block ?_ | refine N.skip ?_ | refine N.exit ?_ | refine N.ret ?_)
    | (show RK _ _ _ _ _ _ _; simp only [rk, rk0, reduceIte, Nat.reduceEqDiff])
    | (show WOpsT _ _ _ _ _ _; first | refine L.fad ?_ | refine L.fadd ?_ | refine L.st ?_ | refine L.zero ?_ | refine L.build ?_ | refine L.len ?_ | refine L.lenS ?_ | refine L.lenN ?_ | refine L.bsl ?_)
    | refine hQ _ _ _ rfl ?_
    | refine hQN _ _ _ rfl ?_)
  refine N.loop (σ := Nat) (fun i => [(0, .ptr 0 1 0 0), (45, .psl 2 1 0 6), (46, I 6), (47, I i)]) (fun i => [mA (43 + i), mB (43 + i), ⟨1, 3, tabW.map row3⟩]) (fun i => i ≤ 6) (fun i => 6 - i) 0 (by omega) (Weaks.sel (by repeat (first | exact trivial | refine ⟨.rfl, ?_⟩ | refine ⟨.any, ?_⟩)) rfl) fun i hi R hC => ?_
  by_cases hil : i < 6
  · have e3 : 0 + (i : Int).toNat = i := by omega
    obtain ⟨p, hp⟩ : ∃ p, tabW[i]? = some p := ⟨tabW[i]'hil, List.getElem?_eq_getElem hil⟩
    have hrow : (tabW.map row3)[i]? = some (row3 p) := by rw [List.getElem?_map, hp]; rfl
    have hst : stdL[43 + i]? = some [(p.1, 7, [rdM 0 5 [⟨24, 0, p.2.2, p.2.1⟩], noM [twoM 23 7 5]])] := by
      have : ∀ j, j < 6 → ∀ q, tabW[j]? = some q → stdL[43 + j]? = some [(q.1, 7, [rdM 0 5 [⟨24, 0, q.2.2, q.2.1⟩], noM [twoM 23 7 5]])] := by
        intro j hj q hq
        match j, hj with
        | 0, _ => cases hq; rfl
        | 1, _ => cases hq; rfl
        | 2, _ => cases hq; rfl
        | 3, _ => cases hq; rfl
        | 4, _ => cases hq; rfl
        | 5, _ => cases hq; rfl
      exact this i hil p hp
    have hj := addS2 (43 + i) (by omega) p.1 7 1 0 5 0 0 0 [⟨24, 0, p.2.2, p.2.1⟩] [twoM 23 7 5] 1 1
    repeat' (first
      | rw [e3]
      | (show WOpsT _ (⟨_, .ld _ _, none⟩ :: _) _ _ _ _; refine T.ldn rfl rfl rfl hrow (Nat.le_of_ble_eq_true rfl) ?_)
      | rw [rows_renA]
      | refine N.regS fun K hK => ?_
      | refine N.dregS fun K hK => ?_
      | refine N.regN fun K hK => ?_
      | refine N.dregN fun K hK => ?_
      | simp only [T.mv, sm, AO.ev, put, lk, enter, reduceIte, Nat.reduceEqDiff, Nat.reduceAdd, Nat.reduceMul, Nat.reduceSub, Int.reduceNeg, Int.reduceToNat, upto, renB, setAll]
      | (refine T.nil ?_; (first | refine hK _ _ _ (by rfl) ?_ | refine hK _ _ _ ?_); (try simp only [keep, List.map, lk, reduceIte, Nat.reduceEqDiff, enter]); clear hK K)
      | (show WOpsT _ (⟨_, .call _ _, none⟩ :: _) _ _ _ _; first | refine T.cP [4] e148 ((rdP_ok 0 5 [⟨24, 0, p.2.2, p.2.1⟩] 1)) ?_ | refine T.call0 e185 rfl ((two_ok 23 7 5)) ?_ | refine T.cP [5] e184 ((noP_ok [twoM 23 7 5] 1)) ?_ | refine T.cP [0, 1, 6, 4, 5] e183 (hj) ?_)
      | (show WOpsT _ (⟨_, .ld _ _, none⟩ :: _) _ _ _ _; first | refine L.ld ?_ | refine L.ldd ?_ | refine L.ldn ?_ | refine L.lddn ?_)
      | (show WOpsT _ (⟨_, .idx _ _ _ _, none⟩ :: _) _ _ _ _; first | refine L.idx ?_ | refine L.idxs ?_)
      | (show WOpsT _ (⟨_, .bin _ _ _, none⟩ :: _) _ _ _ _; first | refine L.add ?_ | refine L.bin ?_)
      | (show AKW _ _ _ _ _ _ _; first | refine N.now ?_)
      | (show AK _ _ (.cond _ _ _) _ _ _ _; first | refine N.c1 ?_ | refine N.c2 ?_ | refine N.c3 ?_ | refine N.c4 ?_ | refine N.condD rfl (fun hcd => ?_) (fun hcd => ?_) | refine N.condB rfl (fun hcd => ?_) (fun hcd => ?_) | refine N.condU rfl ?_ ?_)
      | (show AK _ _ _ _ _ _ _; first | refine N.seq ?_ | refine N.block ?_ | refine N.skip ?_ | refine N.exit ?_ | refine N.ret ?_)
      | (show RK _ _ _ _ _ _ _; simp only [rk, rk0, reduceIte, Nat.reduceEqDiff])
      | (show WOpsT _ _ _ _ _ _; first | refine L.fad ?_ | refine L.fadd ?_ | refine L.st ?_ | refine L.zero ?_ | refine L.build ?_ | refine L.len ?_ | refine L.lenS ?_ | refine L.lenN ?_ | refine L.bsl ?_)
      | refine hQ _ _ _ rfl ?_
      | refine hQN _ _ _ rfl ?_)
    exact hC _ _ (i + 1) (by omega) (by omega) (Weaks.gc [0, 1, 2] 2 rfl (by repeat (first | exact trivial | refine ⟨.rfl, ?_⟩ | refine ⟨.any, ?_⟩)) (by rw [show 43 + (i + 1) = 43 + i + 1 from rfl, mA_succ hst, mB_succ hst]; show [_, _, _] = [_, outB _ [0, 1, 2] 2 ⟨_, 4, (number 0 (memR (43 + i))).map inC ++ [_]⟩, _]; rw [outB_in (x := insN (number 0 (memR (43 + i))) p.1 7 ([rdM 0 5 [⟨24, 0, p.2.2, p.2.1⟩], noM [twoM 23 7 5]])) rfl]; rfl))
  · obtain rfl : i = 6 := by omega
    repeat' (first
      | refine N.regS fun K hK => ?_
      | refine N.dregS fun K hK => ?_
      | refine N.regN fun K hK => ?_
      | refine N.dregN fun K hK => ?_
      | simp only [T.mv, sm, AO.ev, put, lk, enter, reduceIte, Nat.reduceEqDiff, Nat.reduceAdd, Nat.reduceMul, Nat.reduceSub, Int.reduceNeg, Int.reduceToNat, upto, renB, setAll]
      | (refine T.nil ?_; (first | refine hK _ _ _ (by rfl) ?_ | refine hK _ _ _ ?_); (try simp only [keep, List.map, lk, reduceIte, Nat.reduceEqDiff, enter]); clear hK K)
      | (show WOpsT _ (⟨_, .ld _ _, none⟩ :: _) _ _ _ _; first | refine L.ld ?_ | refine L.ldd ?_ | refine L.ldn ?_ | refine L.lddn ?_)
      | (show WOpsT _ (⟨_, .idx _ _ _ _, none⟩ :: _) _ _ _ _; first | refine L.idx ?_ | refine L.idxs ?_)
      | (show WOpsT _ (⟨_, .bin _ _ _, none⟩ :: _) _ _ _ _; first | refine L.add ?_ | refine L.bin ?_)
      | (show AKW _ _ _ _ _ _ _; first | refine N.now ?_)
      | (show AK _ _ (.cond _ _ _) _ _ _ _; first | refine N.c1 ?_ | refine N.c2 ?_ | refine N.c3 ?_ | refine N.c4 ?_ | refine N.condD rfl (fun hcd => ?_) (fun hcd => ?_) | refine N.condB rfl (fun hcd => ?_) (fun hcd => ?_) | refine N.condU rfl ?_ ?_)
      | (show AK _ _ _ _ _ _ _; first | refine N.seq ?_ | refine N.block ?_ | refine N.skip ?_ | refine N.exit ?_ | refine N.ret ?_)
      | (show RK _ _ _ _ _ _ _; simp only [rk, rk0, reduceIte, Nat.reduceEqDiff])
      | (show WOpsT _ _ _ _ _ _; first | refine L.fad ?_ | refine L.fadd ?_ | refine L.st ?_ | refine L.zero ?_ | refine L.build ?_ | refine L.len ?_ | refine L.lenS ?_ | refine L.lenN ?_ | refine L.bsl ?_)
      | refine hQ _ _ _ rfl ?_
      | refine hQN _ _ _ rfl ?_)
    exact WS.gc [0, 1] 0 rfl (by show [mA 49, mB 49] = [outB _ [0, 1] 0 (mA 49), outB _ _ _ (mB 49)]; rw [outB_mB]; rfl) .rfl
end Go.Proofs.Ytjmmompbmjhkpaa.Calc

namespace Go.Proofs.Ytjmmompbmjhkpaa.Calc
open Go Code
set_option linter.unusedSimpArgs false
set_option linter.unusedVariables false
set_option maxRecDepth 20000
set_option maxHeartbeats 4000000
attribute [local irreducible] WOpsT AW AK RK AKW UK UC
theorem answers_ok (lo hi : Int) : FnE Try.prog 150 [I lo, I hi] [] (.sl 4 ((answersM lo hi).map cyC)) [] := by
  refine N.fn Try.func150 k150 lb q150 fun Q hQ hQN => ?_
  rw [c150]
  repeat' (first
    | refine N.regS fun K hK => ?_
    | refine N.dregS fun K hK => ?_
    | refine N.regN fun K hK => ?_
    | refine N.dregN fun K hK => ?_
    | simp only [T.mv, sm, AO.ev, put, lk, enter, reduceIte, Nat.reduceEqDiff, Nat.reduceAdd, Nat.reduceMul, Nat.reduceSub, Int.reduceNeg, Int.reduceToNat, upto, renB, setAll]
    | (refine T.nil ?_; (first | refine hK _ _ _ (by rfl) ?_ | refine hK _ _ _ ?_); (try simp only [keep, List.map, lk, reduceIte, Nat.reduceEqDiff, enter]); clear hK K)
    | (show WOpsT _ (⟨_, .call _ _, none⟩ :: _) _ _ _ _; first | refine T.call0 e185 rfl ((two_ok 21 5 7)) ?_ | refine T.call0 e185 rfl ((two_ok 20 5 7)) ?_ | refine T.cP [0] e184 ((noP_ok [twoM 21 5 7] 1)) ?_ | refine T.cP [1] e187 ((wrP_ok 4 5 [twoM 20 5 7] 1)) ?_ | refine T.call0 e187 rfl ((wrN_ok 4 5)) ?_ | refine T.cP [2] e187 ((wrP_ok 4 4 [⟨16, 0, 0, 4⟩] 1)) ?_ | refine T.call0 e148 rfl ((rdN_ok lo 5)) ?_ | refine T.callN e149 rfl ((jump_ok 7)) (by simp) ?_ | refine T.cP [3] e148 ((rdP_ok hi 6 (jumpM 7) 2)) ?_)
    | (show AKW _ _ _ _ _ _ _; first | refine N.now ?_)
    | (show AK _ _ _ _ _ _ _; first | refine N.seq ?_ | refine N.ret ?_)
    | (show RK _ _ _ _ _ _ _; simp only [rk, rk0, reduceIte, Nat.reduceEqDiff])
    | (show WOpsT _ _ _ _ _ _; first | refine L.build ?_ | refine L.bsl ?_)
    | refine hQ _ _ _ rfl ?_
    | refine hQN _ _ _ rfl ?_)
  exact WS.drop (n := 2) rfl rfl
def resM : List Cyc := [rdM 10 5 [], rdM 11 6 [twoM 18 7 5, twoM 19 7 6, ⟨2, 3, 0, 255⟩]]
theorem stdCpu_ok : FnE Try.prog 78 [] [] (.agg (cpC stdM)) [] := by
  refine N.fn Try.func78 k78 lb q78 fun Q hQ hQN => ?_
  rw [c78]
  repeat' (first
    | (show AKW _ _ (.seq (.reg (⟨some 3, _, _⟩ :: _) _) _) _ _ _ _; refine N.now ?_)
    | (show AKW _ _ (.seq (.reg (⟨some 5, _, _⟩ :: _) _) _) _ _ _ _; refine N.now ?_)
    | simp only [renB_mB]
    | refine N.regS fun K hK => ?_
    | refine N.dregS fun K hK => ?_
    | refine N.regN fun K hK => ?_
    | refine N.dregN fun K hK => ?_
    | simp only [T.mv, sm, AO.ev, put, lk, enter, reduceIte, Nat.reduceEqDiff, Nat.reduceAdd, Nat.reduceMul, Nat.reduceSub, Int.reduceNeg, Int.reduceToNat, upto, renB, setAll]
    | (refine T.nil ?_; (first | refine hK _ _ _ (by rfl) ?_ | refine hK _ _ _ ?_); (try simp only [keep, List.map, lk, reduceIte, Nat.reduceEqDiff, enter]); clear hK K)
    | (show WOpsT _ (⟨_, .call _ _, none⟩ :: _) _ _ _ _; first | refine T.cP [1] e145 (memory_ok) ?_)
    | (show WOpsT _ (⟨_, .ld _ _, none⟩ :: _) _ _ _ _; first | refine L.ld ?_ | refine L.ldd ?_)
    | (show AK _ _ _ _ _ _ _; first | refine N.seq ?_ | refine N.ret ?_)
    | (show RK _ _ _ _ _ _ _; simp only [rk, rk0, reduceIte, Nat.reduceEqDiff])
    | (show WOpsT _ _ _ _ _ _; first | refine L.fad ?_ | refine L.fadd ?_ | refine L.nilc ?_ | refine L.nilcd ?_ | refine T.nilcf rfl ?_ | refine T.nilci rfl ?_ | refine L.st ?_ | refine L.new ?_ | refine L.zero ?_ | refine L.build ?_ | refine L.bsl ?_)
    | refine hQ _ _ _ rfl ?_
    | refine hQN _ _ _ rfl ?_)
  refine N.weak (fr1 := [(0, .ptr 0 1 0 0), (1, .ptr 1 1 0 0)]) (h1 := [_, mkA 2 (number 0 (memR 20)), mB 20]) (Weaks.sel ⟨.rfl, .rfl, trivial⟩ (by show [_, _, _] = [_, renB [1, 2] (mA 20), renB [1, 2] (mB 20)]; rw [renB_mB]; rfl)) (N.now ?_)
  repeat' (first
    | simp only [renB_mB]
    | refine N.regS fun K hK => ?_
    | refine N.dregS fun K hK => ?_
    | refine N.regN fun K hK => ?_
    | refine N.dregN fun K hK => ?_
    | simp only [T.mv, sm, AO.ev, put, lk, enter, reduceIte, Nat.reduceEqDiff, Nat.reduceAdd, Nat.reduceMul, Nat.reduceSub, Int.reduceNeg, Int.reduceToNat, upto, renB, setAll]
    | (refine T.nil ?_; (first | refine hK _ _ _ (by rfl) ?_ | refine hK _ _ _ ?_); (try simp only [keep, List.map, lk, reduceIte, Nat.reduceEqDiff, enter]); clear hK K)
    | (show WOpsT _ (⟨_, .call _ _, none⟩ :: _) _ _ _ _; first | refine T.cP [1, 2] e146 (alone_ok) ?_)
    | (show WOpsT _ (⟨_, .ld _ _, none⟩ :: _) _ _ _ _; first | refine L.ld ?_ | refine L.ldd ?_)
    | (show AK _ _ _ _ _ _ _; first | refine N.seq ?_ | refine N.ret ?_)
    | (show RK _ _ _ _ _ _ _; simp only [rk, rk0, reduceIte, Nat.reduceEqDiff])
    | (show WOpsT _ _ _ _ _ _; first | refine L.fad ?_ | refine L.fadd ?_ | refine L.nilc ?_ | refine L.nilcd ?_ | refine T.nilcf rfl ?_ | refine T.nilci rfl ?_ | refine L.st ?_ | refine L.new ?_ | refine L.zero ?_ | refine L.build ?_ | refine L.bsl ?_)
    | refine hQ _ _ _ rfl ?_
    | refine hQN _ _ _ rfl ?_)
  refine N.weak (fr1 := [(0, .ptr 0 1 0 0), (1, .ptr 1 1 0 0)]) (h1 := [_, mkA 2 (number 0 (memR 39)), mB 39]) (Weaks.sel ⟨.rfl, .rfl, trivial⟩ (by show [_, _, _] = [_, renB [1, 2] (mA 39), renB [1, 2] (mB 39)]; rw [renB_mB]; rfl)) (N.now ?_)
  repeat' (first
    | simp only [renB_mB]
    | refine N.regS fun K hK => ?_
    | refine N.dregS fun K hK => ?_
    | refine N.regN fun K hK => ?_
    | refine N.dregN fun K hK => ?_
    | simp only [T.mv, sm, AO.ev, put, lk, enter, reduceIte, Nat.reduceEqDiff, Nat.reduceAdd, Nat.reduceMul, Nat.reduceSub, Int.reduceNeg, Int.reduceToNat, upto, renB, setAll]
    | (refine T.nil ?_; (first | refine hK _ _ _ (by rfl) ?_ | refine hK _ _ _ ?_); (try simp only [keep, List.map, lk, reduceIte, Nat.reduceEqDiff, enter]); clear hK K)
    | (show WOpsT _ (⟨_, .call _ _, none⟩ :: _) _ _ _ _; first | refine T.cP [1, 2] e147 (ways_ok) ?_)
    | (show WOpsT _ (⟨_, .ld _ _, none⟩ :: _) _ _ _ _; first | refine L.ld ?_ | refine L.ldd ?_)
    | (show AK _ _ _ _ _ _ _; first | refine N.seq ?_ | refine N.ret ?_)
    | (show RK _ _ _ _ _ _ _; simp only [rk, rk0, reduceIte, Nat.reduceEqDiff])
    | (show WOpsT _ _ _ _ _ _; first | refine L.fad ?_ | refine L.fadd ?_ | refine L.nilc ?_ | refine L.nilcd ?_ | refine T.nilcf rfl ?_ | refine T.nilci rfl ?_ | refine L.st ?_ | refine L.new ?_ | refine L.zero ?_ | refine L.build ?_ | refine L.bsl ?_)
    | refine hQ _ _ _ rfl ?_
    | refine hQN _ _ _ rfl ?_)
  refine N.weak (fr1 := [(0, .ptr 0 1 0 0), (1, .ptr 1 1 0 0)]) (h1 := [_, mkA 2 (number 0 (memR 49)), mB 49]) (Weaks.sel ⟨.rfl, .rfl, trivial⟩ (by show [_, _, _] = [_, renB [1, 2] (mA 49), renB [1, 2] (mB 49)]; rw [renB_mB]; rfl)) (N.now ?_)
  repeat' (first
    | (show WOpsT _ (⟨_, .app _ _ _ _, none⟩ :: _) _ _ _ _; refine T.app rfl rfl rfl ⟨by decide, by decide⟩ ⟨rfl, rfl, rfl, by decide⟩ ?_)
    | refine N.regS fun K hK => ?_
    | refine N.dregS fun K hK => ?_
    | refine N.regN fun K hK => ?_
    | refine N.dregN fun K hK => ?_
    | simp only [T.mv, sm, AO.ev, put, lk, enter, reduceIte, Nat.reduceEqDiff, Nat.reduceAdd, Nat.reduceMul, Nat.reduceSub, Int.reduceNeg, Int.reduceToNat, upto, renB, setAll]
    | (refine T.nil ?_; (first | refine hK _ _ _ (by rfl) ?_ | refine hK _ _ _ ?_); (try simp only [keep, List.map, lk, reduceIte, Nat.reduceEqDiff, enter]); clear hK K)
    | (show WOpsT _ (⟨_, .call _ _, none⟩ :: _) _ _ _ _; first | refine T.call0 e148 rfl ((rdN_ok 10 5)) ?_ | refine T.callN e149 rfl ((jump_ok 7)) (by simp) ?_ | refine T.cP [3] e148 ((rdQ_ok 11 6 [twoM 18 7 5, twoM 19 7 6, ⟨2, 3, 0, 255⟩] 3)) ?_)
    | (show WOpsT _ (⟨_, .ld _ _, none⟩ :: _) _ _ _ _; first | refine L.ld ?_ | refine L.ldd ?_)
    | (show AK _ _ _ _ _ _ _; first | refine N.seq ?_ | refine N.ret ?_)
    | (show RK _ _ _ _ _ _ _; simp only [rk, rk0, reduceIte, Nat.reduceEqDiff])
    | (show WOpsT _ _ _ _ _ _; first | refine L.fad ?_ | refine L.fadd ?_ | refine L.nilc ?_ | refine L.nilcd ?_ | refine T.nilcf rfl ?_ | refine T.nilci rfl ?_ | refine L.st ?_ | refine L.new ?_ | refine L.zero ?_ | refine L.build ?_ | refine L.bsl ?_)
    | refine hQ _ _ _ rfl ?_
    | refine hQN _ _ _ rfl ?_)
  refine N.weak (fr1 := [(0, .ptr 0 1 0 0), (1, .ptr 1 1 0 0), (2, .sl 4 (resM.map cyC))]) (h1 := [⟨1, 5, [[.c (.string ⟨#[]⟩), .c (.slice none 0 0), .c (.slice none 0 0), .c (.slice none 0 0), .c (.slice none 0 0)]]⟩, ⟨1, 1, [[.sl 4 ((number 0 (memR 49)).map inC)]]⟩]) (Weaks.gc [0, 1] 2 rfl ⟨.rfl, .rfl, .rfl, trivial⟩ ?_) (N.now ?_)
  · show [_, _] = [_, (⟨1, 1, [[out _ [0, 1] 2 (.psl 2 (number 0 (memR 49)).length 0 (number 0 (memR 49)).length)]]⟩ : Blk)]
    rw [out_rowsK (f := inC) (l := number 0 (memR 49)) rfl rfl (Nat.le_refl _)]; rfl
  repeat' (first
    | refine N.regS fun K hK => ?_
    | refine N.dregS fun K hK => ?_
    | refine N.regN fun K hK => ?_
    | refine N.dregN fun K hK => ?_
    | simp only [T.mv, sm, AO.ev, put, lk, enter, reduceIte, Nat.reduceEqDiff, Nat.reduceAdd, Nat.reduceMul, Nat.reduceSub, Int.reduceNeg, Int.reduceToNat, upto, renB, setAll]
    | (refine T.nil ?_; (first | refine hK _ _ _ (by rfl) ?_ | refine hK _ _ _ ?_); (try simp only [keep, List.map, lk, reduceIte, Nat.reduceEqDiff, enter]); clear hK K)
    | (show WOpsT _ (⟨_, .call _ _, none⟩ :: _) _ _ _ _; first | refine T.call0 e150 rfl ((answers_ok 6 7)) ?_ | refine T.call0 e150 rfl ((answers_ok 8 9)) ?_)
    | (show WOpsT _ (⟨_, .ld _ _, none⟩ :: _) _ _ _ _; first | refine L.ld ?_ | refine L.ldd ?_)
    | (show AKW _ _ _ _ _ _ _; first | refine N.now ?_)
    | (show AK _ _ _ _ _ _ _; first | refine N.seq ?_ | refine N.ret ?_)
    | (show RK _ _ _ _ _ _ _; simp only [rk, rk0, reduceIte, Nat.reduceEqDiff])
    | (show WOpsT _ _ _ _ _ _; first | refine L.fad ?_ | refine L.fadd ?_ | refine L.nilc ?_ | refine L.nilcd ?_ | refine T.nilcf rfl ?_ | refine T.nilci rfl ?_ | refine L.st ?_ | refine L.new ?_ | refine L.zero ?_ | refine L.build ?_ | refine L.bsl ?_)
    | refine hQ _ _ _ rfl ?_
    | refine hQN _ _ _ rfl ?_)
  exact WS.drop (n := 0) rfl rfl
end Go.Proofs.Ytjmmompbmjhkpaa.Calc

namespace Go.Proofs.Ytjmmompbmjhkpaa.Calc
open Go Code
set_option linter.unusedSimpArgs false
set_option linter.unusedVariables false
set_option maxRecDepth 20000
set_option maxHeartbeats 4000000
attribute [local irreducible] WOpsT AW AK RK AKW UK UC
theorem stdM_sml : SmlP stdM := by
  unfold SmlP SmlC
  decide +kernel
section
variable {P : Program} {rest : List AOper} {tr : Tr} {fr : Fr} {h : List Blk} {K : KT} {d : Option Nat}
end
theorem co_b (r : Nat → Int) (v : Int) : spl (spl [I 0, I 0, I 0, I 0, I 0, I 0, I 0, I 0, I 0, I 0, I 0, .c (.bool false)] 9 [I v]) 0 (ri r) = coA r v 0 false := rfl
theorem cp_mren (c : Cpu) (ks : List Nat) : (cpC c).map (ren ks) = cpC c := rfl
theorem cp_z (c : Cpu) : spl [.c (.string ⟨#[]⟩), .c (.slice none 0 0), .c (.slice none 0 0), .c (.slice none 0 0), .c (.slice none 0 0)] 0 (cpC c) = cpC c := rfl
end Go.Proofs.Ytjmmompbmjhkpaa.Calc

namespace Go.Proofs.Ytjmmompbmjhkpaa.Calc
open Go Code
set_option linter.unusedSimpArgs false
set_option linter.unusedVariables false
set_option maxRecDepth 20000
set_option maxHeartbeats 4000000
attribute [local irreducible] WOpsT AW AK RK AKW UK UC memF
def runsM : Nat → Core → (Nat → Int) → Core × (Nat → Int)
  | 0, k, f => (k, f)
  | n + 1, k, f => runsM n (runM stdM k f).1 (runM stdM k f).2.2
theorem runs_c (n : Nat) (hn : n ≤ 1000) (k0 : Core) (f0 : Nat → Int) (hf0 : FB f0) : FnE Try.prog 85 [.agg (coC k0), .ifc 98 (.ptr 0 1 0 0), I n] [fA, fB f0] (.agg (coC (runsM n k0 f0).1)) [fA, fB (runsM n k0 f0).2] := by
  have hcpu := stdCpu_ok
  have hrun : ∀ k f, FB f → FnE Try.prog 80 [.agg (cpC stdM), .agg (coC k), .ifc 98 (.ptr 0 1 0 0)] [fA, fB f] (.tup [.agg (coC (runM stdM k f).1), .sl 3 ((runM stdM k f).2.1.map buC)]) [fA, fB (runM stdM k f).2.2] := fun k f hf => run_c stdM stdM_sml k f hf
  have hfb : ∀ k f, FB f → FB (runM stdM k f).2.2 := fun k f hf => runFrom_fb stdM 20 k [] f hf
  generalize hfin : runsM n k0 f0 = F
  have hstep : ∀ m k f, runsM (m + 1) k f = runsM m (runM stdM k f).1 (runM stdM k f).2.2 := fun _ _ _ => rfl
  have hz : ∀ k f, runsM 0 k f = (k, f) := fun _ _ => rfl
  generalize runsM = RS at *
  generalize runM stdM = RN at *
  generalize stdM = c at *
  refine N.fn Try.func85 k85 lb q85 fun Q hQ hQN => ?_
  rw [c85]
  obtain ⟨r0, op0, a0, n0⟩ := k0
  rw [show coC ⟨r0, op0, a0, n0⟩ = coA r0 op0 a0 n0 from rfl]
  repeat' (first
    | rw [co_mren]
    | rw [co_co]
    | rw [co_t12]
    | rw [co_t9]
    | rw [cp_t5]
    | rw [co_z]
    | rw [bu_mren]
    | rw [bu_t3]
    | rw [bu_z]
    | rw [bu_data]
    | simp only [renB_fA, renB_fB]
    | rw [cp_mren]
    | rw [cp_z]
    | rw [ri_t9]
    | rw [ri_mren]
    | rw [co_r]
    | rw [co_b]
    | refine N.regS fun K hK => ?_
    | refine N.dregS fun K hK => ?_
    | refine N.regN fun K hK => ?_
    | refine N.dregN fun K hK => ?_
    | simp only [T.mv, sm, AO.ev, put, lk, enter, reduceIte, Nat.reduceEqDiff, Nat.reduceAdd, Nat.reduceMul, Nat.reduceSub, Int.reduceNeg, Int.reduceToNat, upto, renB, setAll]
    | (refine T.nil ?_; (first | refine hK _ _ _ (by rfl) ?_ | refine hK _ _ _ ?_); (try simp only [keep, List.map, lk, reduceIte, Nat.reduceEqDiff, enter]); clear hK K)
    | (show WOpsT _ (⟨_, .call _ _, none⟩ :: _) _ _ _ _; first | refine T.call0 e78 rfl (hcpu) ?_)
    | (show WOpsT _ (⟨_, .ld _ _, none⟩ :: _) _ _ _ _; first | refine L.ldn ?_ | refine L.lddn ?_)
    | (show WOpsT _ (⟨_, .bin _ _ _, none⟩ :: _) _ _ _ _; first | refine L.add ?_ | refine L.bin ?_)
    | (show AKW _ _ _ _ _ _ _; first | refine N.now ?_)
    | (show AK _ _ (.cond _ _ _) _ _ _ _; first | refine N.c1 ?_ | refine N.c2 ?_ | refine N.c3 ?_ | refine N.c4 ?_ | refine N.condD rfl (fun hcd => ?_) (fun hcd => ?_) | refine N.condB rfl (fun hcd => ?_) (fun hcd => ?_) | refine N.condU rfl ?_ ?_)
    | (show AK _ _ _ _ _ _ _; first | refine N.seq ?_ | refine N.block ?_ | refine N.skip ?_ | refine N.exit ?_ | refine N.ret ?_)
    | (show RK _ _ _ _ _ _ _; simp only [rk, rk0, reduceIte, Nat.reduceEqDiff])
    | (show WOpsT _ _ _ _ _ _; first | refine L.ext ?_ | refine L.st ?_ | refine L.new ?_ | refine L.zero ?_)
    | refine hQ _ _ _ rfl ?_
    | refine hQN _ _ _ rfl ?_)
  refine N.loop (σ := Nat × Core × (Nat → Int)) (fun s => [(1, .ifc 98 (.ptr 0 1 0 0)), (3, .ptr 2 1 0 0), (6, .ptr 3 1 0 0), (7, .ptr 4 1 0 0), (9, I n), (10, I s.1)]) (fun s => [fA, fB s.2.2, ⟨1, 12, [coC s.2.1]⟩, ⟨1, 12, [[I 0, I 0, I 0, I 0, I 0, I 0, I 0, I 0, I 0, I 0, I 0, .c (.bool false)]]⟩, ⟨1, 5, [cpC c]⟩]) (fun s => s.1 ≤ n ∧ FB s.2.2 ∧ RS (n - s.1) s.2.1 s.2.2 = F) (fun s => n - s.1) (0, ⟨r0, op0, a0, n0⟩, f0) ⟨Nat.zero_le _, hf0, hfin⟩ (Weaks.sel (by repeat (first | exact trivial | refine ⟨.rfl, ?_⟩ | refine ⟨.any, ?_⟩)) rfl) fun w hi R hC => ?_
  obtain ⟨i, k, f⟩ := w
  obtain ⟨hi, hf, hst⟩ := hi
  dsimp only at hi hf hst hC ⊢
  by_cases hil : i < n
  · have hr := hrun k f hf
    have hfb := hfb k f hf
    rw [show n - i = n - (i + 1) + 1 by omega, hstep] at hst
    generalize RN k f = q at *
    obtain ⟨k2, bs, f2⟩ := q
    obtain ⟨r1, op1, a1, n1⟩ := k
    obtain ⟨r2, op2, a2, n2⟩ := k2
    dsimp only [coC] at hr hst hfb
    rw [show coC ⟨r1, op1, a1, n1⟩ = coA r1 op1 a1 n1 from rfl]
    repeat' (first
      | rw [co_mren]
      | rw [co_co]
      | rw [co_t12]
      | rw [co_t9]
      | rw [cp_t5]
      | rw [co_z]
      | rw [bu_mren]
      | rw [bu_t3]
      | rw [bu_z]
      | rw [bu_data]
      | simp only [renB_fA, renB_fB]
      | rw [cp_mren]
      | rw [cp_z]
      | rw [ri_t9]
      | rw [ri_mren]
      | rw [co_r]
      | rw [co_b]
      | refine N.regS fun K hK => ?_
      | refine N.dregS fun K hK => ?_
      | refine N.regN fun K hK => ?_
      | refine N.dregN fun K hK => ?_
      | simp only [T.mv, sm, AO.ev, put, lk, enter, reduceIte, Nat.reduceEqDiff, Nat.reduceAdd, Nat.reduceMul, Nat.reduceSub, Int.reduceNeg, Int.reduceToNat, upto, renB, setAll]
      | (refine T.nil ?_; (first | refine hK _ _ _ (by rfl) ?_ | refine hK _ _ _ ?_); (try simp only [keep, List.map, lk, reduceIte, Nat.reduceEqDiff, enter]); clear hK K)
      | (show WOpsT _ (⟨_, .call _ _, none⟩ :: _) _ _ _ _; first | refine T.cP [0, 1] e80 (hr) ?_)
      | (show WOpsT _ (⟨_, .ld _ _, none⟩ :: _) _ _ _ _; first | refine L.ldn ?_ | refine L.lddn ?_)
      | (show WOpsT _ (⟨_, .bin _ _ _, none⟩ :: _) _ _ _ _; first | refine L.add ?_ | refine L.bin ?_)
      | (show AKW _ _ _ _ _ _ _; first | refine N.now ?_)
      | (show AK _ _ (.cond _ _ _) _ _ _ _; first | refine N.c1 ?_ | refine N.c2 ?_ | refine N.c3 ?_ | refine N.c4 ?_ | refine N.condD rfl (fun hcd => ?_) (fun hcd => ?_) | refine N.condB rfl (fun hcd => ?_) (fun hcd => ?_) | refine N.condU rfl ?_ ?_)
      | (show AK _ _ _ _ _ _ _; first | refine N.seq ?_ | refine N.block ?_ | refine N.skip ?_ | refine N.exit ?_ | refine N.ret ?_)
      | (show RK _ _ _ _ _ _ _; simp only [rk, rk0, reduceIte, Nat.reduceEqDiff])
      | (show WOpsT _ _ _ _ _ _; first | refine L.ext ?_ | refine L.st ?_ | refine L.new ?_ | refine L.zero ?_)
      | refine hQ _ _ _ rfl ?_
      | refine hQN _ _ _ rfl ?_)
    exact hC _ _ (i + 1, ⟨r2, op2, a2, n2⟩, f2) ⟨by dsimp only; omega, hfb, hst⟩ (by dsimp only; omega) (Weaks.gc [0, 1, 2, 3, 4] 1 rfl (by repeat (first | exact trivial | refine ⟨.rfl, ?_⟩ | refine ⟨.any, ?_⟩)) (by show [_, _, _, _, _] = [outB _ _ _ (renB [0, 1] fA), outB _ _ _ (renB [0, 1] (fB f2)), _, _, _]; rw [renB_fB, outB_fB]; rfl))
  · obtain rfl : i = n := by omega
    rw [Nat.sub_self, hz] at hst
    subst hst
    obtain ⟨r1, op1, a1, n1⟩ := k
    dsimp only at hQ hQN
    rw [show coC ⟨r1, op1, a1, n1⟩ = coA r1 op1 a1 n1 from rfl]
    repeat' (first
      | rw [co_mren]
      | rw [co_co]
      | rw [co_t12]
      | rw [co_t9]
      | rw [cp_t5]
      | rw [co_z]
      | rw [bu_mren]
      | rw [bu_t3]
      | rw [bu_z]
      | rw [bu_data]
      | simp only [renB_fA, renB_fB]
      | rw [cp_mren]
      | rw [cp_z]
      | rw [ri_t9]
      | rw [ri_mren]
      | rw [co_r]
      | rw [co_b]
      | refine N.regS fun K hK => ?_
      | refine N.dregS fun K hK => ?_
      | refine N.regN fun K hK => ?_
      | refine N.dregN fun K hK => ?_
      | simp only [T.mv, sm, AO.ev, put, lk, enter, reduceIte, Nat.reduceEqDiff, Nat.reduceAdd, Nat.reduceMul, Nat.reduceSub, Int.reduceNeg, Int.reduceToNat, upto, renB, setAll]
      | (refine T.nil ?_; (first | refine hK _ _ _ (by rfl) ?_ | refine hK _ _ _ ?_); (try simp only [keep, List.map, lk, reduceIte, Nat.reduceEqDiff, enter]); clear hK K)
      | (show WOpsT _ (⟨_, .ld _ _, none⟩ :: _) _ _ _ _; first | refine L.ldn ?_ | refine L.lddn ?_)
      | (show WOpsT _ (⟨_, .bin _ _ _, none⟩ :: _) _ _ _ _; first | refine L.add ?_ | refine L.bin ?_)
      | (show AKW _ _ _ _ _ _ _; first | refine N.now ?_)
      | (show AK _ _ (.cond _ _ _) _ _ _ _; first | refine N.c1 ?_ | refine N.c2 ?_ | refine N.c3 ?_ | refine N.c4 ?_ | refine N.condD rfl (fun hcd => ?_) (fun hcd => ?_) | refine N.condB rfl (fun hcd => ?_) (fun hcd => ?_) | refine N.condU rfl ?_ ?_)
      | (show AK _ _ _ _ _ _ _; first | refine N.seq ?_ | refine N.block ?_ | refine N.skip ?_ | refine N.exit ?_ | refine N.ret ?_)
      | (show RK _ _ _ _ _ _ _; simp only [rk, rk0, reduceIte, Nat.reduceEqDiff])
      | (show WOpsT _ _ _ _ _ _; first | refine L.ext ?_ | refine L.st ?_ | refine L.new ?_ | refine L.zero ?_)
      | refine hQ _ _ _ rfl ?_
      | refine hQN _ _ _ rfl ?_)
    exact WS.gc [0, 1] 1 rfl (by show [_, _] = [_, outB _ _ _ (fB f)]; rw [outB_fB]; rfl) .rfl
def progF (p : List Int) : Nat → Int := fun i => if 1024 ≤ i ∧ i < 1024 + p.length then p.getD (i - 1024) 0 else 0
def zeroF : Nat → Int := fun _ => 0
theorem zero_mem : List.replicate 65536 [V.c (.int .u8 0)] = bcells (memF zeroF) := by
  apply List.ext_getElem?
  intro j
  rw [List.getElem?_replicate, bcells_get]
  unfold memF zeroF
  by_cases hj : j < 65536
  · rw [if_pos hj, List.getElem?_map, List.getElem?_range hj]; rfl
  · rw [if_neg hj, List.getElem?_map, List.getElem?_eq_none (l := List.range 65536) (by simp; omega)]; rfl
theorem memF_getD (f : Nat → Int) (j : Nat) : (bcells (memF f))[j]? = if j < 65536 then some [.c (.int .u8 (f j))] else none := by
  rw [bcells_get]; unfold memF
  by_cases hj : j < 65536
  · rw [if_pos hj, List.getElem?_map, List.getElem?_range hj]; rfl
  · rw [if_neg hj, List.getElem?_map, List.getElem?_eq_none (l := List.range 65536) (by simp; omega)]; rfl
theorem copy_mem (p : List Int) (hp : p.length ≤ 1000) (n : Nat) (hn : n = 64512) : (bcells (memF zeroF)).take 1024 ++ ((bcells p).take p.length).take n ++ (bcells (memF zeroF)).drop (1024 + min ((bcells p).take p.length).length n) = bcells (memF (progF p)) := by
  subst hn
  have e1 : (bcells p).take p.length = bcells p := List.take_of_length_le (by rw [bcells_len]; omega)
  have e2 : (bcells p).take 64512 = bcells p := List.take_of_length_le (by rw [bcells_len]; omega)
  have e3 : (bcells (memF zeroF)).length = 65536 := by rw [bcells_len]; unfold memF; simp
  rw [e1, e2, bcells_len, Nat.min_eq_left (by omega)]
  apply List.ext_getElem?
  intro j
  rw [memF_getD]
  unfold progF
  by_cases h1 : j < 1024
  · rw [List.append_assoc, List.getElem?_append_left (by rw [List.length_take, e3]; omega), List.getElem?_take_of_lt h1, memF_getD, if_pos (by omega), if_pos (by omega), if_neg (by omega)]; rfl
  · have e4 : ((bcells (memF zeroF)).take 1024).length = 1024 := by rw [List.length_take, e3]; decide
    by_cases h2 : j < 1024 + p.length
    · rw [List.append_assoc, List.getElem?_append_right (by omega), e4, List.getElem?_append_left (by rw [bcells_len]; omega), bcells_get, if_pos (by omega), if_pos (by omega), List.getD_eq_getElem?_getD, List.getElem?_eq_getElem (by omega)]; rfl
    · rw [List.getElem?_append_right (by rw [List.length_append, e4, bcells_len]; omega), List.length_append, e4, bcells_len, List.getElem?_drop, memF_getD, if_neg (show ¬ (1024 ≤ j ∧ j < 1024 + p.length) by omega)]
      rw [show 1024 + p.length + (j - (1024 + p.length)) = j by omega]
      rfl
theorem co_b2 (r : Nat → Int) (v : Int) : spl (spl [I 0, I 0, I 0, I 0, I 0, I 0, I 0, I 0, I 0, I 0, I 0, .c (.bool false)] 0 (ri r)) 9 [I v] = coA r v 0 false := rfl
theorem ready0_c (p : List Int) (hp : p.length ≤ 1000) : FnE Try.prog 83 [.c (.slice none 0 0), .psl 0 1 0 p.length] [⟨1, 1, bcells p⟩] (.tup [.agg (coA (upd (regsOf []) 7 1024) (-1) 0 false), .ptr 1 1 0 0])
    [⟨1, 1, bcells p⟩, ⟨1, 1, [[.psl 2 1 0 65536]]⟩, fB (progF p)] := by
  have hg := registers_ok []
  generalize regsOf [] = r at *
  refine N.fn Try.func83 k83 lb q83 fun Q hQ hQN => ?_
  rw [c83]
  repeat' (first
    | refine N.regS fun K hK => ?_
    | refine N.dregS fun K hK => ?_
    | refine N.regN fun K hK => ?_
    | refine N.dregN fun K hK => ?_
    | simp only [T.mv, sm, AO.ev, put, lk, enter, reduceIte, Nat.reduceEqDiff, Nat.reduceAdd, Nat.reduceMul, Nat.reduceSub, Int.reduceNeg, Int.reduceToNat, upto, renB, setAll]
    | (refine T.nil ?_; (first | refine hK _ _ _ (by rfl) ?_ | refine hK _ _ _ ?_); (try simp only [keep, List.map, lk, reduceIte, Nat.reduceEqDiff, enter]); clear hK K)
    | (show WOpsT _ (⟨_, .ld _ _, none⟩ :: _) _ _ _ _; first | refine L.ld ?_ | refine L.ldd ?_ | refine L.ldn ?_ | refine L.lddn ?_)
    | (show WOpsT _ (⟨_, .idx _ _ _ _, none⟩ :: _) _ _ _ _; first | refine L.idxa ?_ | refine L.idxd ?_)
    | (show AK _ _ _ _ _ _ _; first | refine N.seq ?_ | refine N.ret ?_)
    | (show RK _ _ _ _ _ _ _; simp only [rk, rk0, reduceIte, Nat.reduceEqDiff])
    | (show WOpsT _ _ _ _ _ _; first | refine T.slcN rfl rfl rfl ?_ | refine L.fad ?_ | refine L.fadd ?_ | refine L.nilc ?_ | refine L.nilcd ?_ | refine T.nilcf rfl ?_ | refine T.nilci rfl ?_ | refine L.st ?_ | refine L.new ?_ | refine L.zero ?_ | refine L.build ?_ | refine T.mksl rfl rfl (by decide) ?_ | refine T.copy rfl rfl rfl ⟨rfl, rfl⟩ ?_ | refine T.slc rfl rfl rfl rfl ⟨rfl, rfl⟩ (by omega) ?_ | refine T.slcS rfl rfl rfl rfl (by omega) ?_)
    | refine hQ _ _ _ rfl ?_
    | refine hQN _ _ _ rfl ?_)
  refine N.weak (fr1 := [(0, .sl 1 (cells [])), (1, .psl 0 1 0 p.length), (4, .ptr 1 1 0 0)]) (Weaks.sel ⟨.nil, .rfl, .rfl, trivial⟩ rfl) (N.now ?_)
  repeat' (first
    | rw [co_mren]
    | rw [co_co]
    | rw [co_t12]
    | rw [co_t9]
    | rw [cp_t5]
    | rw [co_z]
    | rw [bu_mren]
    | rw [bu_t3]
    | rw [bu_z]
    | rw [bu_data]
    | simp only [renB_fA, renB_fB]
    | rw [cp_mren]
    | rw [cp_z]
    | rw [ri_t9]
    | rw [ri_mren]
    | rw [co_r]
    | rw [co_b]
    | rw [zero_mem]
    | (show WOpsT _ (⟨_, .copy _ _ _, none⟩ :: _) _ _ _ _; refine T.copy rfl rfl rfl ⟨rfl, rfl⟩ ?_)
    | rw [co_b2]
    | rw [co_reg _ _ _ _ _ 7 (by decide)]
    | refine N.regS fun K hK => ?_
    | refine N.dregS fun K hK => ?_
    | refine N.regN fun K hK => ?_
    | refine N.dregN fun K hK => ?_
    | simp only [T.mv, sm, AO.ev, put, lk, enter, reduceIte, Nat.reduceEqDiff, Nat.reduceAdd, Nat.reduceMul, Nat.reduceSub, Int.reduceNeg, Int.reduceToNat, upto, renB, setAll]
    | (refine T.nil ?_; (first | refine hK _ _ _ (by rfl) ?_ | refine hK _ _ _ ?_); (try simp only [keep, List.map, lk, reduceIte, Nat.reduceEqDiff, enter]); clear hK K)
    | (show WOpsT _ (⟨_, .call _ _, none⟩ :: _) _ _ _ _; first | refine T.call0 e53 rfl (hg) ?_)
    | (show WOpsT _ (⟨_, .ld _ _, none⟩ :: _) _ _ _ _; first | refine L.ld ?_ | refine L.ldd ?_ | refine L.ldn ?_ | refine L.lddn ?_)
    | (show WOpsT _ (⟨_, .idx _ _ _ _, none⟩ :: _) _ _ _ _; first | refine L.idxa ?_ | refine L.idxd ?_)
    | (show AKW _ _ _ _ _ _ _; first | refine N.now ?_)
    | (show AK _ _ _ _ _ _ _; first | refine N.seq ?_ | refine N.ret ?_)
    | (show RK _ _ _ _ _ _ _; simp only [rk, rk0, reduceIte, Nat.reduceEqDiff])
    | (show WOpsT _ _ _ _ _ _; first | refine T.slcN rfl rfl rfl ?_ | refine L.fad ?_ | refine L.fadd ?_ | refine L.nilc ?_ | refine L.nilcd ?_ | refine T.nilcf rfl ?_ | refine T.nilci rfl ?_ | refine L.st ?_ | refine L.new ?_ | refine L.zero ?_ | refine L.build ?_ | refine T.mksl rfl rfl (by decide) ?_ | refine T.copy rfl rfl rfl ⟨rfl, rfl⟩ ?_ | refine T.slc rfl rfl rfl rfl ⟨rfl, rfl⟩ (by omega) ?_ | refine T.slcS rfl rfl rfl rfl (by omega) ?_)
    | refine hQ _ _ _ rfl ?_
    | refine hQN _ _ _ rfl ?_)
  exact WS.gc [0, 3, 2] 0 rfl (by show [_, _, fB (progF p)] = [outB _ _ _ ⟨1, 1, bcells p⟩, _, outB _ _ _ ⟨1, 1, _⟩]; rw [copy_mem p hp (((65536 : Nat) : Int).toNat - 1024) (by decide), outB_bytes, outB_bytes]; rfl) .rfl
def opM (s : ByteArray) (m : Int) : Int := (gotM (fun x => decide (x.name = s ∧ x.mode = m)) stdM.ins).1.op
end Go.Proofs.Ytjmmompbmjhkpaa.Calc

namespace Go.Proofs.Ytjmmompbmjhkpaa.Calc
open Go
set_option linter.unusedVariables false
set_option linter.unusedSimpArgs false
def rg (a x y s p t u pc ad : Int) : Nat → Int := fun i => match i with
  | 0 => a
  | 1 => x
  | 2 => y
  | 3 => s
  | 4 => p
  | 5 => t
  | 6 => u
  | 7 => pc
  | 8 => ad
  | _ => 0
def By (n : Int) : Prop := 0 ≤ n ∧ n < 256
def Wo (n : Int) : Prop := 0 ≤ n ∧ n < 65536
structure Bd (a x y s p t u pc ad : Int) : Prop where
  ha : By a
  hx : By x
  hy : By y
  hs : By s
  hp : By p
  ht : By t
  hu : By u
  hpc : Wo pc
  had : Wo ad
theorem fitN8 {i : Nat} {v : Int} (h7 : i ≠ 7) (h8 : i ≠ 8) (h : By v) : fitN i v = v := by
  unfold fitN By at *; rw [if_neg (by omega)]; omega
section
variable {a x y s p t u pc ad : Int}
end
end Go.Proofs.Ytjmmompbmjhkpaa.Calc

namespace Go.Proofs.Ytjmmompbmjhkpaa.Calc
open Go Code
set_option linter.unusedSimpArgs false
set_option linter.unusedVariables false
set_option maxRecDepth 20000
set_option maxHeartbeats 4000000
attribute [local irreducible] WOpsT AW AK RK AKW UK UC memF
theorem wholes_k : (runsM 1 ⟨upd (regsOf []) 7 1024, -1, 0, false⟩ (progF [1, 77])).1.r 0 = 77 ∧ (runsM 1 ⟨upd (regsOf []) 7 1024, -1, 0, false⟩ (progF [1, 77])).1.r 7 = 1026 := by decide +kernel
theorem progF_fb (p : List Int) (hp : Bytes p) : FB (progF p) := by
  intro i; unfold progF; split
  · exact hp _
  · exact ⟨by decide, by decide⟩
theorem bytes2 (a b : Int) (ha : 0 ≤ a ∧ a < 256) (hb : 0 ≤ b ∧ b < 256) : Bytes [a, b] := by
  intro i
  match i with
  | 0 => exact ha
  | 1 => exact hb
  | i + 2 => exact ⟨Int.le_refl 0, by show (0 : Int) < 256; decide⟩
theorem wholes_ok : FnE Try.prog 82 [] [] (.c (.bool true)) [] := by
  have hy := ready0_c [1, 77] (by decide)
  have hw := runs_c 1 (by decide) ⟨upd (regsOf []) 7 1024, -1, 0, false⟩ (progF [1, 77]) (progF_fb _ (bytes2 1 77 (by decide) (by decide)))
  have hk := wholes_k
  generalize hf : progF [1, 77] = f at *
  generalize hr : upd (regsOf []) 7 1024 = r at *
  generalize runsM 1 ⟨r, -1, 0, false⟩ f = w at *
  obtain ⟨⟨r2, op2, a2, n2⟩, f2⟩ := w
  dsimp only [coC] at hw hk
  obtain ⟨k1, k2⟩ := hk
  clear hf hr
  refine N.fn Try.func82 k82 lb q82 fun Q hQ hQN => ?_
  rw [c82]
  repeat' (first
    | rw [co_mren]
    | rw [co_co]
    | rw [co_t12]
    | rw [co_t9]
    | rw [cp_t5]
    | rw [co_z]
    | simp only [renB_fA, renB_fB]
    | rw [cp_mren]
    | rw [cp_z]
    | rw [ri_t9]
    | rw [ri_mren]
    | rw [co_r]
    | rw [co_b]
    | (show AKW _ _ (.seq (.dreg _ _ _) _) _ _ _ _; refine N.now ?_)
    | (show AKW _ _ (.seq (.reg (⟨some 4, _, _⟩ :: _) _) _) _ _ _ _; refine N.now ?_)
    | refine N.regS fun K hK => ?_
    | refine N.dregS fun K hK => ?_
    | refine N.regN fun K hK => ?_
    | refine N.dregN fun K hK => ?_
    | simp only [T.mv, sm, AO.ev, put, lk, enter, reduceIte, Nat.reduceEqDiff, Nat.reduceAdd, Nat.reduceMul, Nat.reduceSub, Int.reduceNeg, Int.reduceToNat, upto, renB, setAll]
    | (refine T.nil ?_; (first | refine hK _ _ _ (by rfl) ?_ | refine hK _ _ _ ?_); (try simp only [keep, List.map, lk, reduceIte, Nat.reduceEqDiff, enter]); clear hK K)
    | (show WOpsT _ (⟨_, .call _ _, none⟩ :: _) _ _ _ _; first | refine T.cP [0] e83 (hy) ?_)
    | (show WOpsT _ (⟨_, .ld _ _, none⟩ :: _) _ _ _ _; first | refine L.ld ?_ | refine L.ldd ?_ | refine L.ldn ?_ | refine L.lddn ?_)
    | (show WOpsT _ (⟨_, .idx _ _ _ _, none⟩ :: _) _ _ _ _; first | refine L.idxa ?_ | refine L.idxd ?_)
    | (show WOpsT _ (⟨_, .bin _ _ _, none⟩ :: _) _ _ _ _; first | refine L.bin ?_)
    | (show WOpsT _ (⟨_, _, some (_, true)⟩ :: _) _ _ _ _; first | refine L.goT ?_ | refine L.paT ?_ | refine L.go ?_ | refine L.pass ?_ | refine T.pU rfl ?_ | refine T.gT rfl (fun hgd => ?_) (fun hgd => ?_))
    | (show WOpsT _ (⟨_, .pick _ _ _, none⟩ :: _) _ _ _ _; first | refine L.pkT ?_ | refine L.pkF ?_ | refine L.pickT ?_ | refine L.pickF ?_ | refine L.pickB ?_ | refine T.pkD rfl (fun hgd => ?_) (fun hgd => ?_))
    | (show AK _ _ _ _ _ _ _; first | refine N.seq ?_ | refine N.ret ?_)
    | (show RK _ _ _ _ _ _ _; simp only [rk, rk0, reduceIte, Nat.reduceEqDiff])
    | (show WOpsT _ _ _ _ _ _; first | refine L.ext ?_ | refine L.fad ?_ | refine L.fadd ?_ | refine L.st ?_ | refine L.zero ?_ | refine T.mki ?_ | refine L.bsl ?_)
    | refine hQ _ _ _ rfl ?_
    | refine hQN _ _ _ rfl ?_)
  refine N.weak (fr1 := [(1, .ptr 2 1 0 0), (2, .ptr 0 1 0 0)]) (h1 := [fA, fB f, ⟨1, 12, [coA r (-1) 0 false]⟩]) (Weaks.gc [1, 2, 3] 0 rfl ⟨.rfl, .rfl, trivial⟩ (by show [_, fB f, _] = [_, outB _ _ _ (renB _ (fB f)), _]; rw [renB_fB, outB_fB]; rfl)) (N.now ?_)
  repeat' (first
    | rw [co_mren]
    | rw [co_co]
    | rw [co_t12]
    | rw [co_t9]
    | rw [cp_t5]
    | rw [co_z]
    | simp only [renB_fA, renB_fB]
    | rw [cp_mren]
    | rw [cp_z]
    | rw [ri_t9]
    | rw [ri_mren]
    | rw [co_r]
    | rw [co_b]
    | refine N.regS fun K hK => ?_
    | refine N.dregS fun K hK => ?_
    | refine N.regN fun K hK => ?_
    | refine N.dregN fun K hK => ?_
    | simp only [T.mv, sm, AO.ev, put, lk, enter, reduceIte, Nat.reduceEqDiff, Nat.reduceAdd, Nat.reduceMul, Nat.reduceSub, Int.reduceNeg, Int.reduceToNat, upto, renB, setAll]
    | (refine T.nil ?_; (first | refine hK _ _ _ (by rfl) ?_ | refine hK _ _ _ ?_); (try simp only [keep, List.map, lk, reduceIte, Nat.reduceEqDiff, enter]); clear hK K)
    | (show WOpsT _ (⟨_, .call _ _, none⟩ :: _) _ _ _ _; first | refine T.cP [0, 1] e85 (hw) ?_)
    | (show WOpsT _ (⟨_, .ld _ _, none⟩ :: _) _ _ _ _; first | refine L.ld ?_ | refine L.ldd ?_ | refine L.ldn ?_ | refine L.lddn ?_)
    | (show WOpsT _ (⟨_, .idx _ _ _ _, none⟩ :: _) _ _ _ _; first | refine L.idxa ?_ | refine L.idxd ?_)
    | (show WOpsT _ (⟨_, .bin _ _ _, none⟩ :: _) _ _ _ _; first | refine L.bin ?_)
    | (show WOpsT _ (⟨_, _, some (_, true)⟩ :: _) _ _ _ _; first | refine L.goT ?_ | refine L.paT ?_ | refine L.go ?_ | refine L.pass ?_ | refine T.pU rfl ?_ | refine T.gT rfl (fun hgd => ?_) (fun hgd => ?_))
    | (show WOpsT _ (⟨_, .pick _ _ _, none⟩ :: _) _ _ _ _; first | refine L.pkT ?_ | refine L.pkF ?_ | refine L.pickT ?_ | refine L.pickF ?_ | refine L.pickB ?_ | refine T.pkD rfl (fun hgd => ?_) (fun hgd => ?_))
    | (show AKW _ _ _ _ _ _ _; first | refine N.now ?_)
    | (show AK _ _ _ _ _ _ _; first | refine N.seq ?_ | refine N.ret ?_)
    | (show RK _ _ _ _ _ _ _; simp only [rk, rk0, reduceIte, Nat.reduceEqDiff])
    | (show WOpsT _ _ _ _ _ _; first | refine L.ext ?_ | refine L.fad ?_ | refine L.fadd ?_ | refine L.st ?_ | refine L.zero ?_ | refine T.mki ?_ | refine L.bsl ?_)
    | refine hQ _ _ _ rfl ?_
    | refine hQN _ _ _ rfl ?_)
  all_goals exact WS.bool rfl (by simp [k1, k2])
def rstK : Core := ⟨upd zeroR 4 4, 258, 0, false⟩
end Go.Proofs.Ytjmmompbmjhkpaa.Calc

namespace Go.Proofs.Ytjmmompbmjhkpaa.Calc
open Go Code
set_option linter.unusedSimpArgs false
set_option linter.unusedVariables false
set_option maxRecDepth 20000
set_option maxHeartbeats 4000000
attribute [local irreducible] WOpsT AW AK RK AKW UK UC memF
theorem in_mren (x : Ins) (ks : List Nat) : (inC x).map (ren ks) = inC x := rfl
theorem in_t4 (x : Ins) : (inC x).take 4 = inC x := rfl
theorem in_z (x : Ins) : spl [I 0, .c (.string ⟨#[]⟩), I 0, .c (.slice none 0 0)] 0 (inC x) = inC x := rfl
section
variable {P : Program} {rest : List AOper} {tr : Tr} {fr : Fr} {h : List Blk} {K : KT} {d : Option Nat}
theorem T.appBl (xs ys : List Int) {bytes : Nat} {s x : AO} {b ver len b2 v2 n : Nat} (hs : s.ev (lk fr) = .psl b ver 0 len) (hb : h[b]? = some ⟨ver, 1, bcells xs⟩) (hx : x.ev (lk fr) = .psl b2 v2 0 n) (hb2 : h[b2]? = some ⟨v2, 1, bcells ys⟩) (hn : ys.length = n) (hl : len = xs.length)
    (hbd : 0 < bytes ∧ bytes * (len + n + (len + n) / 4 + 1024) ≤ 2 ^ 48)
    (hK : WOpsT P rest (tr ++ [(b :: [b2], [b])]) (put fr d (.psl b (ver + 1) 0 (len + n))) (h.set b ⟨ver + 1, 1, bcells (xs ++ ys)⟩) K) : WOpsT P (⟨d, .app 1 bytes s x, none⟩ :: rest) tr fr h K := by
  have e : srcOf (fun b => h[b]?) 1 (x.ev (lk fr)) = some (1, bcells ys) := by
    rw [hx]; simp only [srcOf, rowsOf, hb2]
    rw [if_pos trivial, List.drop_zero, List.take_of_length_le (by rw [bcells_len]; omega)]
  have el : (bcells ys).length = n := by rw [bcells_len, hn]
  refine T.app hs hb e ⟨by decide, hbd.1⟩ ⟨rfl, rfl, by rw [bcells_len]; omega, by rw [el]; exact hbd.2⟩ ?_
  rw [el, hx]
  have : (bcells xs).drop 0 ++ bcells ys = bcells (xs ++ ys) := by rw [List.drop_zero, bcells_append]
  rw [this]
  exact hK
end
theorem ready2_c (l : List Int) (p : List Int) (hp : p.length ≤ 1000) : FnE Try.prog 83 [.sl 1 (cells l), .psl 0 2 0 p.length] [⟨2, 1, bcells p⟩] (.tup [.agg (coA (upd (regsOf l) 7 1024) (-1) 0 false), .ptr 1 1 0 0])
    [⟨2, 1, bcells p⟩, ⟨1, 1, [[.psl 2 1 0 65536]]⟩, fB (progF p)] := by
  have hg := registers_ok l
  generalize regsOf l = r at *
  refine N.fn Try.func83 k83 lb q83 fun Q hQ hQN => ?_
  rw [c83]
  repeat' (first
    | rw [co_mren]
    | rw [co_co]
    | rw [co_t12]
    | rw [co_t9]
    | rw [cp_t5]
    | rw [co_z]
    | simp only [renB_fA, renB_fB]
    | rw [cp_mren]
    | rw [cp_z]
    | rw [ri_t9]
    | rw [ri_mren]
    | rw [co_r]
    | rw [co_b]
    | rw [co_b2]
    | rw [zero_mem]
    | (show WOpsT _ (⟨_, .copy _ _ _, none⟩ :: _) _ _ _ _; refine T.copy rfl rfl rfl ⟨rfl, rfl⟩ ?_)
    | rw [co_reg _ _ _ _ _ 7 (by decide)]
    | refine N.regS fun K hK => ?_
    | refine N.dregS fun K hK => ?_
    | refine N.regN fun K hK => ?_
    | refine N.dregN fun K hK => ?_
    | simp only [T.mv, sm, AO.ev, put, lk, enter, reduceIte, Nat.reduceEqDiff, Nat.reduceAdd, Nat.reduceMul, Nat.reduceSub, Int.reduceNeg, Int.reduceToNat, upto, renB, setAll]
    | (refine T.nil ?_; (first | refine hK _ _ _ (by rfl) ?_ | refine hK _ _ _ ?_); (try simp only [keep, List.map, lk, reduceIte, Nat.reduceEqDiff, enter]); clear hK K)
    | (show WOpsT _ (⟨_, .call _ _, none⟩ :: _) _ _ _ _; first | refine T.call0 e53 rfl (hg) ?_)
    | (show WOpsT _ (⟨_, .ld _ _, none⟩ :: _) _ _ _ _; first | refine L.ld ?_ | refine L.ldd ?_ | refine L.ldn ?_ | refine L.lddn ?_)
    | (show WOpsT _ (⟨_, .idx _ _ _ _, none⟩ :: _) _ _ _ _; first | refine L.idxa ?_ | refine L.idxd ?_)
    | (show AKW _ _ _ _ _ _ _; first | refine N.now ?_)
    | (show AK _ _ _ _ _ _ _; first | refine N.seq ?_ | refine N.ret ?_)
    | (show RK _ _ _ _ _ _ _; simp only [rk, rk0, reduceIte, Nat.reduceEqDiff])
    | (show WOpsT _ _ _ _ _ _; first | refine T.slcN rfl rfl rfl ?_ | refine L.fad ?_ | refine L.fadd ?_ | refine L.nilc ?_ | refine L.nilcd ?_ | refine T.nilcf rfl ?_ | refine T.nilci rfl ?_ | refine L.st ?_ | refine L.new ?_ | refine L.zero ?_ | refine L.build ?_ | refine T.mksl rfl rfl (by decide) ?_ | refine T.copy rfl rfl rfl ⟨rfl, rfl⟩ ?_ | refine T.slc rfl rfl rfl rfl ⟨rfl, rfl⟩ (by omega) ?_ | refine T.slcS rfl rfl rfl rfl (by omega) ?_)
    | refine hQ _ _ _ rfl ?_
    | refine hQN _ _ _ rfl ?_)
  exact WS.gc [0, 3, 2] 0 rfl (by show [_, _, fB (progF p)] = [outB _ _ _ ⟨2, 1, bcells p⟩, _, outB _ _ _ ⟨1, 1, _⟩]; rw [copy_mem p hp (((65536 : Nat) : Int).toNat - 1024) (by decide), outB_bytes, outB_bytes]; rfl) .rfl
end Go.Proofs.Ytjmmompbmjhkpaa.Calc

namespace Go.Proofs.Ytjmmompbmjhkpaa.Calc
open Go
set_option linter.unusedVariables false
def hasIf (ss : List Stp) : Bool := ss.any fun s => s.op == 24
def leastM : List Cyc → Nat → Nat → Nat
  | [], _, n => n
  | c :: l, i, n => leastM l (i + 1) (if hasIf c.steps then min n (i + 1) else n)
theorem stepsM_if : ∀ (l : List Stp) (r : Nat → Int), (stepsM l r).2 = true → hasIf l = true := by
  intro l
  induction l with
  | nil => intro r h; cases h
  | cons s l ih =>
    intro r h
    unfold stepsM at h
    unfold hasIf
    rw [List.any_cons]
    split at h
    · rename_i h2
      have : s.op = 24 := by
        unfold doR at h2
        split at h2
        · assumption
        · cases h2
      rw [this]; rfl
    · have := ih _ h
      unfold hasIf at this
      rw [this, Bool.or_true]
theorem cycle_in (c : Cpu) (k : Core) (f : Nat → Int) (x : Cyc) (l : List Cyc) (j : Nat) (ho : 0 ≤ k.op ∧ k.op ≤ 255) (hl : cycM c k.op = l) (ha : k.a = j) (hj : l[j]? = some x) :
    (cycleM c k false f).1.op = -1 ∧ (j + 1 = l.length ∨ hasIf x.steps = true) ∨ (cycleM c k false f).1.op = k.op ∧ (cycleM c k false f).1.a = ((j + 1 : Nat) : Int) ∧ j + 1 < l.length := by
  obtain ⟨r, op, a, nmi⟩ := k
  dsimp only at ho hl ha ⊢
  subst ha
  have hlt := (List.getElem?_eq_some_iff.1 hj).1
  have hd : doingM c op (j : Int) = some x := by
    unfold doingM
    rw [if_neg (by omega), hl, Int.toNat_natCast]; exact hj
  -- what is asked keeps op and a
  have hask : (askM c ⟨r, op, j, nmi⟩ false).1.op = op ∧ (askM c ⟨r, op, j, nmi⟩ false).1.a = j := by
    unfold askM askA
    dsimp only
    rw [if_neg (by omega)]
    unfold askB
    dsimp only
    rw [if_neg (by omega), hd]
    dsimp only
    split <;> exact ⟨rfl, rfl⟩
  have htell : ∀ (k2 : Core) (d : Int), k2.op = op → k2.a = j → (tellM c k2 d).op = -1 ∧ (j + 1 = l.length ∨ hasIf x.steps = true) ∨ (tellM c k2 d).op = op ∧ (tellM c k2 d).a = ((j + 1 : Nat) : Int) ∧ j + 1 < l.length := by
    rintro ⟨r2, op2, a2, n2⟩ d h1 h2
    dsimp only at h1 h2
    subst h1 h2
    unfold tellM
    dsimp only
    rw [if_neg (by omega)]
    unfold tellB
    dsimp only
    rw [hd]
    dsimp only
    split
    · rename_i h
      refine .inl ⟨rfl, ?_⟩
      rcases h with h | h
      · exact .inr (stepsM_if _ _ h)
      · rw [hl] at h; exact .inl (by omega)
    · rename_i h
      refine .inr ⟨rfl, rfl, ?_⟩
      have h5 : ¬ (((cycM c op2).length : Int) ≤ (j : Int) + 1) := fun h2 => h (.inr h2)
      rw [hl] at h5
      omega
  unfold cycleM
  split
  · exact htell _ _ hask.1 hask.2
  · split
    · exact htell _ _ hask.1 hask.2
    · exact htell _ _ hask.1 hask.2
end Go.Proofs.Ytjmmompbmjhkpaa.Calc

namespace Go.Proofs.Ytjmmompbmjhkpaa.Calc
open Go
set_option linter.unusedVariables false
theorem std_len : stdM.ins.length = 92 := by decide +kernel
theorem std_ins : ∀ j : Nat, j < 92 → stdM.ins.findIdx? (fun y => decide (y.op = (j : Int) + 1)) = some j ∧ (stdM.ins.getD j insZ).op = (j : Int) + 1 ∧ 0 < (stdM.ins.getD j insZ).cy.length ∧ (stdM.ins.getD j insZ).cy.length ≤ 8 := by decide +kernel
theorem fetch_in (j : Nat) (hj : j < 92) (r : Nat → Int) (f : Nat → Int) (h7 : fitR r 7 = 1024) (hf : f 1024 = (j : Int) + 1) :
    ∃ r2, cycleM stdM ⟨r, -1, 0, false⟩ false f = (⟨r2, (j : Int) + 1, 0, false⟩, ⟨1, 1024, (j : Int) + 1⟩, f) := by
  obtain ⟨h1, h2, h3, h4⟩ := std_ins j hj
  have hst : startM stdM ⟨fitR r, -1, 0, false⟩ false = ⟨fitR r, -1, 0, false⟩ := by
    unfold startM; rw [if_neg (by simp), if_neg (by simp)]
  have hask : askM stdM ⟨r, -1, 0, false⟩ false = (⟨(placeM 0 (fitR r)).2, -1, 0, false⟩, ⟨1, 1024, 0⟩) := by
    unfold askM askA
    dsimp only
    rw [if_pos rfl, hst]
    unfold askB
    dsimp only
    rw [if_pos rfl]
    unfold placeM
    rw [if_pos rfl, h7]
  have ha : (1024 : Int).toNat = 1024 := rfl
  unfold cycleM
  rw [hask]
  dsimp only
  rw [if_pos rfl, ha, hf]
  have ht : ∀ q, ∃ r2, tellM stdM ⟨q, -1, 0, false⟩ ((j : Int) + 1) = ⟨r2, (j : Int) + 1, 0, false⟩ := by
    intro q
    unfold tellM
    dsimp only
    rw [if_pos rfl, show ((j : Int) + 1) % 256 = (j : Int) + 1 by omega]
    have hg : gotM (fun x => decide (x.op = (j : Int) + 1)) stdM.ins = (stdM.ins.getD j insZ, true) := by unfold gotM; rw [h1]
    unfold tellA
    rw [hg]
    dsimp only
    rw [if_neg (by decide), if_pos h3]
    exact ⟨_, rfl⟩
  obtain ⟨r2, hr2⟩ := ht (placeM 0 (fitR r)).2
  exact ⟨r2, by rw [hr2]⟩
theorem cycM_std (j : Nat) (hj : j < 92) : cycM stdM ((j : Int) + 1) = (stdM.ins.getD j insZ).cy := by
  obtain ⟨h1, h2, h3, h4⟩ := std_ins j hj
  have hl := std_len
  unfold cycM
  rw [if_neg (by omega), if_neg (by omega), if_neg (by omega), if_pos (by omega), h1]
  dsimp only
  rw [List.getElem?_eq_getElem (by omega), List.getD_eq_getElem?_getD, List.getElem?_eq_getElem (by omega)]; rfl
end Go.Proofs.Ytjmmompbmjhkpaa.Calc

namespace Go.Proofs.Ytjmmompbmjhkpaa.Calc
open Go
set_option linter.unusedVariables false
def touchM (s : Stp) (g : Int) : Bool :=
  if s.op = 0 ∨ s.op = 24 then false
  else if s.op = 3 ∨ s.op = 6 ∨ s.op = 16 ∨ s.op = 17 then decide (g = 4)
  else if s.op = 4 ∨ s.op = 5 ∨ s.op = 7 ∨ s.op = 8 ∨ s.op = 9 ∨ s.op = 12 ∨ s.op = 13 ∨ s.op = 14 ∨ s.op = 15 then decide (g = 4 ∨ g = s.to)
  else if s.op = 10 ∨ s.op = 11 then decide (g = s.to ∨ g = 4 ∧ s.to ≠ 7 ∧ s.to ≠ 8)
  else decide (g = s.to)
def cycT (c : Cyc) (g : Int) : Bool := decide (c.bus = 1 ∧ c.reg = g ∨ g = 3 ∧ c.bus ≠ 0 ∧ (c.at_ = 4 ∨ c.at_ = 5))
def oneT (c : Cyc) (g : Int) : Bool := cycT c g || c.steps.any fun s => touchM s g
def touchesM (l : List Cyc) (g : Int) : Bool := l.any fun c => oneT c g
theorem upd_ne {r : Nat → Int} {k i : Nat} {v : Int} (h : i ≠ k) : upd r k v i = r i := if_neg h
theorem nz_ne {r : Nat → Int} {i : Nat} {n : Int} (h : i ≠ 4) : nzR r n i = r i := by unfold nzR flagR; rw [upd_ne h, upd_ne h]
theorem res_ne {r : Nat → Int} {t i : Nat} {n c : Int} (h : i ≠ t) (h4 : i ≠ 4) : resR r t n c i = r i := by unfold resR flagR; rw [upd_ne h, upd_ne h4, nz_ne h4]
theorem mid_keep (d : Int) (t f : Nat) (n : Int) (q : Nat → Int) (g : Nat) (hA : ¬ (d = 0 ∨ d = 24 ∨ d = 3 ∨ d = 6 ∨ d = 16 ∨ d = 17) → g ≠ t)
    (hB : d = 3 ∨ d = 6 ∨ d = 16 ∨ d = 17 ∨ d = 4 ∨ d = 5 ∨ d = 7 ∨ d = 8 ∨ d = 9 ∨ d = 12 ∨ d = 13 ∨ d = 14 ∨ d = 15 → g ≠ 4) (hC : d = 10 ∨ d = 11 → g ≠ 4 ∨ t = 7 ∨ t = 8) : midR d t f n q g = q g := by
  unfold midR
  by_cases h1 : d = 1
  · rw [if_pos h1]; exact upd_ne (hA (by omega))
  rw [if_neg h1]
  by_cases h2 : d = 2
  · rw [if_pos h2]; exact upd_ne (hA (by omega))
  rw [if_neg h2]
  by_cases h3 : d = 3
  · rw [if_pos h3]; exact nz_ne (hB (by omega))
  rw [if_neg h3]
  by_cases h5 : 4 ≤ d ∧ d ≤ 9
  · rw [if_pos h5]
    have h4 := hB (by omega)
    unfold binR
    dsimp only
    by_cases k1 : d = 4
    · rw [if_pos k1]; exact res_ne (hA (by omega)) h4
    rw [if_neg k1]
    by_cases k2 : d = 5
    · rw [if_pos k2]; exact res_ne (hA (by omega)) h4
    rw [if_neg k2]
    by_cases k3 : d = 6
    · rw [if_pos k3]; unfold flagR; rw [upd_ne h4, nz_ne h4]
    · rw [if_neg k3, upd_ne (hA (by omega)), nz_ne h4]
  rw [if_neg h5]
  by_cases h6 : d = 10 ∨ d = 11
  · rw [if_pos h6]
    rw [upd_ne (hA (by omega))]
    by_cases k1 : t = 7 ∨ t = 8
    · rw [if_pos k1]
    · rw [if_neg k1]
      rcases hC h6 with h | h
      · exact nz_ne h
      · exact absurd h k1
  rw [if_neg h6]
  by_cases h7 : 12 ≤ d ∧ d ≤ 15
  · rw [if_pos h7]
    have h4 := hB (by omega)
    unfold shiftR
    split <;> exact res_ne (hA (by omega)) h4
  rw [if_neg h7]
  by_cases h8 : d = 16 ∨ d = 17
  · rw [if_pos h8]; unfold flagR; exact upd_ne (hB (by omega))
  rw [if_neg h8]
  by_cases g1 : d = 18
  · rw [if_pos g1]; exact upd_ne (hA (by omega))
  rw [if_neg g1]
  by_cases g2 : d = 19
  · rw [if_pos g2]; exact upd_ne (hA (by omega))
  rw [if_neg g2]
  by_cases g3 : d = 20
  · rw [if_pos g3]; exact upd_ne (hA (by omega))
  rw [if_neg g3]
  by_cases g4 : d = 21
  · rw [if_pos g4]; exact upd_ne (hA (by omega))
  rw [if_neg g4]
  by_cases g5 : d = 22
  · rw [if_pos g5]; exact upd_ne (hA (by omega))
  rw [if_neg g5]
  by_cases g6 : d = 23
  · rw [if_pos g6]; exact upd_ne (hA (by omega))
  rw [if_neg g6]
theorem fitN_by {g : Nat} (hg : g < 5) {v : Int} (hv : By v) : fitN g v = v := fitN8 (by omega) (by omega) hv
theorem do_keep (s : Stp) (r : Nat → Int) (g : Nat) (v : Int) (hg : g < 5) (hv : By v) (hr : r g = v) (ht : 0 ≤ s.to ∧ s.to < 9) (h : touchM s g = false) : (doR s.op s.to s.fr s.n r).1 g = v := by
  obtain ⟨d, t, f, n⟩ := s
  dsimp only at ht ⊢
  have e1 : fitR r g = v := by show fitN g (r g) = v; rw [hr]; exact fitN_by hg hv
  unfold doR
  split
  · exact e1
  · rename_i h24
    have hx : (ixR t : Int) = t := by have := ixR_cast t; omega
    show fitN g (midR d (ixR t) (ixR f) n (fitR r) g) = v
    unfold touchM at h
    dsimp only at h
    rw [mid_keep d _ _ _ _ g, e1]
    · exact fitN_by hg hv
    · intro h1 h2
      rw [if_neg (by omega), if_neg (by omega)] at h
      split at h
      · simp at h; omega
      split at h
      · simp at h; omega
      · simp at h; omega
    · intro h1 h2
      by_cases hz : d = 3 ∨ d = 6 ∨ d = 16 ∨ d = 17
      · rw [if_neg (by omega), if_pos hz] at h; simp at h; omega
      · rw [if_neg (by omega), if_neg hz, if_pos (by omega)] at h; simp at h; omega
    · intro h1
      rw [if_neg (by omega), if_neg (by omega), if_neg (by omega), if_pos h1] at h
      simp at h
      omega
theorem steps_keep (g : Nat) (v : Int) (hg : g < 5) (hv : By v) : ∀ (l : List Stp) (r : Nat → Int), r g = v → (∀ s ∈ l, 0 ≤ s.to ∧ s.to < 9) → (∀ s ∈ l, touchM s g = false) → (stepsM l r).1 g = v := by
  intro l
  induction l with
  | nil => intro r hr _ _; exact hr
  | cons s l ih =>
    intro r hr h1 h2
    have hd := do_keep s r g v hg hv hr (h1 s (List.mem_cons_self ..)) (h2 s (List.mem_cons_self ..))
    unfold stepsM
    split
    · exact hd
    · exact ih _ hd (fun s hs => h1 s (List.mem_cons_of_mem _ hs)) (fun s hs => h2 s (List.mem_cons_of_mem _ hs))
theorem place_keep (a : Int) (r : Nat → Int) (g : Nat) (hg : g < 5) (h : ¬ (g = 3 ∧ (a = 4 ∨ a = 5))) : (placeM a r).2 g = r g := by
  unfold placeM
  split
  · exact upd_ne (by omega)
  split
  · rfl
  split
  · rfl
  split
  · rfl
  split
  · exact upd_ne (by omega)
  split
  · exact upd_ne (by omega)
  split <;> rfl
theorem cycle_keep (c : Cpu) (k : Core) (f : Nat → Int) (g : Nat) (v : Int) (hg : g < 5) (hv : By v) (hr : k.r g = v) (x : Cyc) (ho : k.op ≠ -1) (hd : doingM c k.op k.a = some x) (hx : ∀ s ∈ x.steps, 0 ≤ s.to ∧ s.to < 9) (h : oneT x g = false) : (cycleM c k false f).1.r g = v := by
  obtain ⟨r, op, a, nmi⟩ := k
  dsimp only at hr ho hd ⊢
  unfold oneT at h
  rw [Bool.or_eq_false_iff] at h
  obtain ⟨h1, h2⟩ := h
  have h2 : ∀ s ∈ x.steps, touchM s g = false := by
    intro s hs
    have := List.any_eq_false.1 h2 s hs
    simpa using this
  have h1 : ¬ (x.bus = 1 ∧ x.reg = (g : Int) ∨ (g : Int) = 3 ∧ x.bus ≠ 0 ∧ (x.at_ = 4 ∨ x.at_ = 5)) := by
    intro hh
    unfold cycT at h1
    rw [decide_eq_true hh] at h1
    cases h1
  have e1 : fitR r g = v := by show fitN g (r g) = v; rw [hr]; exact fitN_by hg hv
  have hask : (askM c ⟨r, op, a, nmi⟩ false).1.r g = v ∧ (askM c ⟨r, op, a, nmi⟩ false).1.op = op ∧ (askM c ⟨r, op, a, nmi⟩ false).1.a = a := by
    unfold askM askA
    dsimp only
    rw [if_neg ho]
    unfold askB
    dsimp only
    rw [if_neg ho, hd]
    dsimp only
    split
    · exact ⟨e1, rfl, rfl⟩
    · refine ⟨?_, rfl, rfl⟩
      dsimp only
      rw [place_keep _ _ g hg (by omega)]
      exact e1
  have htell : ∀ (k2 : Core) (dt : Int), k2.r g = v → k2.op = op → k2.a = a → (tellM c k2 dt).r g = v := by
    rintro ⟨r2, op2, a2, n2⟩ dt h3 h4 h5
    dsimp only at h3 h4 h5
    subst h4 h5
    have e2 : fitR r2 g = v := by show fitN g (r2 g) = v; rw [h3]; exact fitN_by hg hv
    unfold tellM
    dsimp only
    rw [if_neg ho]
    unfold tellB
    dsimp only
    rw [hd]
    dsimp only
    have hreg : regM x (fitR r2) (dt % 256) g = v := by
      unfold regM
      split
      · rw [upd_ne (by omega)]; exact e2
      · exact e2
    have hs := steps_keep g v hg hv x.steps _ hreg hx h2
    split <;> exact hs
  unfold cycleM
  split
  · exact htell _ _ hask.1 hask.2.1 hask.2.2
  · split
    · exact htell _ _ hask.1 hask.2.1 hask.2.2
    · exact htell _ _ hask.1 hask.2.1 hask.2.2
theorem runFrom_keep (c : Cpu) (l : List Cyc) (g : Nat) (v : Int) (hg : g < 5) (hv : By v) (hx : ∀ x ∈ l, ∀ s ∈ x.steps, 0 ≤ s.to ∧ s.to < 9) (hT : touchesM l g = false) : ∀ (n : Nat) (k : Core) (bs : List Bus) (f : Nat → Int) (j : Nat), 0 ≤ k.op ∧ k.op ≤ 255 → cycM c k.op = l → k.a = j → j < l.length → k.r g = v → (runFrom c n k bs f).1.r g = v := by
  intro n
  induction n with
  | zero => intro k bs f j ho hl ha hj hr; exact hr
  | succ n ih =>
    intro k bs f j ho hl ha hj hr
    have hc := cycle_in c k f l[j] l j ho hl ha (List.getElem?_eq_getElem hj)
    have hd : doingM c k.op k.a = some l[j] := by
      unfold doingM
      rw [if_neg (by omega), hl, ha, Int.toNat_natCast, List.getElem?_eq_getElem hj]
    have hT1 : oneT l[j] g = false := by
      have := List.any_eq_false.1 hT l[j] (List.getElem_mem hj)
      simpa using this
    have hk := cycle_keep c k f g v hg hv hr l[j] (by omega) hd (hx _ (List.getElem_mem hj)) hT1
    unfold runFrom
    rcases hc with ⟨h1, h2⟩ | ⟨h1, h2, h3⟩
    · rw [if_pos (.inl h1)]; exact hk
    · rw [if_neg (by rw [h1]; omega)]
      exact ih _ _ _ (j + 1) (by rw [h1]; exact ho) (by rw [h1]; exact hl) h2 h3 hk
theorem std_to : ∀ x ∈ stdM.ins, ∀ c ∈ x.cy, ∀ s ∈ c.steps, 0 ≤ s.to ∧ s.to < 9 := by decide +kernel
theorem fetch_keep (r : Nat → Int) (f : Nat → Int) (g : Nat) (v : Int) (hg : g < 5) (hv : By v) (hr : r g = v) : (cycleM stdM ⟨r, -1, 0, false⟩ false f).1.r g = v := by
  have e1 : fitR r g = v := by show fitN g (r g) = v; rw [hr]; exact fitN_by hg hv
  have hst : startM stdM ⟨fitR r, -1, 0, false⟩ false = ⟨fitR r, -1, 0, false⟩ := by
    unfold startM; rw [if_neg (by simp), if_neg (by simp)]
  have hask : askM stdM ⟨r, -1, 0, false⟩ false = (⟨(placeM 0 (fitR r)).2, -1, 0, false⟩, ⟨1, (placeM 0 (fitR r)).1, 0⟩) := by
    unfold askM askA
    dsimp only
    rw [if_pos rfl, hst]
    unfold askB
    dsimp only
    rw [if_pos rfl]
  have e2 : fitR (placeM 0 (fitR r)).2 g = v := by
    show fitN g ((placeM 0 (fitR r)).2 g) = v
    rw [place_keep _ _ g hg (by omega), e1]; exact fitN_by hg hv
  unfold cycleM
  rw [hask]
  dsimp only
  rw [if_pos rfl]
  unfold tellM
  dsimp only
  rw [if_pos rfl]
  unfold tellA
  split
  · exact e2
  · split <;> exact e2
theorem runKeep (j : Nat) (hj : j < 92) (r : Nat → Int) (f : Nat → Int) (h7 : fitR r 7 = 1024) (hf : f 1024 = (j : Int) + 1) (g : Nat) (hg : g < 5) (hv : By (r g)) (hT : touchesM (stdM.ins.getD j insZ).cy g = false) : (runM stdM ⟨r, -1, 0, false⟩ f).1.r g = r g := by
  obtain ⟨h1, h2, h3, h4⟩ := std_ins j hj
  obtain ⟨r2, hc⟩ := fetch_in j hj r f h7 hf
  have hk := fetch_keep r f g (r g) hg hv rfl
  rw [hc] at hk
  have hcy := cycM_std j hj
  unfold runM runFrom
  rw [hc]
  dsimp only at hk ⊢
  rw [if_neg (by omega)]
  refine runFrom_keep stdM _ g (r g) hg hv ?_ hT 19 ⟨r2, (j : Int) + 1, 0, false⟩ _ f 0 (by dsimp only; omega) hcy rfl h3 hk
  have hl := std_len
  have : stdM.ins.getD j insZ = stdM.ins[j]'(by omega) := by rw [List.getD_eq_getElem?_getD, List.getElem?_eq_getElem (by omega)]; rfl
  rw [this]
  exact std_to _ (List.getElem_mem _)
end Go.Proofs.Ytjmmompbmjhkpaa.Calc

namespace Go.Proofs.Ytjmmompbmjhkpaa.Calc
open Go Code
set_option linter.unusedSimpArgs false
set_option linter.unusedVariables false
set_option maxRecDepth 20000
set_option maxHeartbeats 4000000
attribute [local irreducible] WOpsT AW AK RK AKW UK UC
theorem touch_c (s : Stp) (g : Int) : FnE Try.prog 151 [.agg (stC s), I g] [] (.c (.bool (touchM s g))) [] := by
  obtain ⟨d, t, f, n⟩ := s
  have e : touchM ⟨d, t, f, n⟩ g = true ↔ ¬ (d = 0 ∨ d = 24) ∧ ((d = 3 ∨ d = 6 ∨ d = 16 ∨ d = 17) ∧ g = 4 ∨ ¬ (d = 3 ∨ d = 6 ∨ d = 16 ∨ d = 17) ∧ ((d = 4 ∨ d = 5 ∨ d = 7 ∨ d = 8 ∨ d = 9 ∨ d = 12 ∨ d = 13 ∨ d = 14 ∨ d = 15) ∧ (g = 4 ∨ g = t) ∨ ¬ (d = 4 ∨ d = 5 ∨ d = 7 ∨ d = 8 ∨ d = 9 ∨ d = 12 ∨ d = 13 ∨ d = 14 ∨ d = 15) ∧ ((d = 10 ∨ d = 11) ∧ (g = t ∨ g = 4 ∧ t ≠ 7 ∧ t ≠ 8) ∨ ¬ (d = 10 ∨ d = 11) ∧ g = t))) := by
    unfold touchM
    dsimp only
    by_cases h1 : d = 0 ∨ d = 24
    · rw [if_pos h1]; simp [h1]
    rw [if_neg h1]
    by_cases h2 : d = 3 ∨ d = 6 ∨ d = 16 ∨ d = 17
    · rw [if_pos h2, decide_eq_true_eq]; constructor
      · intro h; exact ⟨h1, .inl ⟨h2, h⟩⟩
      · rintro ⟨_, ⟨_, h⟩ | ⟨h, _⟩⟩
        · exact h
        · exact absurd h2 h
    rw [if_neg h2]
    by_cases h3 : d = 4 ∨ d = 5 ∨ d = 7 ∨ d = 8 ∨ d = 9 ∨ d = 12 ∨ d = 13 ∨ d = 14 ∨ d = 15
    · rw [if_pos h3, decide_eq_true_eq]; constructor
      · intro h; exact ⟨h1, .inr ⟨h2, .inl ⟨h3, h⟩⟩⟩
      · rintro ⟨_, ⟨h, _⟩ | ⟨_, ⟨_, h⟩ | ⟨h, _⟩⟩⟩
        · exact absurd h h2
        · exact h
        · exact absurd h3 h
    rw [if_neg h3]
    by_cases h4 : d = 10 ∨ d = 11
    · rw [if_pos h4, decide_eq_true_eq]; constructor
      · intro h; exact ⟨h1, .inr ⟨h2, .inr ⟨h3, .inl ⟨h4, h⟩⟩⟩⟩
      · rintro ⟨_, ⟨h, _⟩ | ⟨_, ⟨h, _⟩ | ⟨_, ⟨_, h⟩ | ⟨h, _⟩⟩⟩⟩
        · exact absurd h h2
        · exact absurd h h3
        · exact h
        · exact absurd h4 h
    · rw [if_neg h4, decide_eq_true_eq]; constructor
      · intro h; exact ⟨h1, .inr ⟨h2, .inr ⟨h3, .inr ⟨h4, h⟩⟩⟩⟩
      · rintro ⟨_, ⟨h, _⟩ | ⟨_, ⟨h, _⟩ | ⟨_, ⟨h, _⟩ | ⟨_, h⟩⟩⟩⟩
        · exact absurd h h2
        · exact absurd h h3
        · exact absurd h h4
        · exact h
  generalize touchM ⟨d, t, f, n⟩ g = b at *
  refine N.fn Try.func151 k151 lb q151 fun Q hQ hQN => ?_
  rw [c151]
  repeat' (first
    | refine N.regS fun K hK => ?_
    | refine N.dregS fun K hK => ?_
    | refine N.regN fun K hK => ?_
    | refine N.dregN fun K hK => ?_
    | simp only [T.mv, sm, AO.ev, put, lk, enter, reduceIte, Nat.reduceEqDiff, Nat.reduceAdd, Nat.reduceMul, Nat.reduceSub, Int.reduceNeg, Int.reduceToNat, upto, renB, setAll]
    | (refine T.nil ?_; (first | refine hK _ _ _ (by rfl) ?_ | refine hK _ _ _ ?_); (try simp only [keep, List.map, lk, reduceIte, Nat.reduceEqDiff, enter]); clear hK K)
    | (show WOpsT _ (⟨_, .ld _ _, none⟩ :: _) _ _ _ _; first | refine L.ld ?_ | refine L.ldd ?_)
    | (show WOpsT _ (⟨_, .bin _ _ _, none⟩ :: _) _ _ _ _; first | refine L.bin ?_)
    | (show WOpsT _ (⟨_, _, some (_, true)⟩ :: _) _ _ _ _; first | refine L.goT ?_ | refine L.paT ?_ | refine L.go ?_ | refine L.pass ?_ | refine T.pU rfl ?_ | refine T.gT rfl (fun hgd => ?_) (fun hgd => ?_))
    | (show WOpsT _ (⟨_, _, some (_, false)⟩ :: _) _ _ _ _; first | refine L.goF ?_ | refine L.paF ?_ | refine L.go ?_ | refine L.pass ?_ | refine T.pU rfl ?_ | refine T.gF rfl (fun hgd => ?_) (fun hgd => ?_))
    | (show WOpsT _ (⟨_, .pick _ _ _, none⟩ :: _) _ _ _ _; first | refine L.pkT ?_ | refine L.pkF ?_ | refine L.pickT ?_ | refine L.pickF ?_ | refine L.pickB ?_ | refine T.pkD rfl (fun hgd => ?_) (fun hgd => ?_))
    | (show AKW _ _ _ _ _ _ _; first | refine N.now ?_)
    | (show AK _ _ (.cond _ _ _) _ _ _ _; first | refine N.c1 ?_ | refine N.c2 ?_ | refine N.c3 ?_ | refine N.c4 ?_ | refine N.condD rfl (fun hcd => ?_) (fun hcd => ?_) | refine N.condB rfl (fun hcd => ?_) (fun hcd => ?_) | refine N.condU rfl ?_ ?_)
    | (show AK _ _ _ _ _ _ _; first | refine N.seq ?_ | refine N.block ?_ | refine N.skip ?_ | refine N.ret ?_)
    | (show RK _ _ _ _ _ _ _; simp only [rk, rk0, reduceIte, Nat.reduceEqDiff])
    | (show WOpsT _ _ _ _ _ _; first | refine L.fad ?_ | refine L.fadd ?_ | refine L.new ?_)
    | refine hQ _ _ _ rfl ?_
    | refine hQN _ _ _ rfl ?_)
  all_goals first
    | (refine WS.bool rfl ?_; rw [e]; simp only [decide_eq_true_eq, Bool.false_eq_true, true_iff, false_iff, iff_true, iff_false]; omega)
    | (exfalso; omega)
theorem touches_at (l : List Cyc) (g : Int) (i : Nat) (hi : i < l.length) (h : oneT l[i] g = true) : touchesM l g = true := List.any_eq_true.2 ⟨_, List.getElem_mem hi, h⟩
theorem touches_no (l : List Cyc) (g : Int) (h : ∀ j, ∀ hj : j < l.length, oneT l[j] g = false) : touchesM l g = false := List.any_eq_false.2 fun x hx => by
  obtain ⟨j, hj, rfl⟩ := List.getElem_of_mem hx
  rw [h j hj]; decide
theorem touches_c (x : Ins) (hx : SmlC x.cy) (g : Int) : FnE Try.prog 87 [.agg (inC x), I g] [] (.c (.bool (touchesM x.cy g))) [] := by
  obtain ⟨o, s, m, l⟩ := x
  obtain ⟨h1, h2⟩ := hx
  dsimp only at h1 h2 ⊢
  refine N.fn Try.func87 k87 lb q87 fun Q hQ hQN => ?_
  rw [c87]
  repeat' (first
    | rw [List.length_map]
    | refine N.regS fun K hK => ?_
    | refine N.dregS fun K hK => ?_
    | refine N.regN fun K hK => ?_
    | refine N.dregN fun K hK => ?_
    | simp only [T.mv, sm, AO.ev, put, lk, enter, reduceIte, Nat.reduceEqDiff, Nat.reduceAdd, Nat.reduceMul, Nat.reduceSub, Int.reduceNeg, Int.reduceToNat, upto, renB, setAll]
    | (refine T.nil ?_; (first | refine hK _ _ _ (by rfl) ?_ | refine hK _ _ _ ?_); (try simp only [keep, List.map, lk, reduceIte, Nat.reduceEqDiff, enter]); clear hK K)
    | (show WOpsT _ (⟨_, .ld _ _, none⟩ :: _) _ _ _ _; first | refine L.ld ?_ | refine L.ldd ?_ | refine L.ldn ?_ | refine L.lddn ?_)
    | (show WOpsT _ (⟨_, .idx _ _ _ _, none⟩ :: _) _ _ _ _; first | refine L.idx ?_ | refine L.idxs ?_)
    | (show WOpsT _ (⟨_, .bin _ _ _, none⟩ :: _) _ _ _ _; first | refine L.add ?_ | refine L.bin ?_)
    | (show WOpsT _ (⟨_, _, some (_, true)⟩ :: _) _ _ _ _; first | refine L.goT ?_ | refine L.paT ?_ | refine L.go ?_ | refine L.pass ?_ | refine T.pU rfl ?_ | refine T.gT rfl (fun hgd => ?_) (fun hgd => ?_))
    | (show WOpsT _ (⟨_, _, some (_, false)⟩ :: _) _ _ _ _; first | refine L.goF ?_ | refine L.paF ?_ | refine L.go ?_ | refine L.pass ?_ | refine T.pU rfl ?_ | refine T.gF rfl (fun hgd => ?_) (fun hgd => ?_))
    | (show WOpsT _ (⟨_, .pick _ _ _, none⟩ :: _) _ _ _ _; first | refine L.pkT ?_ | refine L.pkF ?_ | refine L.pickT ?_ | refine L.pickF ?_ | refine L.pickB ?_ | refine T.pkD rfl (fun hgd => ?_) (fun hgd => ?_))
    | (show AKW _ _ _ _ _ _ _; first | refine N.now ?_)
    | (show AK _ _ (.cond _ _ _) _ _ _ _; first | refine N.c1 ?_ | refine N.c2 ?_ | refine N.c3 ?_ | refine N.c4 ?_ | refine N.condD rfl (fun hcd => ?_) (fun hcd => ?_) | refine N.condB rfl (fun hcd => ?_) (fun hcd => ?_) | refine N.condU rfl ?_ ?_)
    | (show AK _ _ _ _ _ _ _; first | refine N.seq ?_ | refine N.block ?_ | refine N.skip ?_ | refine N.exit ?_ | refine N.ret ?_)
    | (show RK _ _ _ _ _ _ _; simp only [rk, rk0, reduceIte, Nat.reduceEqDiff])
    | (show WOpsT _ _ _ _ _ _; first | refine L.fad ?_ | refine L.fadd ?_ | refine L.st ?_ | refine L.new ?_ | refine L.zero ?_ | refine L.len ?_ | refine L.lenS ?_ | refine L.lenN ?_)
    | refine hQ _ _ _ rfl ?_
    | refine hQN _ _ _ rfl ?_)
  refine N.loop (σ := Nat) (fun i => [(1, I g), (10, .sl 4 (l.map cyC)), (11, I l.length), (12, I i)]) (fun i => []) (fun i => i ≤ l.length ∧ ∀ j, j < i → ∀ hj : j < l.length, oneT l[j] g = false) (fun i => l.length - i) 0 ⟨by omega, fun j hj => absurd hj (by omega)⟩ (Weaks.gc [] 1 rfl (by repeat (first | exact trivial | refine ⟨.rfl, ?_⟩ | refine ⟨.any, ?_⟩)) (by first | rfl | (symm; unfold outH; simp only [List.map]; (repeat' (first | rfl | exact outB_bytes | exact outB_ints | exact outB_flat | refine consE ?_ ?_)); done))) fun i hi R hC => ?_
  obtain ⟨hi, hn⟩ := hi
  by_cases hil : i < l.length
  · have hm := mget cyC l i hil
    have hs6 := h2 _ (List.getElem_mem hil)
    have hat := touches_at l g i hil
    have hnx : oneT l[i] g = false → ∀ j, j < i + 1 → ∀ hj : j < l.length, oneT l[j] g = false := by
      intro h j hj hjl
      by_cases hji : j = i
      · subst hji; exact h
      · exact hn j (by omega) hjl
    obtain ⟨y, hy⟩ : ∃ y, l[i] = y := ⟨_, rfl⟩
    rw [hy] at hm hs6 hat hnx
    obtain ⟨yb, ya, yr, ss⟩ := y
    dsimp only at hs6
    by_cases hc : yb = 1 ∧ yr = g ∨ g = 3 ∧ yb ≠ 0 ∧ (ya = 4 ∨ ya = 5)
    · rw [hat (by unfold oneT cycT; rw [decide_eq_true hc]; rfl)] at hQ hQN
      repeat' (first
        | (show WOpsT _ (⟨_, .idx _ _ _ _, none⟩ :: _) _ _ _ _; refine T.idxs rfl rfl rfl (by omega) hm ?_)
        | rw [List.length_map]
        | refine N.regS fun K hK => ?_
        | refine N.dregS fun K hK => ?_
        | refine N.regN fun K hK => ?_
        | refine N.dregN fun K hK => ?_
        | simp only [T.mv, sm, AO.ev, put, lk, enter, reduceIte, Nat.reduceEqDiff, Nat.reduceAdd, Nat.reduceMul, Nat.reduceSub, Int.reduceNeg, Int.reduceToNat, upto, renB, setAll]
        | (refine T.nil ?_; (first | refine hK _ _ _ (by rfl) ?_ | refine hK _ _ _ ?_); (try simp only [keep, List.map, lk, reduceIte, Nat.reduceEqDiff, enter]); clear hK K)
        | (show WOpsT _ (⟨_, .ld _ _, none⟩ :: _) _ _ _ _; first | refine L.ld ?_ | refine L.ldd ?_ | refine L.ldn ?_ | refine L.lddn ?_)
        | (show WOpsT _ (⟨_, .idx _ _ _ _, none⟩ :: _) _ _ _ _; first | refine L.idx ?_ | refine L.idxs ?_)
        | (show WOpsT _ (⟨_, .bin _ _ _, none⟩ :: _) _ _ _ _; first | refine L.add ?_ | refine L.bin ?_)
        | (show WOpsT _ (⟨_, _, some (_, true)⟩ :: _) _ _ _ _; first | refine L.goT ?_ | refine L.paT ?_ | refine L.go ?_ | refine L.pass ?_ | refine T.pU rfl ?_ | refine T.gT rfl (fun hgd => ?_) (fun hgd => ?_))
        | (show WOpsT _ (⟨_, _, some (_, false)⟩ :: _) _ _ _ _; first | refine L.goF ?_ | refine L.paF ?_ | refine L.go ?_ | refine L.pass ?_ | refine T.pU rfl ?_ | refine T.gF rfl (fun hgd => ?_) (fun hgd => ?_))
        | (show WOpsT _ (⟨_, .pick _ _ _, none⟩ :: _) _ _ _ _; first | refine L.pkT ?_ | refine L.pkF ?_ | refine L.pickT ?_ | refine L.pickF ?_ | refine L.pickB ?_ | refine T.pkD rfl (fun hgd => ?_) (fun hgd => ?_))
        | (show AKW _ _ _ _ _ _ _; first | refine N.now ?_)
        | (show AK _ _ (.cond _ _ _) _ _ _ _; first | refine N.c1 ?_ | refine N.c2 ?_ | refine N.c3 ?_ | refine N.c4 ?_ | refine N.condD rfl (fun hcd => ?_) (fun hcd => ?_) | refine N.condB rfl (fun hcd => ?_) (fun hcd => ?_) | refine N.condU rfl ?_ ?_)
        | (show AK _ _ _ _ _ _ _; first | refine N.seq ?_ | refine N.block ?_ | refine N.skip ?_ | refine N.exit ?_ | refine N.ret ?_)
        | (show RK _ _ _ _ _ _ _; simp only [rk, rk0, reduceIte, Nat.reduceEqDiff])
        | (show WOpsT _ _ _ _ _ _; first | refine L.fad ?_ | refine L.fadd ?_ | refine L.st ?_ | refine L.new ?_ | refine L.zero ?_ | refine L.len ?_ | refine L.lenS ?_ | refine L.lenN ?_)
        | refine hQ _ _ _ rfl ?_
        | refine hQN _ _ _ rfl ?_)
      all_goals first
        | exact WS.c rfl rfl
        | (exfalso; omega)
    · have hc2 : cycT ⟨yb, ya, yr, ss⟩ g = false := by unfold cycT; exact decide_eq_false hc
      repeat' (first
        | (show WOpsT _ (⟨_, .idx _ _ _ _, none⟩ :: _) _ _ _ _; refine T.idxs rfl rfl rfl (by omega) hm ?_)
        | rw [List.length_map]
        | refine N.regS fun K hK => ?_
        | refine N.dregS fun K hK => ?_
        | refine N.regN fun K hK => ?_
        | refine N.dregN fun K hK => ?_
        | simp only [T.mv, sm, AO.ev, put, lk, enter, reduceIte, Nat.reduceEqDiff, Nat.reduceAdd, Nat.reduceMul, Nat.reduceSub, Int.reduceNeg, Int.reduceToNat, upto, renB, setAll]
        | (refine T.nil ?_; (first | refine hK _ _ _ (by rfl) ?_ | refine hK _ _ _ ?_); (try simp only [keep, List.map, lk, reduceIte, Nat.reduceEqDiff, enter]); clear hK K)
        | (show WOpsT _ (⟨_, .ld _ _, none⟩ :: _) _ _ _ _; first | refine L.ld ?_ | refine L.ldd ?_ | refine L.ldn ?_ | refine L.lddn ?_)
        | (show WOpsT _ (⟨_, .idx _ _ _ _, none⟩ :: _) _ _ _ _; first | refine L.idx ?_ | refine L.idxs ?_)
        | (show WOpsT _ (⟨_, .bin _ _ _, none⟩ :: _) _ _ _ _; first | refine L.add ?_ | refine L.bin ?_)
        | (show WOpsT _ (⟨_, _, some (_, true)⟩ :: _) _ _ _ _; first | refine L.goT ?_ | refine L.paT ?_ | refine L.go ?_ | refine L.pass ?_ | refine T.pU rfl ?_ | refine T.gT rfl (fun hgd => ?_) (fun hgd => ?_))
        | (show WOpsT _ (⟨_, _, some (_, false)⟩ :: _) _ _ _ _; first | refine L.goF ?_ | refine L.paF ?_ | refine L.go ?_ | refine L.pass ?_ | refine T.pU rfl ?_ | refine T.gF rfl (fun hgd => ?_) (fun hgd => ?_))
        | (show WOpsT _ (⟨_, .pick _ _ _, none⟩ :: _) _ _ _ _; first | refine L.pkT ?_ | refine L.pkF ?_ | refine L.pickT ?_ | refine L.pickF ?_ | refine L.pickB ?_ | refine T.pkD rfl (fun hgd => ?_) (fun hgd => ?_))
        | (show AKW _ _ _ _ _ _ _; first | refine N.now ?_)
        | (show AK _ _ (.cond _ _ _) _ _ _ _; first | refine N.c1 ?_ | refine N.c2 ?_ | refine N.c3 ?_ | refine N.c4 ?_ | refine N.condD rfl (fun hcd => ?_) (fun hcd => ?_) | refine N.condB rfl (fun hcd => ?_) (fun hcd => ?_) | refine N.condU rfl ?_ ?_)
        | (show AK _ _ _ _ _ _ _; first | refine N.seq ?_ | refine N.block ?_ | refine N.skip ?_ | refine N.exit ?_ | refine N.ret ?_)
        | (show RK _ _ _ _ _ _ _; simp only [rk, rk0, reduceIte, Nat.reduceEqDiff])
        | (show WOpsT _ _ _ _ _ _; first | refine L.fad ?_ | refine L.fadd ?_ | refine L.st ?_ | refine L.new ?_ | refine L.zero ?_ | refine L.len ?_ | refine L.lenS ?_ | refine L.lenN ?_)
        | refine hQ _ _ _ rfl ?_
        | refine hQN _ _ _ rfl ?_)
      all_goals first
        | (exfalso; omega)
        | skip
      all_goals
        refine N.loop (σ := Nat) (fun j => [(1, I g), (10, .sl 4 (l.map cyC)), (11, I l.length), (12, I i), (45, .sl 4 (ss.map stC)), (46, I ss.length), (47, I j)]) (fun i => []) (fun j => j ≤ ss.length ∧ ∀ q, q < j → ∀ hq : q < ss.length, touchM ss[q] g = false) (fun j => ss.length - j) 0 ⟨by omega, fun j hj => absurd hj (by omega)⟩ (Weaks.gc [] 1 rfl (by repeat (first | exact trivial | refine ⟨.rfl, ?_⟩ | refine ⟨.any, ?_⟩)) (by first | rfl | (symm; unfold outH; simp only [List.map]; (repeat' (first | rfl | exact outB_bytes | exact outB_ints | exact outB_flat | refine consE ?_ ?_)); done))) fun j hj R2 hC2 => ?_
        obtain ⟨hj, hjn⟩ := hj
        by_cases hjl : j < ss.length
        · have hms := mget stC ss j hjl
          have ht := touch_c ss[j] g
          obtain ⟨b, hb⟩ : ∃ b, touchM ss[j] g = b := ⟨_, rfl⟩
          rw [hb] at ht
          cases b
          · skip
            repeat' (first
              | (show WOpsT _ (⟨_, .idx _ _ _ _, none⟩ :: _) _ _ _ _; refine T.idxs rfl rfl rfl (by omega) hms ?_)
              | refine N.regS fun K hK => ?_
              | refine N.dregS fun K hK => ?_
              | refine N.regN fun K hK => ?_
              | refine N.dregN fun K hK => ?_
              | simp only [T.mv, sm, AO.ev, put, lk, enter, reduceIte, Nat.reduceEqDiff, Nat.reduceAdd, Nat.reduceMul, Nat.reduceSub, Int.reduceNeg, Int.reduceToNat, upto, renB, setAll]
              | (refine T.nil ?_; (first | refine hK _ _ _ (by rfl) ?_ | refine hK _ _ _ ?_); (try simp only [keep, List.map, lk, reduceIte, Nat.reduceEqDiff, enter]); clear hK K)
              | (show WOpsT _ (⟨_, .call _ _, none⟩ :: _) _ _ _ _; first | refine T.call0 e151 rfl (ht) ?_)
              | (show WOpsT _ (⟨_, .ld _ _, none⟩ :: _) _ _ _ _; first | refine L.ld ?_ | refine L.ldd ?_ | refine L.ldn ?_ | refine L.lddn ?_)
              | (show WOpsT _ (⟨_, .idx _ _ _ _, none⟩ :: _) _ _ _ _; first | refine L.idx ?_ | refine L.idxs ?_)
              | (show WOpsT _ (⟨_, .bin _ _ _, none⟩ :: _) _ _ _ _; first | refine L.add ?_ | refine L.bin ?_)
              | (show WOpsT _ (⟨_, _, some (_, true)⟩ :: _) _ _ _ _; first | refine L.goT ?_ | refine L.paT ?_ | refine L.go ?_ | refine L.pass ?_ | refine T.pU rfl ?_ | refine T.gT rfl (fun hgd => ?_) (fun hgd => ?_))
              | (show WOpsT _ (⟨_, _, some (_, false)⟩ :: _) _ _ _ _; first | refine L.goF ?_ | refine L.paF ?_ | refine L.go ?_ | refine L.pass ?_ | refine T.pU rfl ?_ | refine T.gF rfl (fun hgd => ?_) (fun hgd => ?_))
              | (show WOpsT _ (⟨_, .pick _ _ _, none⟩ :: _) _ _ _ _; first | refine L.pkT ?_ | refine L.pkF ?_ | refine L.pickT ?_ | refine L.pickF ?_ | refine L.pickB ?_ | refine T.pkD rfl (fun hgd => ?_) (fun hgd => ?_))
              | (show AKW _ _ _ _ _ _ _; first | refine N.now ?_)
              | (show AK _ _ (.cond _ _ _) _ _ _ _; first | refine N.c1 ?_ | refine N.c2 ?_ | refine N.c3 ?_ | refine N.c4 ?_ | refine N.condD rfl (fun hcd => ?_) (fun hcd => ?_) | refine N.condB rfl (fun hcd => ?_) (fun hcd => ?_) | refine N.condU rfl ?_ ?_)
              | (show AK _ _ _ _ _ _ _; first | refine N.seq ?_ | refine N.block ?_ | refine N.skip ?_ | refine N.exit ?_ | refine N.ret ?_)
              | (show RK _ _ _ _ _ _ _; simp only [rk, rk0, reduceIte, Nat.reduceEqDiff])
              | (show WOpsT _ _ _ _ _ _; first | refine L.fad ?_ | refine L.fadd ?_ | refine L.st ?_ | refine L.new ?_ | refine L.zero ?_ | refine L.len ?_ | refine L.lenS ?_ | refine L.lenN ?_)
              | refine hQ _ _ _ rfl ?_
              | refine hQN _ _ _ rfl ?_)
            refine hC2 _ _ (j + 1) ⟨by omega, fun q hq hql => ?_⟩ (by omega) (Weaks.gc [] 1 rfl (by repeat (first | exact trivial | refine ⟨.rfl, ?_⟩ | refine ⟨.any, ?_⟩)) (by first | rfl | (symm; unfold outH; simp only [List.map]; (repeat' (first | rfl | exact outB_bytes | exact outB_ints | exact outB_flat | refine consE ?_ ?_)); done)))
            by_cases hqj : q = j
            · subst hqj; exact hb
            · exact hjn q (by omega) hql
          · rw [hat (by unfold oneT; rw [List.any_eq_true.2 ⟨_, List.getElem_mem hjl, hb⟩, Bool.or_true])] at hQ hQN
            repeat' (first
              | (show WOpsT _ (⟨_, .idx _ _ _ _, none⟩ :: _) _ _ _ _; refine T.idxs rfl rfl rfl (by omega) hms ?_)
              | refine N.regS fun K hK => ?_
              | refine N.dregS fun K hK => ?_
              | refine N.regN fun K hK => ?_
              | refine N.dregN fun K hK => ?_
              | simp only [T.mv, sm, AO.ev, put, lk, enter, reduceIte, Nat.reduceEqDiff, Nat.reduceAdd, Nat.reduceMul, Nat.reduceSub, Int.reduceNeg, Int.reduceToNat, upto, renB, setAll]
              | (refine T.nil ?_; (first | refine hK _ _ _ (by rfl) ?_ | refine hK _ _ _ ?_); (try simp only [keep, List.map, lk, reduceIte, Nat.reduceEqDiff, enter]); clear hK K)
              | (show WOpsT _ (⟨_, .call _ _, none⟩ :: _) _ _ _ _; first | refine T.call0 e151 rfl (ht) ?_)
              | (show WOpsT _ (⟨_, .ld _ _, none⟩ :: _) _ _ _ _; first | refine L.ld ?_ | refine L.ldd ?_ | refine L.ldn ?_ | refine L.lddn ?_)
              | (show WOpsT _ (⟨_, .idx _ _ _ _, none⟩ :: _) _ _ _ _; first | refine L.idx ?_ | refine L.idxs ?_)
              | (show WOpsT _ (⟨_, .bin _ _ _, none⟩ :: _) _ _ _ _; first | refine L.add ?_ | refine L.bin ?_)
              | (show WOpsT _ (⟨_, _, some (_, true)⟩ :: _) _ _ _ _; first | refine L.goT ?_ | refine L.paT ?_ | refine L.go ?_ | refine L.pass ?_ | refine T.pU rfl ?_ | refine T.gT rfl (fun hgd => ?_) (fun hgd => ?_))
              | (show WOpsT _ (⟨_, _, some (_, false)⟩ :: _) _ _ _ _; first | refine L.goF ?_ | refine L.paF ?_ | refine L.go ?_ | refine L.pass ?_ | refine T.pU rfl ?_ | refine T.gF rfl (fun hgd => ?_) (fun hgd => ?_))
              | (show WOpsT _ (⟨_, .pick _ _ _, none⟩ :: _) _ _ _ _; first | refine L.pkT ?_ | refine L.pkF ?_ | refine L.pickT ?_ | refine L.pickF ?_ | refine L.pickB ?_ | refine T.pkD rfl (fun hgd => ?_) (fun hgd => ?_))
              | (show AKW _ _ _ _ _ _ _; first | refine N.now ?_)
              | (show AK _ _ (.cond _ _ _) _ _ _ _; first | refine N.c1 ?_ | refine N.c2 ?_ | refine N.c3 ?_ | refine N.c4 ?_ | refine N.condD rfl (fun hcd => ?_) (fun hcd => ?_) | refine N.condB rfl (fun hcd => ?_) (fun hcd => ?_) | refine N.condU rfl ?_ ?_)
              | (show AK _ _ _ _ _ _ _; first | refine N.seq ?_ | refine N.block ?_ | refine N.skip ?_ | refine N.exit ?_ | refine N.ret ?_)
              | (show RK _ _ _ _ _ _ _; simp only [rk, rk0, reduceIte, Nat.reduceEqDiff])
              | (show WOpsT _ _ _ _ _ _; first | refine L.fad ?_ | refine L.fadd ?_ | refine L.st ?_ | refine L.new ?_ | refine L.zero ?_ | refine L.len ?_ | refine L.lenS ?_ | refine L.lenN ?_)
              | refine hQ _ _ _ rfl ?_
              | refine hQN _ _ _ rfl ?_)
            exact WS.c rfl rfl
        · obtain rfl : j = ss.length := by omega
          have hno : oneT ⟨yb, ya, yr, ss⟩ g = false := by
            unfold oneT
            rw [hc2, Bool.false_or]
            exact List.any_eq_false.2 fun x hx => by
              obtain ⟨q, hq, rfl⟩ := List.getElem_of_mem hx
              rw [hjn q hq hq]; decide
          repeat' (first
            | refine N.regS fun K hK => ?_
            | refine N.dregS fun K hK => ?_
            | refine N.regN fun K hK => ?_
            | refine N.dregN fun K hK => ?_
            | simp only [T.mv, sm, AO.ev, put, lk, enter, reduceIte, Nat.reduceEqDiff, Nat.reduceAdd, Nat.reduceMul, Nat.reduceSub, Int.reduceNeg, Int.reduceToNat, upto, renB, setAll]
            | (refine T.nil ?_; (first | refine hK _ _ _ (by rfl) ?_ | refine hK _ _ _ ?_); (try simp only [keep, List.map, lk, reduceIte, Nat.reduceEqDiff, enter]); clear hK K)
            | (show WOpsT _ (⟨_, .ld _ _, none⟩ :: _) _ _ _ _; first | refine L.ld ?_ | refine L.ldd ?_ | refine L.ldn ?_ | refine L.lddn ?_)
            | (show WOpsT _ (⟨_, .idx _ _ _ _, none⟩ :: _) _ _ _ _; first | refine L.idx ?_ | refine L.idxs ?_)
            | (show WOpsT _ (⟨_, .bin _ _ _, none⟩ :: _) _ _ _ _; first | refine L.add ?_ | refine L.bin ?_)
            | (show WOpsT _ (⟨_, _, some (_, true)⟩ :: _) _ _ _ _; first | refine L.goT ?_ | refine L.paT ?_ | refine L.go ?_ | refine L.pass ?_ | refine T.pU rfl ?_ | refine T.gT rfl (fun hgd => ?_) (fun hgd => ?_))
            | (show WOpsT _ (⟨_, _, some (_, false)⟩ :: _) _ _ _ _; first | refine L.goF ?_ | refine L.paF ?_ | refine L.go ?_ | refine L.pass ?_ | refine T.pU rfl ?_ | refine T.gF rfl (fun hgd => ?_) (fun hgd => ?_))
            | (show WOpsT _ (⟨_, .pick _ _ _, none⟩ :: _) _ _ _ _; first | refine L.pkT ?_ | refine L.pkF ?_ | refine L.pickT ?_ | refine L.pickF ?_ | refine L.pickB ?_ | refine T.pkD rfl (fun hgd => ?_) (fun hgd => ?_))
            | (show AKW _ _ _ _ _ _ _; first | refine N.now ?_)
            | (show AK _ _ (.cond _ _ _) _ _ _ _; first | refine N.c1 ?_ | refine N.c2 ?_ | refine N.c3 ?_ | refine N.c4 ?_ | refine N.condD rfl (fun hcd => ?_) (fun hcd => ?_) | refine N.condB rfl (fun hcd => ?_) (fun hcd => ?_) | refine N.condU rfl ?_ ?_)
            | (show AK _ _ _ _ _ _ _; first | refine N.seq ?_ | refine N.block ?_ | refine N.skip ?_ | refine N.exit ?_ | refine N.ret ?_)
            | (show RK _ _ _ _ _ _ _; simp only [rk, rk0, reduceIte, Nat.reduceEqDiff])
            | (show WOpsT _ _ _ _ _ _; first | refine L.fad ?_ | refine L.fadd ?_ | refine L.st ?_ | refine L.new ?_ | refine L.zero ?_ | refine L.len ?_ | refine L.lenS ?_ | refine L.lenN ?_)
            | refine hQ _ _ _ rfl ?_
            | refine hQN _ _ _ rfl ?_)
          exact hC _ _ (i + 1) ⟨by omega, hnx hno⟩ (by omega) (Weaks.gc [] 1 rfl (by repeat (first | exact trivial | refine ⟨.rfl, ?_⟩ | refine ⟨.any, ?_⟩)) (by first | rfl | (symm; unfold outH; simp only [List.map]; (repeat' (first | rfl | exact outB_bytes | exact outB_ints | exact outB_flat | refine consE ?_ ?_)); done)))
  · obtain rfl : i = l.length := by omega
    rw [touches_no l g fun j hj => hn j hj hj] at hQ hQN
    repeat' (first
      | refine N.regS fun K hK => ?_
      | refine N.dregS fun K hK => ?_
      | refine N.regN fun K hK => ?_
      | refine N.dregN fun K hK => ?_
      | simp only [T.mv, sm, AO.ev, put, lk, enter, reduceIte, Nat.reduceEqDiff, Nat.reduceAdd, Nat.reduceMul, Nat.reduceSub, Int.reduceNeg, Int.reduceToNat, upto, renB, setAll]
      | (refine T.nil ?_; (first | refine hK _ _ _ (by rfl) ?_ | refine hK _ _ _ ?_); (try simp only [keep, List.map, lk, reduceIte, Nat.reduceEqDiff, enter]); clear hK K)
      | (show WOpsT _ (⟨_, .ld _ _, none⟩ :: _) _ _ _ _; first | refine L.ld ?_ | refine L.ldd ?_ | refine L.ldn ?_ | refine L.lddn ?_)
      | (show WOpsT _ (⟨_, .idx _ _ _ _, none⟩ :: _) _ _ _ _; first | refine L.idx ?_ | refine L.idxs ?_)
      | (show WOpsT _ (⟨_, .bin _ _ _, none⟩ :: _) _ _ _ _; first | refine L.add ?_ | refine L.bin ?_)
      | (show WOpsT _ (⟨_, _, some (_, true)⟩ :: _) _ _ _ _; first | refine L.goT ?_ | refine L.paT ?_ | refine L.go ?_ | refine L.pass ?_ | refine T.pU rfl ?_ | refine T.gT rfl (fun hgd => ?_) (fun hgd => ?_))
      | (show WOpsT _ (⟨_, _, some (_, false)⟩ :: _) _ _ _ _; first | refine L.goF ?_ | refine L.paF ?_ | refine L.go ?_ | refine L.pass ?_ | refine T.pU rfl ?_ | refine T.gF rfl (fun hgd => ?_) (fun hgd => ?_))
      | (show WOpsT _ (⟨_, .pick _ _ _, none⟩ :: _) _ _ _ _; first | refine L.pkT ?_ | refine L.pkF ?_ | refine L.pickT ?_ | refine L.pickF ?_ | refine L.pickB ?_ | refine T.pkD rfl (fun hgd => ?_) (fun hgd => ?_))
      | (show AKW _ _ _ _ _ _ _; first | refine N.now ?_)
      | (show AK _ _ (.cond _ _ _) _ _ _ _; first | refine N.c1 ?_ | refine N.c2 ?_ | refine N.c3 ?_ | refine N.c4 ?_ | refine N.condD rfl (fun hcd => ?_) (fun hcd => ?_) | refine N.condB rfl (fun hcd => ?_) (fun hcd => ?_) | refine N.condU rfl ?_ ?_)
      | (show AK _ _ _ _ _ _ _; first | refine N.seq ?_ | refine N.block ?_ | refine N.skip ?_ | refine N.exit ?_ | refine N.ret ?_)
      | (show RK _ _ _ _ _ _ _; simp only [rk, rk0, reduceIte, Nat.reduceEqDiff])
      | (show WOpsT _ _ _ _ _ _; first | refine L.fad ?_ | refine L.fadd ?_ | refine L.st ?_ | refine L.new ?_ | refine L.zero ?_ | refine L.len ?_ | refine L.lenS ?_ | refine L.lenN ?_)
      | refine hQ _ _ _ rfl ?_
      | refine hQN _ _ _ rfl ?_)
    exact WS.c rfl rfl
end Go.Proofs.Ytjmmompbmjhkpaa.Calc

namespace Go.Proofs.Ytjmmompbmjhkpaa.Calc
open Go Code
set_option linter.unusedSimpArgs false
set_option linter.unusedVariables false
set_option maxRecDepth 20000
set_option maxHeartbeats 4000000
attribute [local irreducible] WOpsT AW AK RK AKW UK UC memF
theorem wholekeeps_ok (rs l : List Int) (n : Int) : FnE Try.prog 26 [.sl 1 (cells rs), .sl 1 (cells l), I n] [] (.c (.bool true)) [] := by
  have hlen := std_len
  obtain ⟨j, hj⟩ : ∃ j : Nat, n % 92 = (j : Int) := ⟨(n % 92).toNat, by omega⟩
  have hjl : j < 92 := by omega
  have hb := below_ok n 92 (by decide) (by decide)
  rw [hj] at hb
  obtain ⟨i1, i2, i3, i4⟩ := std_ins j hjl
  have hsm := stdM_sml.2.1
  obtain ⟨x, hx⟩ : ∃ x, stdM.ins.getD j insZ = x := ⟨_, rfl⟩
  have hxe : stdM.ins[j]'(by omega) = x := by rw [← hx, List.getD_eq_getElem?_getD, List.getElem?_eq_getElem (by omega)]; rfl
  have hxs : SmlC x.cy := by rw [← hxe]; exact hsm _ (List.getElem_mem _)
  have hm := mget inC stdM.ins j (by omega)
  rw [hxe] at hm
  rw [hx] at i2 i3 i4
  have hby := bytes_ok l 2 (by decide)
  have hbb := bytesOf_bytes l 2
  have hbl := bytesOf_len l 2
  obtain ⟨bs, hbs⟩ : ∃ bs, bytesOf l 2 = bs := ⟨_, rfl⟩
  rw [hbs] at hby hbb hbl
  have hop : 0 ≤ x.op ∧ x.op < 256 := by omega
  have hw := wrap_u8 x.op hop
  have hp3 : (x.op :: bs).length ≤ 1000 := by rw [List.length_cons, hbl]; decide
  have hry := ready2_c rs (x.op :: bs) hp3
  rw [show (x.op :: bs).length = 3 by rw [List.length_cons, hbl]] at hry
  have hfb : FB (progF (x.op :: bs)) := progF_fb _ (by
    intro i
    cases i with
    | zero => exact hop
    | succ i => exact hbb i)
  have h7 : fitR (upd (regsOf rs) 7 1024) 7 = 1024 := rfl
  have hf : progF (x.op :: bs) 1024 = (j : Int) + 1 := by
    unfold progF
    rw [if_pos ⟨Nat.le_refl _, by rw [List.length_cons]; omega⟩]
    exact i2
  have hkp := fun g hg hv hT => runKeep j hjl (upd (regsOf rs) 7 1024) (progF (x.op :: bs)) h7 hf g hg hv hT
  have hby5 : ∀ g, g < 5 → By (upd (regsOf rs) 7 1024 g) := by
    intro g hg
    have := regsOf_fits rs g (by omega)
    rw [if_neg (by omega)] at this
    rw [upd_ne (by omega)]; exact this
  have hru := run_c stdM stdM_sml ⟨upd (regsOf rs) 7 1024, -1, 0, false⟩ _ hfb
  have htc := fun g => touches_c x hxs g
  rw [hx] at hkp
  have hcpu := stdCpu_ok
  have hwh := wholes_ok
  generalize progF (x.op :: bs) = f at *
  generalize upd (regsOf rs) 7 1024 = r at *
  generalize runM stdM ⟨r, -1, 0, false⟩ f = w at *
  obtain ⟨⟨r2, op2, a2, n2⟩, lbu, f2⟩ := w
  dsimp only [coC] at hru hkp
  have hl92 : (stdM.ins.map inC).length = 92 := by rw [List.length_map, hlen]
  clear hxe hx i1 hsm
  generalize stdM = c at *
  obtain ⟨xo, xn, xm, xc⟩ := x
  dsimp only at *
  refine N.fn Try.func26 k26 lb q26 fun Q hQ hQN => ?_
  rw [c26]
  repeat' (first
    | rw [co_mren]
    | rw [co_co]
    | rw [co_t12]
    | rw [co_t9]
    | rw [cp_t5]
    | rw [co_z]
    | simp only [renB_fA, renB_fB]
    | rw [cp_mren]
    | rw [cp_z]
    | rw [ri_t9]
    | rw [ri_mren]
    | rw [co_r]
    | rw [co_b]
    | rw [co_b2]
    | rw [hl92]
    | rw [in_mren]
    | rw [in_t4]
    | rw [in_z]
    | (show WOpsT _ (⟨_, .idx _ _ _ _, none⟩ :: _) _ _ _ _; refine T.idxs rfl rfl rfl (by omega) hm ?_)
    | rw [hw]
    | refine T.appBl [xo] bs rfl rfl rfl rfl hbl rfl (by decide) ?_
    | (show AKW _ _ (.seq (.cond _ _ _) _) _ _ _ _; refine N.now ?_)
    | (show AKW _ _ (.cond _ _ _) _ _ _ _; refine N.now ?_)
    | (show AKW _ _ (.seq (.reg (⟨some 13, _, _⟩ :: _) _) _) _ _ _ _; refine N.now ?_)
    | (show AKW _ _ (.seq (.seq _ _) _) _ _ _ _; refine N.now ?_)
    | (show AKW _ _ (.seq (.dreg (⟨some 22, _, _⟩ :: _) _ _) _) _ _ _ _; refine N.now ?_)
    | (show AKW _ _ (.seq (.dreg (⟨some 32, _, _⟩ :: _) _ _) _) _ _ _ _; refine N.now ?_)
    | refine N.regS fun K hK => ?_
    | refine N.dregS fun K hK => ?_
    | refine N.regN fun K hK => ?_
    | refine N.dregN fun K hK => ?_
    | simp only [T.mv, sm, AO.ev, put, lk, enter, reduceIte, Nat.reduceEqDiff, Nat.reduceAdd, Nat.reduceMul, Nat.reduceSub, Int.reduceNeg, Int.reduceToNat, upto, renB, setAll]
    | (refine T.nil ?_; (first | refine hK _ _ _ (by rfl) ?_ | refine hK _ _ _ ?_); (try simp only [keep, List.map, lk, reduceIte, Nat.reduceEqDiff, enter]); clear hK K)
    | (show WOpsT _ (⟨_, .call _ _, none⟩ :: _) _ _ _ _; first | refine T.call0 e78 rfl (hcpu) ?_ | refine T.call0 e82 rfl (hwh) ?_ | refine T.call0 e29 rfl (hb) ?_ | refine T.callN e44 rfl (hby) (by simp) ?_ | refine T.cP [2] e83 (hry) ?_)
    | (show WOpsT _ (⟨_, .ld _ _, none⟩ :: _) _ _ _ _; first | refine L.ld ?_ | refine L.ldd ?_ | refine L.ldn ?_ | refine L.lddn ?_)
    | (show WOpsT _ (⟨_, .idx _ _ _ _, none⟩ :: _) _ _ _ _; first | refine L.idx ?_ | refine L.idxs ?_ | refine L.idxa ?_ | refine L.idxd ?_)
    | (show WOpsT _ (⟨_, .bin _ _ _, none⟩ :: _) _ _ _ _; first | refine L.add ?_ | refine L.bin ?_)
    | (show WOpsT _ (⟨_, _, some (_, true)⟩ :: _) _ _ _ _; first | refine L.goT ?_ | refine L.paT ?_ | refine L.go ?_ | refine L.pass ?_ | refine T.pU rfl ?_ | refine T.gT rfl (fun hgd => ?_) (fun hgd => ?_))
    | (show WOpsT _ (⟨_, _, some (_, false)⟩ :: _) _ _ _ _; first | refine L.goF ?_ | refine L.paF ?_ | refine L.go ?_ | refine L.pass ?_ | refine T.pU rfl ?_ | refine T.gF rfl (fun hgd => ?_) (fun hgd => ?_))
    | (show WOpsT _ (⟨_, .pick _ _ _, none⟩ :: _) _ _ _ _; first | refine L.pkT ?_ | refine L.pkF ?_ | refine L.pickT ?_ | refine L.pickF ?_ | refine L.pickB ?_ | refine T.pkD rfl (fun hgd => ?_) (fun hgd => ?_))
    | (show AK _ _ (.cond _ _ _) _ _ _ _; first | refine N.c1 ?_ | refine N.c2 ?_ | refine N.c3 ?_ | refine N.c4 ?_ | refine N.condD rfl (fun hcd => ?_) (fun hcd => ?_) | refine N.condB rfl (fun hcd => ?_) (fun hcd => ?_) | refine N.condU rfl ?_ ?_)
    | (show AK _ _ _ _ _ _ _; first | refine N.seq ?_ | refine N.block ?_ | refine N.skip ?_ | refine N.exit ?_ | refine N.ret ?_)
    | (show RK _ _ _ _ _ _ _; simp only [rk, rk0, reduceIte, Nat.reduceEqDiff])
    | (show WOpsT _ _ _ _ _ _; first | refine L.ext ?_ | refine T.notD rfl ?_ | refine T.not rfl ?_ | refine T.cvt rfl ?_ | refine L.fad ?_ | refine L.fadd ?_ | refine L.st ?_ | refine L.zero ?_ | refine L.len ?_ | refine L.lenS ?_ | refine L.lenN ?_ | refine T.mki ?_ | refine L.bsl ?_)
    | refine hQ _ _ _ rfl ?_
    | refine hQN _ _ _ rfl ?_)
  refine N.weak (fr1 := [(7, .ptr 2 1 0 0), (8, .ptr 3 1 0 0), (9, .ptr 4 1 0 0), (10, .ptr 0 1 0 0)]) (h1 := [fA, fB f, ⟨1, 5, [cpC c]⟩, ⟨1, 4, [inC ⟨xo, xn, xm, xc⟩]⟩, ⟨1, 12, [coA r (-1) 0 false]⟩]) (Weaks.gc [4, 5, 0, 1, 6] 0 rfl ⟨.rfl, .rfl, .rfl, .rfl, trivial⟩ (by show [_, fB f, _, _, _] = [_, outB _ _ _ (renB _ (fB f)), _, _, _]; rw [renB_fB, outB_fB]; rfl)) (N.now ?_)
  subst i2
  have hk : ∀ g : Nat, g < 5 → r2 g = r g ∨ touchesM xc (g : Int) = true := by
    intro g hg
    cases hT : touchesM xc (g : Int) with
    | true => exact .inr rfl
    | false => exact .inl (hkp g hg (hby5 g hg) hT)
  clear hkp hby5 hry hby
  repeat' (first
    | rw [co_mren]
    | rw [co_co]
    | rw [co_t12]
    | rw [co_t9]
    | rw [cp_t5]
    | rw [co_z]
    | simp only [renB_fA, renB_fB]
    | rw [cp_mren]
    | rw [cp_z]
    | rw [ri_t9]
    | rw [ri_mren]
    | rw [co_r]
    | rw [co_b]
    | rw [co_b2]
    | rw [in_t4]
    | refine N.regS fun K hK => ?_
    | refine N.dregS fun K hK => ?_
    | refine N.regN fun K hK => ?_
    | refine N.dregN fun K hK => ?_
    | simp only [T.mv, sm, AO.ev, put, lk, enter, reduceIte, Nat.reduceEqDiff, Nat.reduceAdd, Nat.reduceMul, Nat.reduceSub, Int.reduceNeg, Int.reduceToNat, upto, renB, setAll]
    | (refine T.nil ?_; (first | refine hK _ _ _ (by rfl) ?_ | refine hK _ _ _ ?_); (try simp only [keep, List.map, lk, reduceIte, Nat.reduceEqDiff, enter]); clear hK K)
    | (show WOpsT _ (⟨_, .call _ _, none⟩ :: _) _ _ _ _; first | refine T.cP [0, 1] e80 (hru) ?_)
    | (show WOpsT _ (⟨_, .ld _ _, none⟩ :: _) _ _ _ _; first | refine L.ld ?_ | refine L.ldd ?_ | refine L.ldn ?_ | refine L.lddn ?_)
    | (show WOpsT _ (⟨_, .idx _ _ _ _, none⟩ :: _) _ _ _ _; first | refine L.idx ?_ | refine L.idxs ?_ | refine L.idxa ?_ | refine L.idxd ?_)
    | (show WOpsT _ (⟨_, .bin _ _ _, none⟩ :: _) _ _ _ _; first | refine L.add ?_ | refine L.bin ?_)
    | (show WOpsT _ (⟨_, _, some (_, true)⟩ :: _) _ _ _ _; first | refine L.goT ?_ | refine L.paT ?_ | refine L.go ?_ | refine L.pass ?_ | refine T.pU rfl ?_ | refine T.gT rfl (fun hgd => ?_) (fun hgd => ?_))
    | (show WOpsT _ (⟨_, _, some (_, false)⟩ :: _) _ _ _ _; first | refine L.goF ?_ | refine L.paF ?_ | refine L.go ?_ | refine L.pass ?_ | refine T.pU rfl ?_ | refine T.gF rfl (fun hgd => ?_) (fun hgd => ?_))
    | (show WOpsT _ (⟨_, .pick _ _ _, none⟩ :: _) _ _ _ _; first | refine L.pkT ?_ | refine L.pkF ?_ | refine L.pickT ?_ | refine L.pickF ?_ | refine L.pickB ?_ | refine T.pkD rfl (fun hgd => ?_) (fun hgd => ?_))
    | (show AKW _ _ _ _ _ _ _; first | refine N.now ?_)
    | (show AK _ _ (.cond _ _ _) _ _ _ _; first | refine N.c1 ?_ | refine N.c2 ?_ | refine N.c3 ?_ | refine N.c4 ?_ | refine N.condD rfl (fun hcd => ?_) (fun hcd => ?_) | refine N.condB rfl (fun hcd => ?_) (fun hcd => ?_) | refine N.condU rfl ?_ ?_)
    | (show AK _ _ _ _ _ _ _; first | refine N.seq ?_ | refine N.block ?_ | refine N.skip ?_ | refine N.exit ?_ | refine N.ret ?_)
    | (show RK _ _ _ _ _ _ _; simp only [rk, rk0, reduceIte, Nat.reduceEqDiff])
    | (show WOpsT _ _ _ _ _ _; first | refine L.ext ?_ | refine T.notD rfl ?_ | refine T.not rfl ?_ | refine T.cvt rfl ?_ | refine L.fad ?_ | refine L.fadd ?_ | refine L.st ?_ | refine L.zero ?_ | refine L.len ?_ | refine L.lenS ?_ | refine L.lenN ?_ | refine T.mki ?_ | refine L.bsl ?_)
    | refine hQ _ _ _ rfl ?_
    | refine hQN _ _ _ rfl ?_)
  refine N.loop (σ := Nat) (fun i => [(8, .ptr 0 1 0 0), (9, .ptr 1 1 0 0), (11, .ptr 2 1 0 0), (52, I i)]) (fun i => [⟨1, 4, [inC ⟨(j : Int) + 1, xn, xm, xc⟩]⟩, ⟨1, 12, [coA r2 op2 a2 n2]⟩, ⟨1, 12, [coA r (-1) 0 false]⟩]) (fun i => i ≤ 5) (fun i => 5 - i) 0 (by omega) (Weaks.gc [3, 4, 5] 0 rfl (by repeat (first | exact trivial | refine ⟨.rfl, ?_⟩ | refine ⟨.any, ?_⟩)) (by first | rfl | (symm; unfold outH; simp only [List.map]; (repeat' (first | rfl | exact outB_bytes | exact outB_ints | exact outB_flat | refine consE ?_ ?_)); done))) fun i hi R hC => ?_
  by_cases hi5 : i < 5
  · have e5 : 0 + (i : Int).toNat * 1 = i := by omega
    have hk := hk i hi5
    have ht := htc i
    by_cases he : r2 i = r i
    · skip
      repeat' (first
        | rw [co_mren]
        | rw [co_co]
        | rw [co_t12]
        | rw [co_t9]
        | rw [cp_t5]
        | rw [co_z]
        | simp only [renB_fA, renB_fB]
        | rw [cp_mren]
        | rw [cp_z]
        | rw [ri_t9]
        | rw [ri_mren]
        | rw [co_r]
        | rw [co_b]
        | rw [co_b2]
        | rw [in_t4]
        | rw [e5]
        | (show WOpsT _ (⟨_, .ld _ _, none⟩ :: _) _ _ _ _; refine T.ld rfl rfl rfl rfl (co_get _ _ _ _ _ (by omega)) ?_)
        | refine N.regS fun K hK => ?_
        | refine N.dregS fun K hK => ?_
        | refine N.regN fun K hK => ?_
        | refine N.dregN fun K hK => ?_
        | simp only [T.mv, sm, AO.ev, put, lk, enter, reduceIte, Nat.reduceEqDiff, Nat.reduceAdd, Nat.reduceMul, Nat.reduceSub, Int.reduceNeg, Int.reduceToNat, upto, renB, setAll]
        | (refine T.nil ?_; (first | refine hK _ _ _ (by rfl) ?_ | refine hK _ _ _ ?_); (try simp only [keep, List.map, lk, reduceIte, Nat.reduceEqDiff, enter]); clear hK K)
        | (show WOpsT _ (⟨_, .ld _ _, none⟩ :: _) _ _ _ _; first | refine L.ld ?_ | refine L.ldd ?_ | refine L.ldn ?_ | refine L.lddn ?_)
        | (show WOpsT _ (⟨_, .idx _ _ _ _, none⟩ :: _) _ _ _ _; first | refine L.idx ?_ | refine L.idxs ?_ | refine L.idxa ?_ | refine L.idxd ?_)
        | (show WOpsT _ (⟨_, .bin _ _ _, none⟩ :: _) _ _ _ _; first | refine L.add ?_ | refine L.bin ?_)
        | (show WOpsT _ (⟨_, _, some (_, true)⟩ :: _) _ _ _ _; first | refine L.goT ?_ | refine L.paT ?_ | refine L.go ?_ | refine L.pass ?_ | refine T.pU rfl ?_ | refine T.gT rfl (fun hgd => ?_) (fun hgd => ?_))
        | (show WOpsT _ (⟨_, _, some (_, false)⟩ :: _) _ _ _ _; first | refine L.goF ?_ | refine L.paF ?_ | refine L.go ?_ | refine L.pass ?_ | refine T.pU rfl ?_ | refine T.gF rfl (fun hgd => ?_) (fun hgd => ?_))
        | (show WOpsT _ (⟨_, .pick _ _ _, none⟩ :: _) _ _ _ _; first | refine L.pkT ?_ | refine L.pkF ?_ | refine L.pickT ?_ | refine L.pickF ?_ | refine L.pickB ?_ | refine T.pkD rfl (fun hgd => ?_) (fun hgd => ?_))
        | (show AKW _ _ _ _ _ _ _; first | refine N.now ?_)
        | (show AK _ _ (.cond _ _ _) _ _ _ _; first | refine N.c1 ?_ | refine N.c2 ?_ | refine N.c3 ?_ | refine N.c4 ?_ | refine N.condD rfl (fun hcd => ?_) (fun hcd => ?_) | refine N.condB rfl (fun hcd => ?_) (fun hcd => ?_) | refine N.condU rfl ?_ ?_)
        | (show AK _ _ _ _ _ _ _; first | refine N.seq ?_ | refine N.block ?_ | refine N.skip ?_ | refine N.exit ?_ | refine N.ret ?_)
        | (show RK _ _ _ _ _ _ _; simp only [rk, rk0, reduceIte, Nat.reduceEqDiff])
        | (show WOpsT _ _ _ _ _ _; first | refine L.ext ?_ | refine T.notD rfl ?_ | refine T.not rfl ?_ | refine T.cvt rfl ?_ | refine L.fad ?_ | refine L.fadd ?_ | refine L.st ?_ | refine L.zero ?_ | refine L.len ?_ | refine L.lenS ?_ | refine L.lenN ?_ | refine T.mki ?_ | refine L.bsl ?_)
        | refine hQ _ _ _ rfl ?_
        | refine hQN _ _ _ rfl ?_)
      all_goals first
        | (exfalso; omega)
        | exact hC _ _ (i + 1) (by omega) (by omega) (Weaks.gc [0, 1, 2] 0 rfl (by repeat (first | exact trivial | refine ⟨.rfl, ?_⟩ | refine ⟨.any, ?_⟩)) (by first | rfl | (symm; unfold outH; simp only [List.map]; (repeat' (first | rfl | exact outB_bytes | exact outB_ints | exact outB_flat | refine consE ?_ ?_)); done)))
    · have hT : touchesM xc i = true := by
        rcases hk with h | h
        · exact absurd h he
        · exact h
      rw [hT] at ht
      repeat' (first
        | rw [co_mren]
        | rw [co_co]
        | rw [co_t12]
        | rw [co_t9]
        | rw [cp_t5]
        | rw [co_z]
        | simp only [renB_fA, renB_fB]
        | rw [cp_mren]
        | rw [cp_z]
        | rw [ri_t9]
        | rw [ri_mren]
        | rw [co_r]
        | rw [co_b]
        | rw [co_b2]
        | rw [in_t4]
        | rw [e5]
        | (show WOpsT _ (⟨_, .ld _ _, none⟩ :: _) _ _ _ _; refine T.ld rfl rfl rfl rfl (co_get _ _ _ _ _ (by omega)) ?_)
        | refine N.regS fun K hK => ?_
        | refine N.dregS fun K hK => ?_
        | refine N.regN fun K hK => ?_
        | refine N.dregN fun K hK => ?_
        | simp only [T.mv, sm, AO.ev, put, lk, enter, reduceIte, Nat.reduceEqDiff, Nat.reduceAdd, Nat.reduceMul, Nat.reduceSub, Int.reduceNeg, Int.reduceToNat, upto, renB, setAll]
        | (refine T.nil ?_; (first | refine hK _ _ _ (by rfl) ?_ | refine hK _ _ _ ?_); (try simp only [keep, List.map, lk, reduceIte, Nat.reduceEqDiff, enter]); clear hK K)
        | (show WOpsT _ (⟨_, .call _ _, none⟩ :: _) _ _ _ _; first | refine T.call0 e87 rfl (ht) ?_)
        | (show WOpsT _ (⟨_, .ld _ _, none⟩ :: _) _ _ _ _; first | refine L.ld ?_ | refine L.ldd ?_ | refine L.ldn ?_ | refine L.lddn ?_)
        | (show WOpsT _ (⟨_, .idx _ _ _ _, none⟩ :: _) _ _ _ _; first | refine L.idx ?_ | refine L.idxs ?_ | refine L.idxa ?_ | refine L.idxd ?_)
        | (show WOpsT _ (⟨_, .bin _ _ _, none⟩ :: _) _ _ _ _; first | refine L.add ?_ | refine L.bin ?_)
        | (show WOpsT _ (⟨_, _, some (_, true)⟩ :: _) _ _ _ _; first | refine L.goT ?_ | refine L.paT ?_ | refine L.go ?_ | refine L.pass ?_ | refine T.pU rfl ?_ | refine T.gT rfl (fun hgd => ?_) (fun hgd => ?_))
        | (show WOpsT _ (⟨_, _, some (_, false)⟩ :: _) _ _ _ _; first | refine L.goF ?_ | refine L.paF ?_ | refine L.go ?_ | refine L.pass ?_ | refine T.pU rfl ?_ | refine T.gF rfl (fun hgd => ?_) (fun hgd => ?_))
        | (show WOpsT _ (⟨_, .pick _ _ _, none⟩ :: _) _ _ _ _; first | refine L.pkT ?_ | refine L.pkF ?_ | refine L.pickT ?_ | refine L.pickF ?_ | refine L.pickB ?_ | refine T.pkD rfl (fun hgd => ?_) (fun hgd => ?_))
        | (show AKW _ _ _ _ _ _ _; first | refine N.now ?_)
        | (show AK _ _ (.cond _ _ _) _ _ _ _; first | refine N.c1 ?_ | refine N.c2 ?_ | refine N.c3 ?_ | refine N.c4 ?_ | refine N.condD rfl (fun hcd => ?_) (fun hcd => ?_) | refine N.condB rfl (fun hcd => ?_) (fun hcd => ?_) | refine N.condU rfl ?_ ?_)
        | (show AK _ _ _ _ _ _ _; first | refine N.seq ?_ | refine N.block ?_ | refine N.skip ?_ | refine N.exit ?_ | refine N.ret ?_)
        | (show RK _ _ _ _ _ _ _; simp only [rk, rk0, reduceIte, Nat.reduceEqDiff])
        | (show WOpsT _ _ _ _ _ _; first | refine L.ext ?_ | refine T.notD rfl ?_ | refine T.not rfl ?_ | refine T.cvt rfl ?_ | refine L.fad ?_ | refine L.fadd ?_ | refine L.st ?_ | refine L.zero ?_ | refine L.len ?_ | refine L.lenS ?_ | refine L.lenN ?_ | refine T.mki ?_ | refine L.bsl ?_)
        | refine hQ _ _ _ rfl ?_
        | refine hQN _ _ _ rfl ?_)
      all_goals first
        | (exfalso; omega)
        | exact hC _ _ (i + 1) (by omega) (by omega) (Weaks.gc [0, 1, 2] 0 rfl (by repeat (first | exact trivial | refine ⟨.rfl, ?_⟩ | refine ⟨.any, ?_⟩)) (by first | rfl | (symm; unfold outH; simp only [List.map]; (repeat' (first | rfl | exact outB_bytes | exact outB_ints | exact outB_flat | refine consE ?_ ?_)); done)))
  · obtain rfl : i = 5 := by omega
    repeat' (first
      | rw [co_mren]
      | rw [co_co]
      | rw [co_t12]
      | rw [co_t9]
      | rw [cp_t5]
      | rw [co_z]
      | simp only [renB_fA, renB_fB]
      | rw [cp_mren]
      | rw [cp_z]
      | rw [ri_t9]
      | rw [ri_mren]
      | rw [co_r]
      | rw [co_b]
      | rw [co_b2]
      | refine N.regS fun K hK => ?_
      | refine N.dregS fun K hK => ?_
      | refine N.regN fun K hK => ?_
      | refine N.dregN fun K hK => ?_
      | simp only [T.mv, sm, AO.ev, put, lk, enter, reduceIte, Nat.reduceEqDiff, Nat.reduceAdd, Nat.reduceMul, Nat.reduceSub, Int.reduceNeg, Int.reduceToNat, upto, renB, setAll]
      | (refine T.nil ?_; (first | refine hK _ _ _ (by rfl) ?_ | refine hK _ _ _ ?_); (try simp only [keep, List.map, lk, reduceIte, Nat.reduceEqDiff, enter]); clear hK K)
      | (show WOpsT _ (⟨_, .ld _ _, none⟩ :: _) _ _ _ _; first | refine L.ld ?_ | refine L.ldd ?_ | refine L.ldn ?_ | refine L.lddn ?_)
      | (show WOpsT _ (⟨_, .idx _ _ _ _, none⟩ :: _) _ _ _ _; first | refine L.idx ?_ | refine L.idxs ?_ | refine L.idxa ?_ | refine L.idxd ?_)
      | (show WOpsT _ (⟨_, .bin _ _ _, none⟩ :: _) _ _ _ _; first | refine L.add ?_ | refine L.bin ?_)
      | (show WOpsT _ (⟨_, _, some (_, true)⟩ :: _) _ _ _ _; first | refine L.goT ?_ | refine L.paT ?_ | refine L.go ?_ | refine L.pass ?_ | refine T.pU rfl ?_ | refine T.gT rfl (fun hgd => ?_) (fun hgd => ?_))
      | (show WOpsT _ (⟨_, _, some (_, false)⟩ :: _) _ _ _ _; first | refine L.goF ?_ | refine L.paF ?_ | refine L.go ?_ | refine L.pass ?_ | refine T.pU rfl ?_ | refine T.gF rfl (fun hgd => ?_) (fun hgd => ?_))
      | (show WOpsT _ (⟨_, .pick _ _ _, none⟩ :: _) _ _ _ _; first | refine L.pkT ?_ | refine L.pkF ?_ | refine L.pickT ?_ | refine L.pickF ?_ | refine L.pickB ?_ | refine T.pkD rfl (fun hgd => ?_) (fun hgd => ?_))
      | (show AKW _ _ _ _ _ _ _; first | refine N.now ?_)
      | (show AK _ _ (.cond _ _ _) _ _ _ _; first | refine N.c1 ?_ | refine N.c2 ?_ | refine N.c3 ?_ | refine N.c4 ?_ | refine N.condD rfl (fun hcd => ?_) (fun hcd => ?_) | refine N.condB rfl (fun hcd => ?_) (fun hcd => ?_) | refine N.condU rfl ?_ ?_)
      | (show AK _ _ _ _ _ _ _; first | refine N.seq ?_ | refine N.block ?_ | refine N.skip ?_ | refine N.exit ?_ | refine N.ret ?_)
      | (show RK _ _ _ _ _ _ _; simp only [rk, rk0, reduceIte, Nat.reduceEqDiff])
      | (show WOpsT _ _ _ _ _ _; first | refine L.ext ?_ | refine T.notD rfl ?_ | refine T.not rfl ?_ | refine T.cvt rfl ?_ | refine L.fad ?_ | refine L.fadd ?_ | refine L.st ?_ | refine L.zero ?_ | refine L.len ?_ | refine L.lenS ?_ | refine L.lenN ?_ | refine T.mki ?_ | refine L.bsl ?_)
      | refine hQ _ _ _ rfl ?_
      | refine hQN _ _ _ rfl ?_)
    all_goals first
      | exact WS.c rfl rfl
      | (exfalso; omega)
end Go.Proofs.Ytjmmompbmjhkpaa.Calc

