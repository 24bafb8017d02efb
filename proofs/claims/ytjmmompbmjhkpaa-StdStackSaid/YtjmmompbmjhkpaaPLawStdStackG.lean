/- Several texts in one (FnStdG, FnStdH, FnCoreL, FnWholeC, PureRg, FnWholeD, FnWholeH, PureTimes, PureTimesB, PureRun, PureLaw3, FnStdX, FnStdY), for the proof of LawStdStack. No condition beyond those in each lemma. -/
import Derived.Test.YtjmmompbmjhkpaaPLawStdStackF
import Derived.Test.YtjmmompbmjhkpaaPLawStdStackE
import Derived.Test.YtjmmompbmjhkpaaPLawStdStackD
import Derived.KernelRfl
namespace Go.Proofs.Ytjmmompbmjhkpaa.Calc
open Go Code
set_option linter.unusedSimpArgs false
set_option linter.unusedVariables false
set_option maxRecDepth 20000
set_option maxHeartbeats 4000000
attribute [local irreducible] WOpsT AW AK RK AKW UK UC
theorem outB_in {h : List Blk} {ids : List Nat} {n v : Nat} {l : List Ins} {x : Ins} {row : List V} (hx : row.map (out h ids n) = inC x) : outB h ids n ⟨v, 4, l.map inC ++ [row]⟩ = ⟨v, 4, l.map inC ++ [inC x]⟩ := by
  rw [outB_flatA, List.map_cons, List.map_nil, hx]
section
variable {P : Program} {q : Nat} {st : List KF} {Q : Exit → Fr → List Blk → Prop} {fr : Fr} {h : List Blk} {c : AC}
theorem wA (k : Nat) (fr1 : Fr) (hA : AK P q c st Q fr1 [mA k, mB k]) (hids : gcOk q h.length [0, 1] = true := by rfl) (hs : selO h [0, 1] 2 fr fr1 := by exact ⟨.rfl, .rfl, .rfl, trivial⟩) (h0 : mA k = outB h [0, 1] 2 (h.getD 0 default) := by rfl) (h1 : mB k = h.getD 1 default := by rfl) : AKW P q c st Q fr h :=
  N.weak (Weaks.gc [0, 1] 2 hids hs (by
    show [_, _] = [outB h [0, 1] 2 (h.getD 0 default), outB h [0, 1] 2 (h.getD 1 default)]
    rw [← h0, ← h1, outB_mB])) (N.now hA)
theorem wB (k : Nat) (hA : AK P q c st Q [(0, .ptr 0 1 0 0)] [mA k, mB k]) (hids : gcOk q h.length [0, 1] = true := by rfl) (hs : selO h [0, 1] 0 fr [(0, .ptr 0 1 0 0)] := by exact ⟨.rfl, trivial⟩) (h0 : h.getD 0 default = renB [0, 1] (mA k) := by rfl) (h1 : h.getD 1 default = renB [0, 1] (mB k) := by rfl) : AKW P q c st Q fr h :=
  N.weak (Weaks.gc [0, 1] 0 hids hs (by
    show [_, _] = [outB h [0, 1] 0 (h.getD 0 default), outB h [0, 1] 0 (h.getD 1 default)]
    rw [h0, h1, renB_mB, outB_mB]; rfl)) (N.now hA)
end
theorem mB_succ {k : Nat} {s : ByteArray} {m : Int} {cy : List Cyc} (hc : stdL[k]? = some [(s, m, cy)]) : mB (k + 1) = ⟨(number 0 (memR k)).length + 1, 4, (number 0 (memR k)).map inC ++ [inC (insN (number 0 (memR k)) s m cy)]⟩ := by
  rw [← mkB_snoc, show number 0 (memR k) ++ [insN (number 0 (memR k)) s m cy] = number 0 (memR (k + 1)) from num_succ hc]; rfl
theorem mA_succ {k : Nat} {c : Row} (hc : stdL[k]? = some [c]) : mA (k + 1) = ⟨1, 1, [[.psl 1 ((number 0 (memR k)).length + 1) 0 ((number 0 (memR k)).length + 1)]]⟩ := by
  unfold mA mkA
  rw [number_len, number_len, memR_succ k _ hc, List.length_append]; rfl
theorem addS1 (k : Nat) (hk : k < 50 ∧ 1 ≤ k) (s : ByteArray) (m b a r : Int) (ss : List Stp) (n : Nat) :
    FnE Try.prog 183 [.ptr 0 1 0 0, .c (.string s), I m, .psl 2 1 0 1] [mA k, mB k, ⟨1, 4, [[I b, I a, I r, .psl 3 1 0 n]]⟩, ⟨1, 4, ss.map stC⟩] (.tup [])
      [⟨1, 1, [[.psl 1 ((number 0 (memR k)).length + 1) 0 ((number 0 (memR k)).length + 1)]]⟩, ⟨(number 0 (memR k)).length + 1, 4, (number 0 (memR k)).map inC ++ [[I ((number 0 (memR k)).length + 1), .c (.string s), I m, .psl 2 1 0 1]]⟩, ⟨1, 4, [[I b, I a, I r, .psl 3 1 0 n]]⟩, ⟨1, 4, ss.map stC⟩] := by
  have hl := num_len k hk
  unfold mA mB
  obtain ⟨l, hle⟩ : ∃ l, number 0 (memR k) = l := ⟨_, rfl⟩
  rw [hle] at hl ⊢
  refine N.fn Try.func183 k183 lb q183 fun Q hQ hQN => ?_
  rw [c183]
  repeat' (first
  | (show WOpsT _ (⟨_, .app _ _ _ _, none⟩ :: _) _ _ _ _; refine T.app rfl rfl rfl ⟨by decide, by decide⟩ ⟨rfl, rfl, by rw [Nat.zero_add]; exact (List.length_map _).symm, by simp; omega⟩ ?_)
  | (show WOpsT _ (⟨_, .st _ _ _, none⟩ :: _) _ _ _ _; refine T.st rfl rfl (vcells_psl rfl rfl) ⟨rfl, rfl⟩ rfl (Nat.le_of_ble_eq_true rfl) ?_)
  | refine N.regS fun K hK => ?_
  | refine N.dregS fun K hK => ?_
  | refine N.regN fun K hK => ?_
  | refine N.dregN fun K hK => ?_
  | simp only [T.mv, sm, AO.ev, put, lk, enter, reduceIte, Nat.reduceEqDiff, Nat.reduceAdd, Nat.reduceMul, Nat.reduceSub, Int.reduceNeg, Int.reduceToNat, upto, renB, setAll]
  | (refine T.nil ?_; (first | refine hK _ _ _ (by rfl) ?_ | refine hK _ _ _ ?_); (try simp only [keep, List.map, lk, reduceIte, Nat.reduceEqDiff, enter]); clear hK K)
  | (show WOpsT _ (⟨_, .ld _ _, none⟩ :: _) _ _ _ _; first | refine L.ld ?_ | refine L.ldd ?_)
  | (show WOpsT _ (⟨_, .bin _ _ _, none⟩ :: _) _ _ _ _; first | refine L.add ?_ | refine L.bin ?_)
  | (show AKW _ _ _ _ _ _ _; first | refine N.now ?_)
  | (show AK _ _ _ _ _ _ _; first | refine N.seq ?_ | refine N.ret ?_)
  | (show RK _ _ _ _ _ _ _; simp only [rk, rk0, reduceIte, Nat.reduceEqDiff])
  | (show WOpsT _ _ _ _ _ _; first | refine L.fad ?_ | refine L.fadd ?_ | refine L.nilc ?_ | refine L.nilcd ?_ | refine T.nilcf rfl ?_ | refine T.nilci rfl ?_ | refine L.st ?_ | refine L.build ?_ | refine L.len ?_ | refine L.lenS ?_ | refine L.lenN ?_ | refine L.bsl ?_)
  | refine hQ _ _ _ rfl ?_
  | refine hQN _ _ _ rfl ?_)
  exact WS.gc [0, 1, 2, 3] 0 rfl (by show [_, ⟨_, _, _⟩, _, ⟨1, 4, ss.map stC⟩] = [_, outB _ _ _ ⟨l.length + 1, 4, l.map inC ++ [[I (l.length + 1), .c (.string s), I m, .psl 2 1 0 1]]⟩, _, outB _ _ _ ⟨1, 4, ss.map stC⟩]; rw [outB_flatA, outB_flat]; rfl) .rfl
theorem addS2 (k : Nat) (hk : k < 50 ∧ 1 ≤ k) (s : ByteArray) (m b a r b' a' r' : Int) (ss ss' : List Stp) (n n' : Nat) :
    FnE Try.prog 183 [.ptr 0 1 0 0, .c (.string s), I m, .psl 2 1 0 2] [mA k, mB k, ⟨1, 4, [[I b, I a, I r, .psl 3 1 0 n], [I b', I a', I r', .psl 4 1 0 n']]⟩, ⟨1, 4, ss.map stC⟩, ⟨1, 4, ss'.map stC⟩] (.tup [])
      [⟨1, 1, [[.psl 1 ((number 0 (memR k)).length + 1) 0 ((number 0 (memR k)).length + 1)]]⟩, ⟨(number 0 (memR k)).length + 1, 4, (number 0 (memR k)).map inC ++ [[I ((number 0 (memR k)).length + 1), .c (.string s), I m, .psl 2 1 0 2]]⟩, ⟨1, 4, [[I b, I a, I r, .psl 3 1 0 n], [I b', I a', I r', .psl 4 1 0 n']]⟩, ⟨1, 4, ss.map stC⟩, ⟨1, 4, ss'.map stC⟩] := by
  have hl := num_len k hk
  unfold mA mB
  obtain ⟨l, hle⟩ : ∃ l, number 0 (memR k) = l := ⟨_, rfl⟩
  rw [hle] at hl ⊢
  refine N.fn Try.func183 k183 lb q183 fun Q hQ hQN => ?_
  rw [c183]
  repeat' (first
  | (show WOpsT _ (⟨_, .app _ _ _ _, none⟩ :: _) _ _ _ _; refine T.app rfl rfl rfl ⟨by decide, by decide⟩ ⟨rfl, rfl, by rw [Nat.zero_add]; exact (List.length_map _).symm, by simp; omega⟩ ?_)
  | (show WOpsT _ (⟨_, .st _ _ _, none⟩ :: _) _ _ _ _; refine T.st rfl rfl (vcells_psl rfl rfl) ⟨rfl, rfl⟩ rfl (Nat.le_of_ble_eq_true rfl) ?_)
  | refine N.regS fun K hK => ?_
  | refine N.dregS fun K hK => ?_
  | refine N.regN fun K hK => ?_
  | refine N.dregN fun K hK => ?_
  | simp only [T.mv, sm, AO.ev, put, lk, enter, reduceIte, Nat.reduceEqDiff, Nat.reduceAdd, Nat.reduceMul, Nat.reduceSub, Int.reduceNeg, Int.reduceToNat, upto, renB, setAll]
  | (refine T.nil ?_; (first | refine hK _ _ _ (by rfl) ?_ | refine hK _ _ _ ?_); (try simp only [keep, List.map, lk, reduceIte, Nat.reduceEqDiff, enter]); clear hK K)
  | (show WOpsT _ (⟨_, .ld _ _, none⟩ :: _) _ _ _ _; first | refine L.ld ?_ | refine L.ldd ?_)
  | (show WOpsT _ (⟨_, .bin _ _ _, none⟩ :: _) _ _ _ _; first | refine L.add ?_ | refine L.bin ?_)
  | (show AKW _ _ _ _ _ _ _; first | refine N.now ?_)
  | (show AK _ _ _ _ _ _ _; first | refine N.seq ?_ | refine N.ret ?_)
  | (show RK _ _ _ _ _ _ _; simp only [rk, rk0, reduceIte, Nat.reduceEqDiff])
  | (show WOpsT _ _ _ _ _ _; first | refine L.fad ?_ | refine L.fadd ?_ | refine L.nilc ?_ | refine L.nilcd ?_ | refine T.nilcf rfl ?_ | refine T.nilci rfl ?_ | refine L.st ?_ | refine L.build ?_ | refine L.len ?_ | refine L.lenS ?_ | refine L.lenN ?_ | refine L.bsl ?_)
  | refine hQ _ _ _ rfl ?_
  | refine hQN _ _ _ rfl ?_)
  exact WS.gc [0, 1, 2, 3, 4] 0 rfl (by show [_, ⟨_, _, _⟩, _, ⟨1, 4, ss.map stC⟩, ⟨1, 4, ss'.map stC⟩] = [_, outB _ _ _ ⟨l.length + 1, 4, l.map inC ++ [[I (l.length + 1), .c (.string s), I m, .psl 2 1 0 2]]⟩, _, outB _ _ _ ⟨1, 4, ss.map stC⟩, outB _ _ _ ⟨1, 4, ss'.map stC⟩]; rw [outB_flatA, outB_flat, outB_flat]; rfl) .rfl
def row3 (p : ByteArray × Int × Int) : List V := [.c (.string p.1), I p.2.1, I p.2.2]
def tabA : List (ByteArray × Int × Int) := [(⟨#[116, 97, 120]⟩, 1, 0), (⟨#[116, 97, 121]⟩, 2, 0), (⟨#[116, 120, 97]⟩, 0, 1), (⟨#[116, 121, 97]⟩, 0, 2), (⟨#[116, 115, 120]⟩, 1, 3)]
def tabW : List (ByteArray × Int × Int) := [(⟨#[98, 101, 113]⟩, 2, 1), (⟨#[98, 110, 101]⟩, 2, 0), (⟨#[98, 99, 115]⟩, 1, 1), (⟨#[98, 99, 99]⟩, 1, 0), (⟨#[98, 109, 105]⟩, 128, 1), (⟨#[98, 112, 108]⟩, 128, 0)]
theorem alone_ok : FnE Try.prog 146 [.ptr 0 1 0 0] [mA 20, mB 20] (.tup []) [mA 39, mB 39] := by
  refine N.fn Try.func146 k146 lb q146 fun Q hQ hQN => ?_
  rw [c146]
  repeat' (first
  | refine N.regS fun K hK => ?_
  | refine N.dregS fun K hK => ?_
  | refine N.regN fun K hK => ?_
  | refine N.dregN fun K hK => ?_
  | simp only [T.mv, sm, AO.ev, put, lk, enter, reduceIte, Nat.reduceEqDiff, Nat.reduceAdd, Nat.reduceMul, Nat.reduceSub, Int.reduceNeg, Int.reduceToNat, upto, renB, setAll]
  | (refine T.nil ?_; (first | refine hK _ _ _ (by rfl) ?_ | refine hK _ _ _ ?_); (try simp only [keep, List.map, lk, reduceIte, Nat.reduceEqDiff, enter]); clear hK K)
  | (show WOpsT _ (⟨_, .ld _ _, none⟩ :: _) _ _ _ _; first | refine L.ld ?_ | refine L.ldd ?_ | refine L.ldn ?_ | refine L.lddn ?_)
  | (show WOpsT _ (⟨_, .idx _ _ _ _, none⟩ :: _) _ _ _ _; first | refine L.idx ?_ | refine L.idxs ?_)
  | (show WOpsT _ (⟨_, .bin _ _ _, none⟩ :: _) _ _ _ _; first | refine L.add ?_ | refine L.bin ?_)
  | (show AK _ _ (.cond _ _ _) _ _ _ _; first | refine N.c1 ?_ | refine N.c2 ?_ | refine N.c3 ?_ | refine N.c4 ?_ | refine N.condD rfl (fun hcd => ?_) (fun hcd => ?_) | refine N.condB rfl (fun hcd => ?_) (fun hcd => ?_) | refine N.condU rfl ?_ ?_)
  | (show AK _ _ _ _ _ _ _; first | refine N.seq ?_ | refine N.block ?_ | refine N.skip ?_ | refine N.exit ?_ | refine N.ret ?_)
  | (show RK _ _ _ _ _ _ _; simp only [rk, rk0, reduceIte, Nat.reduceEqDiff])
  | (show WOpsT _ _ _ _ _ _; first | refine L.fad ?_ | refine L.fadd ?_ | refine L.st ?_ | refine L.zero ?_ | refine L.build ?_ | refine L.len ?_ | refine L.lenS ?_ | refine L.lenN ?_ | refine L.bsl ?_)
  | refine hQ _ _ _ rfl ?_
  | refine hQN _ _ _ rfl ?_)
  refine N.weak (fr1 := [(0, .ptr 0 1 0 0), (9, .psl 2 1 0 5), (10, I 5), (11, I 0)]) (h1 := [mA 20, mB 20, ⟨1, 3, tabA.map row3⟩]) (Weaks.sel (by repeat (first | exact trivial | refine ⟨.rfl, ?_⟩ | refine ⟨.any, ?_⟩)) rfl) (N.now ?_)
  repeat' (first
  | refine N.regS fun K hK => ?_
  | refine N.dregS fun K hK => ?_
  | refine N.regN fun K hK => ?_
  | refine N.dregN fun K hK => ?_
  | simp only [T.mv, sm, AO.ev, put, lk, enter, reduceIte, Nat.reduceEqDiff, Nat.reduceAdd, Nat.reduceMul, Nat.reduceSub, Int.reduceNeg, Int.reduceToNat, upto, renB, setAll]
  | (refine T.nil ?_; (first | refine hK _ _ _ (by rfl) ?_ | refine hK _ _ _ ?_); (try simp only [keep, List.map, lk, reduceIte, Nat.reduceEqDiff, enter]); clear hK K)
  | (show WOpsT _ (⟨_, .ld _ _, none⟩ :: _) _ _ _ _; first | refine L.ld ?_ | refine L.ldd ?_ | refine L.ldn ?_ | refine L.lddn ?_)
  | (show WOpsT _ (⟨_, .idx _ _ _ _, none⟩ :: _) _ _ _ _; first | refine L.idx ?_ | refine L.idxs ?_)
  | (show WOpsT _ (⟨_, .bin _ _ _, none⟩ :: _) _ _ _ _; first | refine L.add ?_ | refine L.bin ?_)
  | (show AK _ _ (.cond _ _ _) _ _ _ _; first | refine N.c1 ?_ | refine N.c2 ?_ | refine N.c3 ?_ | refine N.c4 ?_ | refine N.condD rfl (fun hcd => ?_) (fun hcd => ?_) | refine N.condB rfl (fun hcd => ?_) (fun hcd => ?_) | refine N.condU rfl ?_ ?_)
  | (show AK _ _ _ _ _ _ _; first | refine N.seq ?_ | refine N.block ?_ | refine N.skip ?_ | refine N.exit ?_ | refine N.ret ?_)
  | (show RK _ _ _ _ _ _ _; simp only [rk, rk0, reduceIte, Nat.reduceEqDiff])
  | (show WOpsT _ _ _ _ _ _; first | refine L.fad ?_ | refine L.fadd ?_ | refine L.st ?_ | refine L.zero ?_ | refine L.build ?_ | refine L.len ?_ | refine L.lenS ?_ | refine L.lenN ?_ | refine L.bsl ?_)
  | refine hQ _ _ _ rfl ?_
  | refine hQN _ _ _ rfl ?_)
  refine N.loop (σ := Nat) (fun i => [(0, .ptr 0 1 0 0), (9, .psl 2 1 0 5), (10, I 5), (11, I i)]) (fun i => [mA (20 + i), mB (20 + i), ⟨1, 3, tabA.map row3⟩]) (fun i => i ≤ 5) (fun i => 5 - i) 0 (by omega) (Weaks.sel (by repeat (first | exact trivial | refine ⟨.rfl, ?_⟩ | refine ⟨.any, ?_⟩)) rfl) fun i hi R hC => ?_
  by_cases hil : i < 5
  · have e3 : 0 + (i : Int).toNat = i := by omega
    obtain ⟨p, hp⟩ : ∃ p, tabA[i]? = some p := ⟨tabA[i]'hil, List.getElem?_eq_getElem hil⟩
    have hrow : (tabA.map row3)[i]? = some (row3 p) := by rw [List.getElem?_map, hp]; rfl
    have hst : stdL[20 + i]? = some [(p.1, 0, [noM [twoM 1 p.2.1 p.2.2, oneM 3 p.2.1]])] := by
      have : ∀ j, j < 5 → ∀ q, tabA[j]? = some q → stdL[20 + j]? = some [(q.1, 0, [noM [twoM 1 q.2.1 q.2.2, oneM 3 q.2.1]])] := by
        intro j hj q hq
        match j, hj with
        | 0, _ => cases hq; rfl
        | 1, _ => cases hq; rfl
        | 2, _ => cases hq; rfl
        | 3, _ => cases hq; rfl
        | 4, _ => cases hq; rfl
      exact this i hil p hp
    have hj := addS1 (20 + i) (by omega) p.1 0 0 0 0 [twoM 1 p.2.1 p.2.2, oneM 3 p.2.1] 2
    repeat' (first
    | rw [e3]
    | (show WOpsT _ (⟨_, .ld _ _, none⟩ :: _) _ _ _ _; refine T.ldn rfl rfl rfl hrow (Nat.le_of_ble_eq_true rfl) ?_)
    | rw [rows_renA]
    | refine N.regS fun K hK => ?_
    | refine N.dregS fun K hK => ?_
    | refine N.regN fun K hK => ?_
    | refine N.dregN fun K hK => ?_
    | simp only [T.mv, sm, AO.ev, put, lk, enter, reduceIte, Nat.reduceEqDiff, Nat.reduceAdd, Nat.reduceMul, Nat.reduceSub, Int.reduceNeg, Int.reduceToNat, upto, renB, setAll]
    | (refine T.nil ?_; (first | refine hK _ _ _ (by rfl) ?_ | refine hK _ _ _ ?_); (try simp only [keep, List.map, lk, reduceIte, Nat.reduceEqDiff, enter]); clear hK K)
    | (show WOpsT _ (⟨_, .call _ _, none⟩ :: _) _ _ _ _; first | refine T.call0 e185 rfl ((two_ok 1 p.2.1 p.2.2)) ?_ | refine T.call0 e186 rfl ((one_ok 3 p.2.1)) ?_ | refine T.cP [4] e184 ((noP_ok [twoM 1 p.2.1 p.2.2, oneM 3 p.2.1] 2)) ?_ | refine T.cP [0, 1, 5, 4] e183 (hj) ?_)
    | (show WOpsT _ (⟨_, .ld _ _, none⟩ :: _) _ _ _ _; first | refine L.ld ?_ | refine L.ldd ?_ | refine L.ldn ?_ | refine L.lddn ?_)
    | (show WOpsT _ (⟨_, .idx _ _ _ _, none⟩ :: _) _ _ _ _; first | refine L.idx ?_ | refine L.idxs ?_)
    | (show WOpsT _ (⟨_, .bin _ _ _, none⟩ :: _) _ _ _ _; first | refine L.add ?_ | refine L.bin ?_)
    | (show AKW _ _ _ _ _ _ _; first | refine N.now ?_)
    | (show AK _ _ (.cond _ _ _) _ _ _ _; first | refine N.c1 ?_ | refine N.c2 ?_ | refine N.c3 ?_ | refine N.c4 ?_ | refine N.condD rfl (fun hcd => ?_) (fun hcd => ?_) | refine N.condB rfl (fun hcd => ?_) (fun hcd => ?_) | refine N.condU rfl ?_ ?_)
    | (show AK _ _ _ _ _ _ _; first | refine N.seq ?_ | refine N.block ?_ | refine N.skip ?_ | refine N.exit ?_ | refine N.ret ?_)
    | (show RK _ _ _ _ _ _ _; simp only [rk, rk0, reduceIte, Nat.reduceEqDiff])
    | (show WOpsT _ _ _ _ _ _; first | refine L.fad ?_ | refine L.fadd ?_ | refine L.st ?_ | refine L.zero ?_ | refine L.build ?_ | refine L.len ?_ | refine L.lenS ?_ | refine L.lenN ?_ | refine L.bsl ?_)
    | refine hQ _ _ _ rfl ?_
    | refine hQN _ _ _ rfl ?_)
    exact hC _ _ (i + 1) (by omega) (by omega) (Weaks.gc [0, 1, 2] 2 rfl (by repeat (first | exact trivial | refine ⟨.rfl, ?_⟩ | refine ⟨.any, ?_⟩)) (by rw [show 20 + (i + 1) = 20 + i + 1 from rfl, mA_succ hst, mB_succ hst]; show [_, _, _] = [_, outB _ [0, 1, 2] 2 ⟨_, 4, (number 0 (memR (20 + i))).map inC ++ [_]⟩, _]; rw [outB_in (x := insN (number 0 (memR (20 + i))) p.1 0 ([noM [twoM 1 p.2.1 p.2.2, oneM 3 p.2.1]])) rfl]; rfl))
  · obtain rfl : i = 5 := by omega
    repeat' (first
    | (show AKW _ _ (.seq (.cond _ _ _) _) _ _ _ _; refine N.now ?_)
    | refine N.regS fun K hK => ?_
    | refine N.dregS fun K hK => ?_
    | refine N.regN fun K hK => ?_
    | refine N.dregN fun K hK => ?_
    | simp only [T.mv, sm, AO.ev, put, lk, enter, reduceIte, Nat.reduceEqDiff, Nat.reduceAdd, Nat.reduceMul, Nat.reduceSub, Int.reduceNeg, Int.reduceToNat, upto, renB, setAll]
    | (refine T.nil ?_; (first | refine hK _ _ _ (by rfl) ?_ | refine hK _ _ _ ?_); (try simp only [keep, List.map, lk, reduceIte, Nat.reduceEqDiff, enter]); clear hK K)
    | (show WOpsT _ (⟨_, .ld _ _, none⟩ :: _) _ _ _ _; first | refine L.ld ?_ | refine L.ldd ?_ | refine L.ldn ?_ | refine L.lddn ?_)
    | (show WOpsT _ (⟨_, .idx _ _ _ _, none⟩ :: _) _ _ _ _; first | refine L.idx ?_ | refine L.idxs ?_)
    | (show WOpsT _ (⟨_, .bin _ _ _, none⟩ :: _) _ _ _ _; first | refine L.add ?_ | refine L.bin ?_)
    | (show AK _ _ (.cond _ _ _) _ _ _ _; first | refine N.c1 ?_ | refine N.c2 ?_ | refine N.c3 ?_ | refine N.c4 ?_ | refine N.condD rfl (fun hcd => ?_) (fun hcd => ?_) | refine N.condB rfl (fun hcd => ?_) (fun hcd => ?_) | refine N.condU rfl ?_ ?_)
    | (show AK _ _ _ _ _ _ _; first | refine N.seq ?_ | refine N.block ?_ | refine N.skip ?_ | refine N.exit ?_ | refine N.ret ?_)
    | (show RK _ _ _ _ _ _ _; simp only [rk, rk0, reduceIte, Nat.reduceEqDiff])
    | (show WOpsT _ _ _ _ _ _; first | refine L.fad ?_ | refine L.fadd ?_ | refine L.st ?_ | refine L.zero ?_ | refine L.build ?_ | refine L.len ?_ | refine L.lenS ?_ | refine L.lenN ?_ | refine L.bsl ?_)
    | refine hQ _ _ _ rfl ?_
    | refine hQN _ _ _ rfl ?_)
    refine N.weak (fr1 := [(0, .ptr 0 1 0 0)]) (h1 := [mA 25, mB 25]) (Weaks.gc [0, 1] 0 rfl ⟨.rfl, trivial⟩ (by show [mA 25, mB 25] = [outB _ [0, 1] 0 (mA 25), outB _ _ _ (mB 25)]; rw [outB_mB]; rfl)) (N.now ?_)
    repeat' (first
    | (show AK _ _ (.seq (.reg (⟨some 31, _, _⟩ :: _) _) _) _ _ _ _; refine N.cut 5 fun K hK => ?_)
    | (show AKW _ _ (.seq (.reg (⟨some 36, _, _⟩ :: _) _) _) _ _ _ _; refine wA 25 [(0, .ptr 0 1 0 0), (31, .ptr 0 1 0 0), (35, .sl 4 (([noM [twoM 1 3 1]]).map cyC))] ?_)
    | (show AK _ _ (.seq (.reg (⟨some 37, _, _⟩ :: _) _) _) _ _ _ _; refine N.cut 5 fun K hK => ?_)
    | (show AKW _ _ (.seq (.reg (⟨some 42, _, _⟩ :: _) _) _) _ _ _ _; refine wA 26 [(0, .ptr 0 1 0 0), (37, .ptr 0 1 0 0), (41, .sl 4 (([noM [oneM 10 1]]).map cyC))] ?_)
    | (show AKW _ _ (.seq (.reg (⟨some 37, _, _⟩ :: _) _) _) _ _ _ _; refine wB 26 ?_)
    | (show AK _ _ (.seq (.reg (⟨some 43, _, _⟩ :: _) _) _) _ _ _ _; refine N.cut 5 fun K hK => ?_)
    | (show AKW _ _ (.seq (.reg (⟨some 48, _, _⟩ :: _) _) _) _ _ _ _; refine wA 27 [(0, .ptr 0 1 0 0), (43, .ptr 0 1 0 0), (47, .sl 4 (([noM [oneM 10 2]]).map cyC))] ?_)
    | (show AKW _ _ (.seq (.reg (⟨some 43, _, _⟩ :: _) _) _) _ _ _ _; refine wB 27 ?_)
    | (show AK _ _ (.seq (.reg (⟨some 49, _, _⟩ :: _) _) _) _ _ _ _; refine N.cut 5 fun K hK => ?_)
    | (show AKW _ _ (.seq (.reg (⟨some 54, _, _⟩ :: _) _) _) _ _ _ _; refine wA 28 [(0, .ptr 0 1 0 0), (49, .ptr 0 1 0 0), (53, .sl 4 (([noM [oneM 11 1]]).map cyC))] ?_)
    | (show AKW _ _ (.seq (.reg (⟨some 49, _, _⟩ :: _) _) _) _ _ _ _; refine wB 28 ?_)
    | (show AK _ _ (.seq (.reg (⟨some 55, _, _⟩ :: _) _) _) _ _ _ _; refine N.cut 5 fun K hK => ?_)
    | (show AKW _ _ (.seq (.reg (⟨some 60, _, _⟩ :: _) _) _) _ _ _ _; refine wA 29 [(0, .ptr 0 1 0 0), (55, .ptr 0 1 0 0), (59, .sl 4 (([noM [oneM 11 2]]).map cyC))] ?_)
    | (show AKW _ _ (.seq (.reg (⟨some 55, _, _⟩ :: _) _) _) _ _ _ _; refine wB 29 ?_)
    | (show AK _ _ (.seq (.reg (⟨some 61, _, _⟩ :: _) _) _) _ _ _ _; refine N.cut 5 fun K hK => ?_)
    | (show AKW _ _ (.seq (.reg (⟨some 66, _, _⟩ :: _) _) _) _ _ _ _; refine wA 30 [(0, .ptr 0 1 0 0), (61, .ptr 0 1 0 0), (65, .sl 4 (([noM [⟨17, 0, 0, 1⟩]]).map cyC))] ?_)
    | (show AKW _ _ (.seq (.reg (⟨some 61, _, _⟩ :: _) _) _) _ _ _ _; refine wB 30 ?_)
    | (show AK _ _ (.seq (.reg (⟨some 67, _, _⟩ :: _) _) _) _ _ _ _; refine N.cut 5 fun K hK => ?_)
    | (show AKW _ _ (.seq (.reg (⟨some 72, _, _⟩ :: _) _) _) _ _ _ _; refine wA 31 [(0, .ptr 0 1 0 0), (67, .ptr 0 1 0 0), (71, .sl 4 (([noM [⟨16, 0, 0, 1⟩]]).map cyC))] ?_)
    | (show AKW _ _ (.seq (.reg (⟨some 67, _, _⟩ :: _) _) _) _ _ _ _; refine wB 31 ?_)
    | (show AK _ _ (.seq (.reg (⟨some 73, _, _⟩ :: _) _) _) _ _ _ _; refine N.cut 5 fun K hK => ?_)
    | (show AKW _ _ (.seq (.reg (⟨some 78, _, _⟩ :: _) _) _) _ _ _ _; refine wA 32 [(0, .ptr 0 1 0 0), (73, .ptr 0 1 0 0), (77, .sl 4 (([noM [⟨17, 0, 0, 4⟩]]).map cyC))] ?_)
    | (show AKW _ _ (.seq (.reg (⟨some 73, _, _⟩ :: _) _) _) _ _ _ _; refine wB 32 ?_)
    | (show AK _ _ (.seq (.reg (⟨some 79, _, _⟩ :: _) _) _) _ _ _ _; refine N.cut 5 fun K hK => ?_)
    | (show AKW _ _ (.seq (.reg (⟨some 84, _, _⟩ :: _) _) _) _ _ _ _; refine wA 33 [(0, .ptr 0 1 0 0), (79, .ptr 0 1 0 0), (83, .sl 4 (([noM [⟨16, 0, 0, 4⟩]]).map cyC))] ?_)
    | (show AKW _ _ (.seq (.reg (⟨some 79, _, _⟩ :: _) _) _) _ _ _ _; refine wB 33 ?_)
    | (show AK _ _ (.seq (.reg (⟨some 85, _, _⟩ :: _) _) _) _ _ _ _; refine N.cut 3 fun K hK => ?_)
    | (show AKW _ _ (.seq (.reg (⟨some 88, _, _⟩ :: _) _) _) _ _ _ _; refine wA 34 [(0, .ptr 0 1 0 0), (85, .ptr 0 1 0 0), (87, .sl 4 (([noM []]).map cyC))] ?_)
    | (show AKW _ _ (.seq (.reg (⟨some 85, _, _⟩ :: _) _) _) _ _ _ _; refine wB 34 ?_)
    | (show AK _ _ (.seq (.reg (⟨some 89, _, _⟩ :: _) _) _) _ _ _ _; refine N.cut 3 fun K hK => ?_)
    | (show AKW _ _ (.seq (.reg (⟨some 92, _, _⟩ :: _) _) _) _ _ _ _; refine wA 35 [(0, .ptr 0 1 0 0), (89, .ptr 0 1 0 0), (91, .sl 4 (([wrM 4 0 []]).map cyC))] ?_)
    | (show AKW _ _ (.seq (.reg (⟨some 89, _, _⟩ :: _) _) _) _ _ _ _; refine wB 35 ?_)
    | (show AK _ _ (.seq (.reg (⟨some 93, _, _⟩ :: _) _) _) _ _ _ _; refine N.cut 5 fun K hK => ?_)
    | (show AKW _ _ (.seq (.reg (⟨some 98, _, _⟩ :: _) _) _) _ _ _ _; refine wA 36 [(0, .ptr 0 1 0 0), (93, .ptr 0 1 0 0), (97, .sl 4 (([rdM 5 0 [oneM 3 0]]).map cyC))] ?_)
    | (show AKW _ _ (.seq (.reg (⟨some 93, _, _⟩ :: _) _) _) _ _ _ _; refine wB 36 ?_)
    | (show AK _ _ (.seq (.reg (⟨some 99, _, _⟩ :: _) _) _) _ _ _ _; refine N.cut 3 fun K hK => ?_)
    | (show AKW _ _ (.seq (.reg (⟨some 102, _, _⟩ :: _) _) _) _ _ _ _; refine wA 37 [(0, .ptr 0 1 0 0), (99, .ptr 0 1 0 0), (101, .sl 4 (([wrM 4 4 []]).map cyC))] ?_)
    | (show AKW _ _ (.seq (.reg (⟨some 99, _, _⟩ :: _) _) _) _ _ _ _; refine wB 37 ?_)
    | (show AK _ _ (.reg (⟨some 103, _, _⟩ :: _) _) _ _ _ _; refine N.cutN 3 fun K hK => ?_)
    | (show AKW _ _ (.reg (⟨some 106, _, _⟩ :: _) _) _ _ _ _; refine wA 38 [(0, .ptr 0 1 0 0), (103, .ptr 0 1 0 0), (105, .sl 4 (([rdM 5 4 []]).map cyC))] ?_)
    | (show AKW _ _ (.reg (⟨some 103, _, _⟩ :: _) _) _ _ _ _; refine wB 38 ?_)
    | refine N.regS fun K hK => ?_
    | refine N.dregS fun K hK => ?_
    | refine N.regN fun K hK => ?_
    | refine N.dregN fun K hK => ?_
    | simp only [T.mv, sm, AO.ev, put, lk, enter, reduceIte, Nat.reduceEqDiff, Nat.reduceAdd, Nat.reduceMul, Nat.reduceSub, Int.reduceNeg, Int.reduceToNat, upto, renB, setAll]
    | (refine T.nil ?_; (first | refine hK _ _ _ (by rfl) ?_ | refine hK _ _ _ ?_); (try simp only [keep, List.map, lk, reduceIte, Nat.reduceEqDiff, enter]); clear hK K)
    | (show WOpsT _ (⟨_, .call _ _, none⟩ :: _) _ _ _ _; first | refine T.call0 e185 rfl ((two_ok 1 3 1)) ?_ | refine T.cP [2] e184 ((noP_ok [twoM 1 3 1] 1)) ?_ rfl rfl | refine T.cP [0, 1] e183 ((addK 25 (by decide) ⟨#[116, 120, 115]⟩ 0 [noM [twoM 1 3 1]] rfl)) ?_ | refine T.call0 e186 rfl ((one_ok 10 1)) ?_ | refine T.cP [2] e184 ((noP_ok [oneM 10 1] 1)) ?_ rfl rfl | refine T.cP [0, 1] e183 ((addK 26 (by decide) ⟨#[105, 110, 120]⟩ 0 [noM [oneM 10 1]] rfl)) ?_ | refine T.call0 e186 rfl ((one_ok 10 2)) ?_ | refine T.cP [2] e184 ((noP_ok [oneM 10 2] 1)) ?_ rfl rfl | refine T.cP [0, 1] e183 ((addK 27 (by decide) ⟨#[105, 110, 121]⟩ 0 [noM [oneM 10 2]] rfl)) ?_ | refine T.call0 e186 rfl ((one_ok 11 1)) ?_ | refine T.cP [2] e184 ((noP_ok [oneM 11 1] 1)) ?_ rfl rfl | refine T.cP [0, 1] e183 ((addK 28 (by decide) ⟨#[100, 101, 120]⟩ 0 [noM [oneM 11 1]] rfl)) ?_ | refine T.call0 e186 rfl ((one_ok 11 2)) ?_ | refine T.cP [2] e184 ((noP_ok [oneM 11 2] 1)) ?_ rfl rfl | refine T.cP [0, 1] e183 ((addK 29 (by decide) ⟨#[100, 101, 121]⟩ 0 [noM [oneM 11 2]] rfl)) ?_ | refine T.cP [2] e184 ((noP_ok [⟨17, 0, 0, 1⟩] 1)) ?_ rfl rfl | refine T.cP [0, 1] e183 ((addK 30 (by decide) ⟨#[99, 108, 99]⟩ 0 [noM [⟨17, 0, 0, 1⟩]] rfl)) ?_ | refine T.cP [2] e184 ((noP_ok [⟨16, 0, 0, 1⟩] 1)) ?_ rfl rfl | refine T.cP [0, 1] e183 ((addK 31 (by decide) ⟨#[115, 101, 99]⟩ 0 [noM [⟨16, 0, 0, 1⟩]] rfl)) ?_ | refine T.cP [2] e184 ((noP_ok [⟨17, 0, 0, 4⟩] 1)) ?_ rfl rfl | refine T.cP [0, 1] e183 ((addK 32 (by decide) ⟨#[99, 108, 105]⟩ 0 [noM [⟨17, 0, 0, 4⟩]] rfl)) ?_ | refine T.cP [2] e184 ((noP_ok [⟨16, 0, 0, 4⟩] 1)) ?_ rfl rfl | refine T.cP [0, 1] e183 ((addK 33 (by decide) ⟨#[115, 101, 105]⟩ 0 [noM [⟨16, 0, 0, 4⟩]] rfl)) ?_ | refine T.call0 e184 rfl (noN_ok) ?_ | refine T.cP [0, 1] e183 ((addK 34 (by decide) ⟨#[110, 111, 112]⟩ 0 [noM []] rfl)) ?_ | refine T.call0 e187 rfl ((wrN_ok 4 0)) ?_ | refine T.cP [0, 1] e183 ((addK 35 (by decide) ⟨#[112, 104, 97]⟩ 0 [wrM 4 0 []] rfl)) ?_ | refine T.call0 e186 rfl ((one_ok 3 0)) ?_ | refine T.cP [2] e148 ((rdP_ok 5 0 [oneM 3 0] 1)) ?_ rfl rfl | refine T.cP [0, 1] e183 ((addK 36 (by decide) ⟨#[112, 108, 97]⟩ 0 [rdM 5 0 [oneM 3 0]] rfl)) ?_ | refine T.call0 e187 rfl ((wrN_ok 4 4)) ?_ | refine T.cP [0, 1] e183 ((addK 37 (by decide) ⟨#[112, 104, 112]⟩ 0 [wrM 4 4 []] rfl)) ?_ | refine T.call0 e148 rfl ((rdN_ok 5 4)) ?_ | refine T.cP [0, 1] e183 ((addK 38 (by decide) ⟨#[112, 108, 112]⟩ 0 [rdM 5 4 []] rfl)) ?_)
    | (show WOpsT _ (⟨_, .ld _ _, none⟩ :: _) _ _ _ _; first | refine L.ld ?_ | refine L.ldd ?_ | refine L.ldn ?_ | refine L.lddn ?_)
    | (show WOpsT _ (⟨_, .idx _ _ _ _, none⟩ :: _) _ _ _ _; first | refine L.idx ?_ | refine L.idxs ?_)
    | (show WOpsT _ (⟨_, .bin _ _ _, none⟩ :: _) _ _ _ _; first | refine L.add ?_ | refine L.bin ?_)
    | (show AKW _ _ _ _ _ _ _; first | refine N.now ?_)
    | (show AK _ _ (.cond _ _ _) _ _ _ _; first | refine N.c1 ?_ | refine N.c2 ?_ | refine N.c3 ?_ | refine N.c4 ?_ | refine N.condD rfl (fun hcd => ?_) (fun hcd => ?_) | refine N.condB rfl (fun hcd => ?_) (fun hcd => ?_) | refine N.condU rfl ?_ ?_)
    | (show AK _ _ _ _ _ _ _; first | refine N.seq ?_ | refine N.block ?_ | refine N.skip ?_ | refine N.exit ?_ | refine N.ret ?_)
    | (show RK _ _ _ _ _ _ _; simp only [rk, rk0, reduceIte, Nat.reduceEqDiff])
    | (show WOpsT _ _ _ _ _ _; first | refine L.fad ?_ | refine L.fadd ?_ | refine L.st ?_ | refine L.zero ?_ | refine L.build ?_ | refine L.len ?_ | refine L.lenS ?_ | refine L.lenN ?_ | refine L.bsl ?_)
    | refine hQ _ _ _ rfl ?_
    | refine hQN _ _ _ rfl ?_)
    exact WS.gc [0, 1] 0 rfl (by show [mA 39, mB 39] = [outB _ [0, 1] 0 (renB [0, 1] (mA 39)), outB _ _ _ (renB _ (mB 39))]; rw [renB_mB, outB_mB]; rfl) .rfl
theorem ways_ok : FnE Try.prog 147 [.ptr 0 1 0 0] [mA 39, mB 39] (.tup []) [mA 49, mB 49] := by
  refine N.fn Try.func147 k147 lb q147 fun Q hQ hQN => ?_
  rw [c147]
  repeat' (first
  | (show AK _ _ (.seq (.reg (⟨some 4, _, _⟩ :: _) _) _) _ _ _ _; refine N.cut 5 fun K hK => ?_)
  | (show AKW _ _ (.seq (.reg (⟨some 9, _, _⟩ :: _) _) _) _ _ _ _; refine wA 39 [(0, .ptr 0 1 0 0), (4, .ptr 0 1 0 0), (8, .sl 4 (([rdM 0 5 [], rdM 0 6 (jumpM 7)]).map cyC))] ?_)
  | (show AK _ _ (.seq (.reg (⟨some 10, _, _⟩ :: _) _) _) _ _ _ _; refine N.cut 15 fun K hK => ?_)
  | (show AKW _ _ (.seq (.reg (⟨some 25, _, _⟩ :: _) _) _) _ _ _ _; refine wA 40 [(0, .ptr 0 1 0 0), (10, .ptr 0 1 0 0), (24, .sl 4 (([rdM 0 5 [twoM 18 8 5], rdM 0 5 [twoM 19 8 5, twoM 21 5 7], wrM 4 5 [twoM 20 5 7], wrM 4 5 [twoM 1 7 8]]).map cyC))] ?_)
  | (show AKW _ _ (.seq (.reg (⟨some 10, _, _⟩ :: _) _) _) _ _ _ _; refine wB 40 ?_)
  | (show AK _ _ (.seq (.reg (⟨some 26, _, _⟩ :: _) _) _) _ _ _ _; refine N.cut 5 fun K hK => ?_)
  | (show AKW _ _ (.seq (.reg (⟨some 31, _, _⟩ :: _) _) _) _ _ _ _; refine wA 41 [(0, .ptr 0 1 0 0), (26, .ptr 0 1 0 0), (30, .sl 4 (([rdM 5 5 [], rdM 5 6 (jumpM 7)]).map cyC))] ?_)
  | (show AKW _ _ (.seq (.reg (⟨some 26, _, _⟩ :: _) _) _) _ _ _ _; refine wB 41 ?_)
  | (show AK _ _ (.seq (.reg (⟨some 32, _, _⟩ :: _) _) _) _ _ _ _; refine N.cut 6 fun K hK => ?_)
  | (show AKW _ _ (.seq (.reg (⟨some 38, _, _⟩ :: _) _) _) _ _ _ _; refine wA 42 [(0, .ptr 0 1 0 0), (32, .ptr 0 1 0 0), (37, .sl 4 (([rdM 5 4 [], rdM 5 5 [], rdM 5 6 (jumpM 7)]).map cyC))] ?_)
  | (show AKW _ _ (.seq (.reg (⟨some 32, _, _⟩ :: _) _) _) _ _ _ _; refine wB 42 ?_)
  | refine N.regS fun K hK => ?_
  | refine N.dregS fun K hK => ?_
  | refine N.regN fun K hK => ?_
  | refine N.dregN fun K hK => ?_
  | simp only [T.mv, sm, AO.ev, put, lk, enter, reduceIte, Nat.reduceEqDiff, Nat.reduceAdd, Nat.reduceMul, Nat.reduceSub, Int.reduceNeg, Int.reduceToNat, upto, renB, setAll]
  | (refine T.nil ?_; (first | refine hK _ _ _ (by rfl) ?_ | refine hK _ _ _ ?_); (try simp only [keep, List.map, lk, reduceIte, Nat.reduceEqDiff, enter]); clear hK K)
  | (show WOpsT _ (⟨_, .call _ _, none⟩ :: _) _ _ _ _; first | refine T.call0 e148 rfl ((rdN_ok 5 5)) ?_ | refine T.call0 e148 rfl ((rdN_ok 0 5)) ?_ | refine T.call0 e148 rfl ((rdN_ok 5 4)) ?_ | refine T.callN e149 rfl ((jump_ok 7)) (by simp) ?_ | refine T.cP [2] e148 ((rdP_ok 0 6 (jumpM 7) 2)) ?_ rfl rfl | refine T.cP [0, 1] e183 ((addK 39 (by decide) ⟨#[106, 109, 112]⟩ 4 [rdM 0 5 [], rdM 0 6 (jumpM 7)] rfl)) ?_ | refine T.call0 e185 rfl ((two_ok 18 8 5)) ?_ | refine T.call0 e185 rfl ((two_ok 19 8 5)) ?_ | refine T.call0 e185 rfl ((two_ok 21 5 7)) ?_ | refine T.call0 e185 rfl ((two_ok 20 5 7)) ?_ | refine T.call0 e185 rfl ((two_ok 1 7 8)) ?_ | refine T.cP [2] e148 ((rdP_ok 0 5 [twoM 18 8 5] 1)) ?_ rfl rfl | refine T.cP [3] e148 ((rdP_ok 0 5 [twoM 19 8 5, twoM 21 5 7] 2)) ?_ rfl rfl | refine T.cP [4] e187 ((wrP_ok 4 5 [twoM 20 5 7] 1)) ?_ rfl rfl | refine T.cP [5] e187 ((wrP_ok 4 5 [twoM 1 7 8] 1)) ?_ rfl rfl | refine T.cP [0, 1] e183 ((addK 40 (by decide) ⟨#[106, 115, 114]⟩ 4 [rdM 0 5 [twoM 18 8 5], rdM 0 5 [twoM 19 8 5, twoM 21 5 7], wrM 4 5 [twoM 20 5 7], wrM 4 5 [twoM 1 7 8]] rfl)) ?_ | refine T.cP [2] e148 ((rdP_ok 5 6 (jumpM 7) 2)) ?_ rfl rfl | refine T.cP [0, 1] e183 ((addK 41 (by decide) ⟨#[114, 116, 115]⟩ 0 [rdM 5 5 [], rdM 5 6 (jumpM 7)] rfl)) ?_ | refine T.cP [0, 1] e183 ((addK 42 (by decide) ⟨#[114, 116, 105]⟩ 0 [rdM 5 4 [], rdM 5 5 [], rdM 5 6 (jumpM 7)] rfl)) ?_)
  | (show WOpsT _ (⟨_, .ld _ _, none⟩ :: _) _ _ _ _; first | refine L.ld ?_ | refine L.ldd ?_ | refine L.ldn ?_ | refine L.lddn ?_)
  | (show WOpsT _ (⟨_, .idx _ _ _ _, none⟩ :: _) _ _ _ _; first | refine L.idx ?_ | refine L.idxs ?_)
  | (show WOpsT _ (⟨_, .bin _ _ _, none⟩ :: _) _ _ _ _; first | refine L.add ?_ | refine L.bin ?_)
  | (show AK _ _ (.cond _ _ _) _ _ _ _; first | refine N.c1 ?_ | refine N.c2 ?_ | refine N.c3 ?_ | refine N.c4 ?_ | refine N.condD rfl (fun hcd => ?_) (fun hcd => ?_) | refine N.condB rfl (fun hcd => ?_) (fun hcd => ?_) | refine N.condU rfl ?_ ?_)
  | (show AK _ _ _ _ _ _ _; first | refine N.seq ?_ | refine N.block ?_ | refine N.skip ?_ | refine N.exit ?_ | refine N.ret ?_)
  | (show RK _ _ _ _ _ _ _; simp only [rk, rk0, reduceIte, Nat.reduceEqDiff])
  | (show WOpsT _ _ _ _ _ _; first | refine L.fad ?_ | refine L.fadd ?_ | refine L.st ?_ | refine L.zero ?_ | refine L.build ?_ | refine L.len ?_ | refine L.lenS ?_ | refine L.lenN ?_ | refine L.bsl ?_)
  | refine hQ _ _ _ rfl ?_
  | refine hQN _ _ _ rfl ?_)
  refine wB 43 ?_
  repeat' (first
  | refine N.regS fun K hK => ?_
  | refine N.dregS fun K hK => ?_
  | refine N.regN fun K hK => ?_
  | refine N.dregN fun K hK => ?_
  | simp only [T.mv, sm, AO.ev, put, lk, enter, reduceIte, Nat.reduceEqDiff, Nat.reduceAdd, Nat.reduceMul, Nat.reduceSub, Int.reduceNeg, Int.reduceToNat, upto, renB, setAll]
  | (refine T.nil ?_; (first | refine hK _ _ _ (by rfl) ?_ | refine hK _ _ _ ?_); (try simp only [keep, List.map, lk, reduceIte, Nat.reduceEqDiff, enter]); clear hK K)
  | (show WOpsT _ (⟨_, .ld _ _, none⟩ :: _) _ _ _ _; first | refine L.ld ?_ | refine L.ldd ?_ | refine L.ldn ?_ | refine L.lddn ?_)
  | (show WOpsT _ (⟨_, .idx _ _ _ _, none⟩ :: _) _ _ _ _; first | refine L.idx ?_ | refine L.idxs ?_)
  | (show WOpsT _ (⟨_, .bin _ _ _, none⟩ :: _) _ _ _ _; first | refine L.add ?_ | refine L.bin ?_)
  | (show AK _ _ (.cond _ _ _) _ _ _ _; first | refine N.c1 ?_ | refine N.c2 ?_ | refine N.c3 ?_ | refine N.c4 ?_ | refine N.condD rfl (fun hcd => ?_) (fun hcd => ?_) | refine N.condB rfl (fun hcd => ?_) (fun hcd => ?_) | refine N.condU rfl ?_ ?_)
  | (show AK _ _ _ _ _ _ _; first | refine N.seq ?_ | refine N.block ?_ | refine N.skip ?_ | refine N.exit ?_ | refine N.ret ?_)
  | (show RK _ _ _ _ _ _ _; simp only [rk, rk0, reduceIte, Nat.reduceEqDiff])
  | (show WOpsT _ _ _ _ _ _; first | refine L.fad ?_ | refine L.fadd ?_ | refine L.st ?_ | refine L.zero ?_ | refine L.build ?_ | refine L.len ?_ | refine L.lenS ?_ | refine L.lenN ?_ | refine L.bsl ?_)
  | refine hQ _ _ _ rfl ?_
  | refine hQN _ _ _ rfl ?_)
  refine N.weak (fr1 := [(0, .ptr 0 1 0 0), (45, .psl 2 1 0 6), (46, I 6), (47, I 0)]) (h1 := [mA 43, mB 43, ⟨1, 3, tabW.map row3⟩]) (Weaks.sel (by repeat (first | exact trivial | refine ⟨.rfl, ?_⟩ | refine ⟨.any, ?_⟩)) rfl) (N.now ?_)
  repeat' (first
  | refine N.regS fun K hK => ?_
  | refine N.dregS fun K hK => ?_
  | refine N.regN fun K hK => ?_
  | refine N.dregN fun K hK => ?_
  | simp only [T.mv, sm, AO.ev, put, lk, enter, reduceIte, Nat.reduceEqDiff, Nat.reduceAdd, Nat.reduceMul, Nat.reduceSub, Int.reduceNeg, Int.reduceToNat, upto, renB, setAll]
  | (refine T.nil ?_; (first | refine hK _ _ _ (by rfl) ?_ | refine hK _ _ _ ?_); (try simp only [keep, List.map, lk, reduceIte, Nat.reduceEqDiff, enter]); clear hK K)
  | (show WOpsT _ (⟨_, .ld _ _, none⟩ :: _) _ _ _ _; first | refine L.ld ?_ | refine L.ldd ?_ | refine L.ldn ?_ | refine L.lddn ?_)
  | (show WOpsT _ (⟨_, .idx _ _ _ _, none⟩ :: _) _ _ _ _; first | refine L.idx ?_ | refine L.idxs ?_)
  | (show WOpsT _ (⟨_, .bin _ _ _, none⟩ :: _) _ _ _ _; first | refine L.add ?_ | refine L.bin ?_)
  | (show AK _ _ (.cond _ _ _) _ _ _ _; first | refine N.c1 ?_ | refine N.c2 ?_ | refine N.c3 ?_ | refine N.c4 ?_ | refine N.condD rfl (fun hcd => ?_) (fun hcd => ?_) | refine N.condB rfl (fun hcd => ?_) (fun hcd => ?_) | refine N.condU rfl ?_ ?_)
  | (show AK _ _ _ _ _ _ _; first | refine N.seq ?_ | refine N.block ?_ | refine N.skip ?_ | refine N.exit ?_ | refine N.ret ?_)
  | (show RK _ _ _ _ _ _ _; simp only [rk, rk0, reduceIte, Nat.reduceEqDiff])
  | (show WOpsT _ _ _ _ _ _; first | refine L.fad ?_ | refine L.fadd ?_ | refine L.st ?_ | refine L.zero ?_ | refine L.build ?_ | refine L.len ?_ | refine L.lenS ?_ | refine L.lenN ?_ | refine L.bsl ?_)
  | refine hQ _ _ _ rfl ?_
  | refine hQN _ _ _ rfl ?_)
  refine N.loop (σ := Nat) (fun i => [(0, .ptr 0 1 0 0), (45, .psl 2 1 0 6), (46, I 6), (47, I i)]) (fun i => [mA (43 + i), mB (43 + i), ⟨1, 3, tabW.map row3⟩]) (fun i => i ≤ 6) (fun i => 6 - i) 0 (by omega) (Weaks.sel (by repeat (first | exact trivial | refine ⟨.rfl, ?_⟩ | refine ⟨.any, ?_⟩)) rfl) fun i hi R hC => ?_
  by_cases hil : i < 6
  · have e3 : 0 + (i : Int).toNat = i := by omega
    obtain ⟨p, hp⟩ : ∃ p, tabW[i]? = some p := ⟨tabW[i]'hil, List.getElem?_eq_getElem hil⟩
    have hrow : (tabW.map row3)[i]? = some (row3 p) := by rw [List.getElem?_map, hp]; rfl
    have hst : stdL[43 + i]? = some [(p.1, 7, [rdM 0 5 [⟨24, 0, p.2.2, p.2.1⟩], noM [twoM 23 7 5]])] := by
      have : ∀ j, j < 6 → ∀ q, tabW[j]? = some q → stdL[43 + j]? = some [(q.1, 7, [rdM 0 5 [⟨24, 0, q.2.2, q.2.1⟩], noM [twoM 23 7 5]])] := by
        intro j hj q hq
        match j, hj with
        | 0, _ => cases hq; rfl
        | 1, _ => cases hq; rfl
        | 2, _ => cases hq; rfl
        | 3, _ => cases hq; rfl
        | 4, _ => cases hq; rfl
        | 5, _ => cases hq; rfl
      exact this i hil p hp
    have hj := addS2 (43 + i) (by omega) p.1 7 1 0 5 0 0 0 [⟨24, 0, p.2.2, p.2.1⟩] [twoM 23 7 5] 1 1
    repeat' (first
    | rw [e3]
    | (show WOpsT _ (⟨_, .ld _ _, none⟩ :: _) _ _ _ _; refine T.ldn rfl rfl rfl hrow (Nat.le_of_ble_eq_true rfl) ?_)
    | rw [rows_renA]
    | refine N.regS fun K hK => ?_
    | refine N.dregS fun K hK => ?_
    | refine N.regN fun K hK => ?_
    | refine N.dregN fun K hK => ?_
    | simp only [T.mv, sm, AO.ev, put, lk, enter, reduceIte, Nat.reduceEqDiff, Nat.reduceAdd, Nat.reduceMul, Nat.reduceSub, Int.reduceNeg, Int.reduceToNat, upto, renB, setAll]
    | (refine T.nil ?_; (first | refine hK _ _ _ (by rfl) ?_ | refine hK _ _ _ ?_); (try simp only [keep, List.map, lk, reduceIte, Nat.reduceEqDiff, enter]); clear hK K)
    | (show WOpsT _ (⟨_, .call _ _, none⟩ :: _) _ _ _ _; first | refine T.cP [4] e148 ((rdP_ok 0 5 [⟨24, 0, p.2.2, p.2.1⟩] 1)) ?_ | refine T.call0 e185 rfl ((two_ok 23 7 5)) ?_ | refine T.cP [5] e184 ((noP_ok [twoM 23 7 5] 1)) ?_ | refine T.cP [0, 1, 6, 4, 5] e183 (hj) ?_)
    | (show WOpsT _ (⟨_, .ld _ _, none⟩ :: _) _ _ _ _; first | refine L.ld ?_ | refine L.ldd ?_ | refine L.ldn ?_ | refine L.lddn ?_)
    | (show WOpsT _ (⟨_, .idx _ _ _ _, none⟩ :: _) _ _ _ _; first | refine L.idx ?_ | refine L.idxs ?_)
    | (show WOpsT _ (⟨_, .bin _ _ _, none⟩ :: _) _ _ _ _; first | refine L.add ?_ | refine L.bin ?_)
    | (show AKW _ _ _ _ _ _ _; first | refine N.now ?_)
    | (show AK _ _ (.cond _ _ _) _ _ _ _; first | refine N.c1 ?_ | refine N.c2 ?_ | refine N.c3 ?_ | refine N.c4 ?_ | refine N.condD rfl (fun hcd => ?_) (fun hcd => ?_) | refine N.condB rfl (fun hcd => ?_) (fun hcd => ?_) | refine N.condU rfl ?_ ?_)
    | (show AK _ _ _ _ _ _ _; first | refine N.seq ?_ | refine N.block ?_ | refine N.skip ?_ | refine N.exit ?_ | refine N.ret ?_)
    | (show RK _ _ _ _ _ _ _; simp only [rk, rk0, reduceIte, Nat.reduceEqDiff])
    | (show WOpsT _ _ _ _ _ _; first | refine L.fad ?_ | refine L.fadd ?_ | refine L.st ?_ | refine L.zero ?_ | refine L.build ?_ | refine L.len ?_ | refine L.lenS ?_ | refine L.lenN ?_ | refine L.bsl ?_)
    | refine hQ _ _ _ rfl ?_
    | refine hQN _ _ _ rfl ?_)
    exact hC _ _ (i + 1) (by omega) (by omega) (Weaks.gc [0, 1, 2] 2 rfl (by repeat (first | exact trivial | refine ⟨.rfl, ?_⟩ | refine ⟨.any, ?_⟩)) (by rw [show 43 + (i + 1) = 43 + i + 1 from rfl, mA_succ hst, mB_succ hst]; show [_, _, _] = [_, outB _ [0, 1, 2] 2 ⟨_, 4, (number 0 (memR (43 + i))).map inC ++ [_]⟩, _]; rw [outB_in (x := insN (number 0 (memR (43 + i))) p.1 7 ([rdM 0 5 [⟨24, 0, p.2.2, p.2.1⟩], noM [twoM 23 7 5]])) rfl]; rfl))
  · obtain rfl : i = 6 := by omega
    repeat' (first
    | refine N.regS fun K hK => ?_
    | refine N.dregS fun K hK => ?_
    | refine N.regN fun K hK => ?_
    | refine N.dregN fun K hK => ?_
    | simp only [T.mv, sm, AO.ev, put, lk, enter, reduceIte, Nat.reduceEqDiff, Nat.reduceAdd, Nat.reduceMul, Nat.reduceSub, Int.reduceNeg, Int.reduceToNat, upto, renB, setAll]
    | (refine T.nil ?_; (first | refine hK _ _ _ (by rfl) ?_ | refine hK _ _ _ ?_); (try simp only [keep, List.map, lk, reduceIte, Nat.reduceEqDiff, enter]); clear hK K)
    | (show WOpsT _ (⟨_, .ld _ _, none⟩ :: _) _ _ _ _; first | refine L.ld ?_ | refine L.ldd ?_ | refine L.ldn ?_ | refine L.lddn ?_)
    | (show WOpsT _ (⟨_, .idx _ _ _ _, none⟩ :: _) _ _ _ _; first | refine L.idx ?_ | refine L.idxs ?_)
    | (show WOpsT _ (⟨_, .bin _ _ _, none⟩ :: _) _ _ _ _; first | refine L.add ?_ | refine L.bin ?_)
    | (show AKW _ _ _ _ _ _ _; first | refine N.now ?_)
    | (show AK _ _ (.cond _ _ _) _ _ _ _; first | refine N.c1 ?_ | refine N.c2 ?_ | refine N.c3 ?_ | refine N.c4 ?_ | refine N.condD rfl (fun hcd => ?_) (fun hcd => ?_) | refine N.condB rfl (fun hcd => ?_) (fun hcd => ?_) | refine N.condU rfl ?_ ?_)
    | (show AK _ _ _ _ _ _ _; first | refine N.seq ?_ | refine N.block ?_ | refine N.skip ?_ | refine N.exit ?_ | refine N.ret ?_)
    | (show RK _ _ _ _ _ _ _; simp only [rk, rk0, reduceIte, Nat.reduceEqDiff])
    | (show WOpsT _ _ _ _ _ _; first | refine L.fad ?_ | refine L.fadd ?_ | refine L.st ?_ | refine L.zero ?_ | refine L.build ?_ | refine L.len ?_ | refine L.lenS ?_ | refine L.lenN ?_ | refine L.bsl ?_)
    | refine hQ _ _ _ rfl ?_
    | refine hQN _ _ _ rfl ?_)
    exact WS.gc [0, 1] 0 rfl (by show [mA 49, mB 49] = [outB _ [0, 1] 0 (mA 49), outB _ _ _ (mB 49)]; rw [outB_mB]; rfl) .rfl
end Go.Proofs.Ytjmmompbmjhkpaa.Calc

namespace Go.Proofs.Ytjmmompbmjhkpaa.Calc
open Go Code
set_option linter.unusedSimpArgs false
set_option linter.unusedVariables false
set_option maxRecDepth 20000
set_option maxHeartbeats 4000000
attribute [local irreducible] WOpsT AW AK RK AKW UK UC
theorem answers_ok (lo hi : Int) : FnE Try.prog 150 [I lo, I hi] [] (.sl 4 ((answersM lo hi).map cyC)) [] := by
  refine N.fn Try.func150 k150 lb q150 fun Q hQ hQN => ?_
  rw [c150]
  repeat' (first
  | refine N.regS fun K hK => ?_
  | refine N.dregS fun K hK => ?_
  | refine N.regN fun K hK => ?_
  | refine N.dregN fun K hK => ?_
  | simp only [T.mv, sm, AO.ev, put, lk, enter, reduceIte, Nat.reduceEqDiff, Nat.reduceAdd, Nat.reduceMul, Nat.reduceSub, Int.reduceNeg, Int.reduceToNat, upto, renB, setAll]
  | (refine T.nil ?_; (first | refine hK _ _ _ (by rfl) ?_ | refine hK _ _ _ ?_); (try simp only [keep, List.map, lk, reduceIte, Nat.reduceEqDiff, enter]); clear hK K)
  | (show WOpsT _ (⟨_, .call _ _, none⟩ :: _) _ _ _ _; first | refine T.call0 e185 rfl ((two_ok 21 5 7)) ?_ | refine T.call0 e185 rfl ((two_ok 20 5 7)) ?_ | refine T.cP [0] e184 ((noP_ok [twoM 21 5 7] 1)) ?_ | refine T.cP [1] e187 ((wrP_ok 4 5 [twoM 20 5 7] 1)) ?_ | refine T.call0 e187 rfl ((wrN_ok 4 5)) ?_ | refine T.cP [2] e187 ((wrP_ok 4 4 [⟨16, 0, 0, 4⟩] 1)) ?_ | refine T.call0 e148 rfl ((rdN_ok lo 5)) ?_ | refine T.callN e149 rfl ((jump_ok 7)) (by simp) ?_ | refine T.cP [3] e148 ((rdP_ok hi 6 (jumpM 7) 2)) ?_)
  | (show AKW _ _ _ _ _ _ _; first | refine N.now ?_)
  | (show AK _ _ _ _ _ _ _; first | refine N.seq ?_ | refine N.ret ?_)
  | (show RK _ _ _ _ _ _ _; simp only [rk, rk0, reduceIte, Nat.reduceEqDiff])
  | (show WOpsT _ _ _ _ _ _; first | refine L.build ?_ | refine L.bsl ?_)
  | refine hQ _ _ _ rfl ?_
  | refine hQN _ _ _ rfl ?_)
  exact WS.drop (n := 2) rfl rfl
def resM : List Cyc := [rdM 10 5 [], rdM 11 6 [twoM 18 7 5, twoM 19 7 6, ⟨2, 3, 0, 255⟩]]
theorem stdCpu_ok : FnE Try.prog 78 [] [] (.agg (cpC stdM)) [] := by
  refine N.fn Try.func78 k78 lb q78 fun Q hQ hQN => ?_
  rw [c78]
  repeat' (first
  | (show AKW _ _ (.seq (.reg (⟨some 3, _, _⟩ :: _) _) _) _ _ _ _; refine N.now ?_)
  | (show AKW _ _ (.seq (.reg (⟨some 5, _, _⟩ :: _) _) _) _ _ _ _; refine N.now ?_)
  | simp only [renB_mB]
  | refine N.regS fun K hK => ?_
  | refine N.dregS fun K hK => ?_
  | refine N.regN fun K hK => ?_
  | refine N.dregN fun K hK => ?_
  | simp only [T.mv, sm, AO.ev, put, lk, enter, reduceIte, Nat.reduceEqDiff, Nat.reduceAdd, Nat.reduceMul, Nat.reduceSub, Int.reduceNeg, Int.reduceToNat, upto, renB, setAll]
  | (refine T.nil ?_; (first | refine hK _ _ _ (by rfl) ?_ | refine hK _ _ _ ?_); (try simp only [keep, List.map, lk, reduceIte, Nat.reduceEqDiff, enter]); clear hK K)
  | (show WOpsT _ (⟨_, .call _ _, none⟩ :: _) _ _ _ _; first | refine T.cP [1] e145 (memory_ok) ?_)
  | (show WOpsT _ (⟨_, .ld _ _, none⟩ :: _) _ _ _ _; first | refine L.ld ?_ | refine L.ldd ?_)
  | (show AK _ _ _ _ _ _ _; first | refine N.seq ?_ | refine N.ret ?_)
  | (show RK _ _ _ _ _ _ _; simp only [rk, rk0, reduceIte, Nat.reduceEqDiff])
  | (show WOpsT _ _ _ _ _ _; first | refine L.fad ?_ | refine L.fadd ?_ | refine L.nilc ?_ | refine L.nilcd ?_ | refine T.nilcf rfl ?_ | refine T.nilci rfl ?_ | refine L.st ?_ | refine L.new ?_ | refine L.zero ?_ | refine L.build ?_ | refine L.bsl ?_)
  | refine hQ _ _ _ rfl ?_
  | refine hQN _ _ _ rfl ?_)
  refine N.weak (fr1 := [(0, .ptr 0 1 0 0), (1, .ptr 1 1 0 0)]) (h1 := [_, mkA 2 (number 0 (memR 20)), mB 20]) (Weaks.sel ⟨.rfl, .rfl, trivial⟩ (by show [_, _, _] = [_, renB [1, 2] (mA 20), renB [1, 2] (mB 20)]; rw [renB_mB]; rfl)) (N.now ?_)
  repeat' (first
  | simp only [renB_mB]
  | refine N.regS fun K hK => ?_
  | refine N.dregS fun K hK => ?_
  | refine N.regN fun K hK => ?_
  | refine N.dregN fun K hK => ?_
  | simp only [T.mv, sm, AO.ev, put, lk, enter, reduceIte, Nat.reduceEqDiff, Nat.reduceAdd, Nat.reduceMul, Nat.reduceSub, Int.reduceNeg, Int.reduceToNat, upto, renB, setAll]
  | (refine T.nil ?_; (first | refine hK _ _ _ (by rfl) ?_ | refine hK _ _ _ ?_); (try simp only [keep, List.map, lk, reduceIte, Nat.reduceEqDiff, enter]); clear hK K)
  | (show WOpsT _ (⟨_, .call _ _, none⟩ :: _) _ _ _ _; first | refine T.cP [1, 2] e146 (alone_ok) ?_)
  | (show WOpsT _ (⟨_, .ld _ _, none⟩ :: _) _ _ _ _; first | refine L.ld ?_ | refine L.ldd ?_)
  | (show AK _ _ _ _ _ _ _; first | refine N.seq ?_ | refine N.ret ?_)
  | (show RK _ _ _ _ _ _ _; simp only [rk, rk0, reduceIte, Nat.reduceEqDiff])
  | (show WOpsT _ _ _ _ _ _; first | refine L.fad ?_ | refine L.fadd ?_ | refine L.nilc ?_ | refine L.nilcd ?_ | refine T.nilcf rfl ?_ | refine T.nilci rfl ?_ | refine L.st ?_ | refine L.new ?_ | refine L.zero ?_ | refine L.build ?_ | refine L.bsl ?_)
  | refine hQ _ _ _ rfl ?_
  | refine hQN _ _ _ rfl ?_)
  refine N.weak (fr1 := [(0, .ptr 0 1 0 0), (1, .ptr 1 1 0 0)]) (h1 := [_, mkA 2 (number 0 (memR 39)), mB 39]) (Weaks.sel ⟨.rfl, .rfl, trivial⟩ (by show [_, _, _] = [_, renB [1, 2] (mA 39), renB [1, 2] (mB 39)]; rw [renB_mB]; rfl)) (N.now ?_)
  repeat' (first
  | simp only [renB_mB]
  | refine N.regS fun K hK => ?_
  | refine N.dregS fun K hK => ?_
  | refine N.regN fun K hK => ?_
  | refine N.dregN fun K hK => ?_
  | simp only [T.mv, sm, AO.ev, put, lk, enter, reduceIte, Nat.reduceEqDiff, Nat.reduceAdd, Nat.reduceMul, Nat.reduceSub, Int.reduceNeg, Int.reduceToNat, upto, renB, setAll]
  | (refine T.nil ?_; (first | refine hK _ _ _ (by rfl) ?_ | refine hK _ _ _ ?_); (try simp only [keep, List.map, lk, reduceIte, Nat.reduceEqDiff, enter]); clear hK K)
  | (show WOpsT _ (⟨_, .call _ _, none⟩ :: _) _ _ _ _; first | refine T.cP [1, 2] e147 (ways_ok) ?_)
  | (show WOpsT _ (⟨_, .ld _ _, none⟩ :: _) _ _ _ _; first | refine L.ld ?_ | refine L.ldd ?_)
  | (show AK _ _ _ _ _ _ _; first | refine N.seq ?_ | refine N.ret ?_)
  | (show RK _ _ _ _ _ _ _; simp only [rk, rk0, reduceIte, Nat.reduceEqDiff])
  | (show WOpsT _ _ _ _ _ _; first | refine L.fad ?_ | refine L.fadd ?_ | refine L.nilc ?_ | refine L.nilcd ?_ | refine T.nilcf rfl ?_ | refine T.nilci rfl ?_ | refine L.st ?_ | refine L.new ?_ | refine L.zero ?_ | refine L.build ?_ | refine L.bsl ?_)
  | refine hQ _ _ _ rfl ?_
  | refine hQN _ _ _ rfl ?_)
  refine N.weak (fr1 := [(0, .ptr 0 1 0 0), (1, .ptr 1 1 0 0)]) (h1 := [_, mkA 2 (number 0 (memR 49)), mB 49]) (Weaks.sel ⟨.rfl, .rfl, trivial⟩ (by show [_, _, _] = [_, renB [1, 2] (mA 49), renB [1, 2] (mB 49)]; rw [renB_mB]; rfl)) (N.now ?_)
  repeat' (first
  | (show WOpsT _ (⟨_, .app _ _ _ _, none⟩ :: _) _ _ _ _; refine T.app rfl rfl rfl ⟨by decide, by decide⟩ ⟨rfl, rfl, rfl, by decide⟩ ?_)
  | refine N.regS fun K hK => ?_
  | refine N.dregS fun K hK => ?_
  | refine N.regN fun K hK => ?_
  | refine N.dregN fun K hK => ?_
  | simp only [T.mv, sm, AO.ev, put, lk, enter, reduceIte, Nat.reduceEqDiff, Nat.reduceAdd, Nat.reduceMul, Nat.reduceSub, Int.reduceNeg, Int.reduceToNat, upto, renB, setAll]
  | (refine T.nil ?_; (first | refine hK _ _ _ (by rfl) ?_ | refine hK _ _ _ ?_); (try simp only [keep, List.map, lk, reduceIte, Nat.reduceEqDiff, enter]); clear hK K)
  | (show WOpsT _ (⟨_, .call _ _, none⟩ :: _) _ _ _ _; first | refine T.call0 e148 rfl ((rdN_ok 10 5)) ?_ | refine T.callN e149 rfl ((jump_ok 7)) (by simp) ?_ | refine T.cP [3] e148 ((rdQ_ok 11 6 [twoM 18 7 5, twoM 19 7 6, ⟨2, 3, 0, 255⟩] 3)) ?_)
  | (show WOpsT _ (⟨_, .ld _ _, none⟩ :: _) _ _ _ _; first | refine L.ld ?_ | refine L.ldd ?_)
  | (show AK _ _ _ _ _ _ _; first | refine N.seq ?_ | refine N.ret ?_)
  | (show RK _ _ _ _ _ _ _; simp only [rk, rk0, reduceIte, Nat.reduceEqDiff])
  | (show WOpsT _ _ _ _ _ _; first | refine L.fad ?_ | refine L.fadd ?_ | refine L.nilc ?_ | refine L.nilcd ?_ | refine T.nilcf rfl ?_ | refine T.nilci rfl ?_ | refine L.st ?_ | refine L.new ?_ | refine L.zero ?_ | refine L.build ?_ | refine L.bsl ?_)
  | refine hQ _ _ _ rfl ?_
  | refine hQN _ _ _ rfl ?_)
  refine N.weak (fr1 := [(0, .ptr 0 1 0 0), (1, .ptr 1 1 0 0), (2, .sl 4 (resM.map cyC))]) (h1 := [⟨1, 5, [[.c (.string ⟨#[]⟩), .c (.slice none 0 0), .c (.slice none 0 0), .c (.slice none 0 0), .c (.slice none 0 0)]]⟩, ⟨1, 1, [[.sl 4 ((number 0 (memR 49)).map inC)]]⟩]) (Weaks.gc [0, 1] 2 rfl ⟨.rfl, .rfl, .rfl, trivial⟩ ?_) (N.now ?_)
  · show [_, _] = [_, (⟨1, 1, [[out _ [0, 1] 2 (.psl 2 (number 0 (memR 49)).length 0 (number 0 (memR 49)).length)]]⟩ : Blk)]
    rw [out_rowsK (f := inC) (l := number 0 (memR 49)) rfl rfl (Nat.le_refl _)]; rfl
  repeat' (first
  | refine N.regS fun K hK => ?_
  | refine N.dregS fun K hK => ?_
  | refine N.regN fun K hK => ?_
  | refine N.dregN fun K hK => ?_
  | simp only [T.mv, sm, AO.ev, put, lk, enter, reduceIte, Nat.reduceEqDiff, Nat.reduceAdd, Nat.reduceMul, Nat.reduceSub, Int.reduceNeg, Int.reduceToNat, upto, renB, setAll]
  | (refine T.nil ?_; (first | refine hK _ _ _ (by rfl) ?_ | refine hK _ _ _ ?_); (try simp only [keep, List.map, lk, reduceIte, Nat.reduceEqDiff, enter]); clear hK K)
  | (show WOpsT _ (⟨_, .call _ _, none⟩ :: _) _ _ _ _; first | refine T.call0 e150 rfl ((answers_ok 6 7)) ?_ | refine T.call0 e150 rfl ((answers_ok 8 9)) ?_)
  | (show WOpsT _ (⟨_, .ld _ _, none⟩ :: _) _ _ _ _; first | refine L.ld ?_ | refine L.ldd ?_)
  | (show AKW _ _ _ _ _ _ _; first | refine N.now ?_)
  | (show AK _ _ _ _ _ _ _; first | refine N.seq ?_ | refine N.ret ?_)
  | (show RK _ _ _ _ _ _ _; simp only [rk, rk0, reduceIte, Nat.reduceEqDiff])
  | (show WOpsT _ _ _ _ _ _; first | refine L.fad ?_ | refine L.fadd ?_ | refine L.nilc ?_ | refine L.nilcd ?_ | refine T.nilcf rfl ?_ | refine T.nilci rfl ?_ | refine L.st ?_ | refine L.new ?_ | refine L.zero ?_ | refine L.build ?_ | refine L.bsl ?_)
  | refine hQ _ _ _ rfl ?_
  | refine hQN _ _ _ rfl ?_)
  exact WS.drop (n := 0) rfl rfl
end Go.Proofs.Ytjmmompbmjhkpaa.Calc

namespace Go.Proofs.Ytjmmompbmjhkpaa.Calc
open Go Code
set_option linter.unusedSimpArgs false
set_option linter.unusedVariables false
set_option maxRecDepth 20000
set_option maxHeartbeats 4000000
attribute [local irreducible] WOpsT AW AK RK AKW UK UC
theorem stdM_sml : SmlP stdM := by
  unfold SmlP SmlC
  decide +kernel
section
variable {P : Program} {rest : List AOper} {tr : Tr} {fr : Fr} {h : List Blk} {K : KT} {d : Option Nat}
end
theorem co_b (r : Nat → Int) (v : Int) : spl (spl [I 0, I 0, I 0, I 0, I 0, I 0, I 0, I 0, I 0, I 0, I 0, .c (.bool false)] 9 [I v]) 0 (ri r) = coA r v 0 false := rfl
theorem cp_mren (c : Cpu) (ks : List Nat) : (cpC c).map (ren ks) = cpC c := rfl
theorem cp_z (c : Cpu) : spl [.c (.string ⟨#[]⟩), .c (.slice none 0 0), .c (.slice none 0 0), .c (.slice none 0 0), .c (.slice none 0 0)] 0 (cpC c) = cpC c := rfl
end Go.Proofs.Ytjmmompbmjhkpaa.Calc

namespace Go.Proofs.Ytjmmompbmjhkpaa.Calc
open Go Code
set_option linter.unusedSimpArgs false
set_option linter.unusedVariables false
set_option maxRecDepth 20000
set_option maxHeartbeats 4000000
attribute [local irreducible] WOpsT AW AK RK AKW UK UC memF
def runsM : Nat → Core → (Nat → Int) → Core × (Nat → Int)
  | 0, k, f => (k, f)
  | n + 1, k, f => runsM n (runM stdM k f).1 (runM stdM k f).2.2
theorem runs_c (n : Nat) (hn : n ≤ 1000) (k0 : Core) (f0 : Nat → Int) (hf0 : FB f0) : FnE Try.prog 85 [.agg (coC k0), .ifc 98 (.ptr 0 1 0 0), I n] [fA, fB f0] (.agg (coC (runsM n k0 f0).1)) [fA, fB (runsM n k0 f0).2] := by
  have hcpu := stdCpu_ok
  have hrun : ∀ k f, FB f → FnE Try.prog 80 [.agg (cpC stdM), .agg (coC k), .ifc 98 (.ptr 0 1 0 0)] [fA, fB f] (.tup [.agg (coC (runM stdM k f).1), .sl 3 ((runM stdM k f).2.1.map buC)]) [fA, fB (runM stdM k f).2.2] := fun k f hf => run_c stdM stdM_sml k f hf
  have hfb : ∀ k f, FB f → FB (runM stdM k f).2.2 := fun k f hf => runFrom_fb stdM 20 k [] f hf
  generalize hfin : runsM n k0 f0 = F
  have hstep : ∀ m k f, runsM (m + 1) k f = runsM m (runM stdM k f).1 (runM stdM k f).2.2 := fun _ _ _ => rfl
  have hz : ∀ k f, runsM 0 k f = (k, f) := fun _ _ => rfl
  generalize runsM = RS at *
  generalize runM stdM = RN at *
  generalize stdM = c at *
  refine N.fn Try.func85 k85 lb q85 fun Q hQ hQN => ?_
  rw [c85]
  obtain ⟨r0, op0, a0, n0⟩ := k0
  rw [show coC ⟨r0, op0, a0, n0⟩ = coA r0 op0 a0 n0 from rfl]
  repeat' (first
  | rw [co_mren]
  | rw [co_co]
  | rw [co_t12]
  | rw [co_t9]
  | rw [cp_t5]
  | rw [co_z]
  | rw [bu_mren]
  | rw [bu_t3]
  | rw [bu_z]
  | rw [bu_data]
  | simp only [renB_fA, renB_fB]
  | rw [cp_mren]
  | rw [cp_z]
  | rw [ri_t9]
  | rw [ri_mren]
  | rw [co_r]
  | rw [co_b]
  | refine N.regS fun K hK => ?_
  | refine N.dregS fun K hK => ?_
  | refine N.regN fun K hK => ?_
  | refine N.dregN fun K hK => ?_
  | simp only [T.mv, sm, AO.ev, put, lk, enter, reduceIte, Nat.reduceEqDiff, Nat.reduceAdd, Nat.reduceMul, Nat.reduceSub, Int.reduceNeg, Int.reduceToNat, upto, renB, setAll]
  | (refine T.nil ?_; (first | refine hK _ _ _ (by rfl) ?_ | refine hK _ _ _ ?_); (try simp only [keep, List.map, lk, reduceIte, Nat.reduceEqDiff, enter]); clear hK K)
  | (show WOpsT _ (⟨_, .call _ _, none⟩ :: _) _ _ _ _; first | refine T.call0 e78 rfl (hcpu) ?_)
  | (show WOpsT _ (⟨_, .ld _ _, none⟩ :: _) _ _ _ _; first | refine L.ldn ?_ | refine L.lddn ?_)
  | (show WOpsT _ (⟨_, .bin _ _ _, none⟩ :: _) _ _ _ _; first | refine L.add ?_ | refine L.bin ?_)
  | (show AKW _ _ _ _ _ _ _; first | refine N.now ?_)
  | (show AK _ _ (.cond _ _ _) _ _ _ _; first | refine N.c1 ?_ | refine N.c2 ?_ | refine N.c3 ?_ | refine N.c4 ?_ | refine N.condD rfl (fun hcd => ?_) (fun hcd => ?_) | refine N.condB rfl (fun hcd => ?_) (fun hcd => ?_) | refine N.condU rfl ?_ ?_)
  | (show AK _ _ _ _ _ _ _; first | refine N.seq ?_ | refine N.block ?_ | refine N.skip ?_ | refine N.exit ?_ | refine N.ret ?_)
  | (show RK _ _ _ _ _ _ _; simp only [rk, rk0, reduceIte, Nat.reduceEqDiff])
  | (show WOpsT _ _ _ _ _ _; first | refine L.ext ?_ | refine L.st ?_ | refine L.new ?_ | refine L.zero ?_)
  | refine hQ _ _ _ rfl ?_
  | refine hQN _ _ _ rfl ?_)
  refine N.loop (σ := Nat × Core × (Nat → Int)) (fun s => [(1, .ifc 98 (.ptr 0 1 0 0)), (3, .ptr 2 1 0 0), (6, .ptr 3 1 0 0), (7, .ptr 4 1 0 0), (9, I n), (10, I s.1)]) (fun s => [fA, fB s.2.2, ⟨1, 12, [coC s.2.1]⟩, ⟨1, 12, [[I 0, I 0, I 0, I 0, I 0, I 0, I 0, I 0, I 0, I 0, I 0, .c (.bool false)]]⟩, ⟨1, 5, [cpC c]⟩]) (fun s => s.1 ≤ n ∧ FB s.2.2 ∧ RS (n - s.1) s.2.1 s.2.2 = F) (fun s => n - s.1) (0, ⟨r0, op0, a0, n0⟩, f0) ⟨Nat.zero_le _, hf0, hfin⟩ (Weaks.sel (by repeat (first | exact trivial | refine ⟨.rfl, ?_⟩ | refine ⟨.any, ?_⟩)) rfl) fun w hi R hC => ?_
  obtain ⟨i, k, f⟩ := w
  obtain ⟨hi, hf, hst⟩ := hi
  dsimp only at hi hf hst hC ⊢
  by_cases hil : i < n
  · have hr := hrun k f hf
    have hfb := hfb k f hf
    rw [show n - i = n - (i + 1) + 1 by omega, hstep] at hst
    generalize RN k f = q at *
    obtain ⟨k2, bs, f2⟩ := q
    obtain ⟨r1, op1, a1, n1⟩ := k
    obtain ⟨r2, op2, a2, n2⟩ := k2
    dsimp only [coC] at hr hst hfb
    rw [show coC ⟨r1, op1, a1, n1⟩ = coA r1 op1 a1 n1 from rfl]
    repeat' (first
    | rw [co_mren]
    | rw [co_co]
    | rw [co_t12]
    | rw [co_t9]
    | rw [cp_t5]
    | rw [co_z]
    | rw [bu_mren]
    | rw [bu_t3]
    | rw [bu_z]
    | rw [bu_data]
    | simp only [renB_fA, renB_fB]
    | rw [cp_mren]
    | rw [cp_z]
    | rw [ri_t9]
    | rw [ri_mren]
    | rw [co_r]
    | rw [co_b]
    | refine N.regS fun K hK => ?_
    | refine N.dregS fun K hK => ?_
    | refine N.regN fun K hK => ?_
    | refine N.dregN fun K hK => ?_
    | simp only [T.mv, sm, AO.ev, put, lk, enter, reduceIte, Nat.reduceEqDiff, Nat.reduceAdd, Nat.reduceMul, Nat.reduceSub, Int.reduceNeg, Int.reduceToNat, upto, renB, setAll]
    | (refine T.nil ?_; (first | refine hK _ _ _ (by rfl) ?_ | refine hK _ _ _ ?_); (try simp only [keep, List.map, lk, reduceIte, Nat.reduceEqDiff, enter]); clear hK K)
    | (show WOpsT _ (⟨_, .call _ _, none⟩ :: _) _ _ _ _; first | refine T.cP [0, 1] e80 (hr) ?_)
    | (show WOpsT _ (⟨_, .ld _ _, none⟩ :: _) _ _ _ _; first | refine L.ldn ?_ | refine L.lddn ?_)
    | (show WOpsT _ (⟨_, .bin _ _ _, none⟩ :: _) _ _ _ _; first | refine L.add ?_ | refine L.bin ?_)
    | (show AKW _ _ _ _ _ _ _; first | refine N.now ?_)
    | (show AK _ _ (.cond _ _ _) _ _ _ _; first | refine N.c1 ?_ | refine N.c2 ?_ | refine N.c3 ?_ | refine N.c4 ?_ | refine N.condD rfl (fun hcd => ?_) (fun hcd => ?_) | refine N.condB rfl (fun hcd => ?_) (fun hcd => ?_) | refine N.condU rfl ?_ ?_)
    | (show AK _ _ _ _ _ _ _; first | refine N.seq ?_ | refine N.block ?_ | refine N.skip ?_ | refine N.exit ?_ | refine N.ret ?_)
    | (show RK _ _ _ _ _ _ _; simp only [rk, rk0, reduceIte, Nat.reduceEqDiff])
    | (show WOpsT _ _ _ _ _ _; first | refine L.ext ?_ | refine L.st ?_ | refine L.new ?_ | refine L.zero ?_)
    | refine hQ _ _ _ rfl ?_
    | refine hQN _ _ _ rfl ?_)
    exact hC _ _ (i + 1, ⟨r2, op2, a2, n2⟩, f2) ⟨by dsimp only; omega, hfb, hst⟩ (by dsimp only; omega) (Weaks.gc [0, 1, 2, 3, 4] 1 rfl (by repeat (first | exact trivial | refine ⟨.rfl, ?_⟩ | refine ⟨.any, ?_⟩)) (by show [_, _, _, _, _] = [outB _ _ _ (renB [0, 1] fA), outB _ _ _ (renB [0, 1] (fB f2)), _, _, _]; rw [renB_fB, outB_fB]; rfl))
  · obtain rfl : i = n := by omega
    rw [Nat.sub_self, hz] at hst
    subst hst
    obtain ⟨r1, op1, a1, n1⟩ := k
    dsimp only at hQ hQN
    rw [show coC ⟨r1, op1, a1, n1⟩ = coA r1 op1 a1 n1 from rfl]
    repeat' (first
    | rw [co_mren]
    | rw [co_co]
    | rw [co_t12]
    | rw [co_t9]
    | rw [cp_t5]
    | rw [co_z]
    | rw [bu_mren]
    | rw [bu_t3]
    | rw [bu_z]
    | rw [bu_data]
    | simp only [renB_fA, renB_fB]
    | rw [cp_mren]
    | rw [cp_z]
    | rw [ri_t9]
    | rw [ri_mren]
    | rw [co_r]
    | rw [co_b]
    | refine N.regS fun K hK => ?_
    | refine N.dregS fun K hK => ?_
    | refine N.regN fun K hK => ?_
    | refine N.dregN fun K hK => ?_
    | simp only [T.mv, sm, AO.ev, put, lk, enter, reduceIte, Nat.reduceEqDiff, Nat.reduceAdd, Nat.reduceMul, Nat.reduceSub, Int.reduceNeg, Int.reduceToNat, upto, renB, setAll]
    | (refine T.nil ?_; (first | refine hK _ _ _ (by rfl) ?_ | refine hK _ _ _ ?_); (try simp only [keep, List.map, lk, reduceIte, Nat.reduceEqDiff, enter]); clear hK K)
    | (show WOpsT _ (⟨_, .ld _ _, none⟩ :: _) _ _ _ _; first | refine L.ldn ?_ | refine L.lddn ?_)
    | (show WOpsT _ (⟨_, .bin _ _ _, none⟩ :: _) _ _ _ _; first | refine L.add ?_ | refine L.bin ?_)
    | (show AKW _ _ _ _ _ _ _; first | refine N.now ?_)
    | (show AK _ _ (.cond _ _ _) _ _ _ _; first | refine N.c1 ?_ | refine N.c2 ?_ | refine N.c3 ?_ | refine N.c4 ?_ | refine N.condD rfl (fun hcd => ?_) (fun hcd => ?_) | refine N.condB rfl (fun hcd => ?_) (fun hcd => ?_) | refine N.condU rfl ?_ ?_)
    | (show AK _ _ _ _ _ _ _; first | refine N.seq ?_ | refine N.block ?_ | refine N.skip ?_ | refine N.exit ?_ | refine N.ret ?_)
    | (show RK _ _ _ _ _ _ _; simp only [rk, rk0, reduceIte, Nat.reduceEqDiff])
    | (show WOpsT _ _ _ _ _ _; first | refine L.ext ?_ | refine L.st ?_ | refine L.new ?_ | refine L.zero ?_)
    | refine hQ _ _ _ rfl ?_
    | refine hQN _ _ _ rfl ?_)
    exact WS.gc [0, 1] 1 rfl (by show [_, _] = [_, outB _ _ _ (fB f)]; rw [outB_fB]; rfl) .rfl
def progF (p : List Int) : Nat → Int := fun i => if 1024 ≤ i ∧ i < 1024 + p.length then p.getD (i - 1024) 0 else 0
def zeroF : Nat → Int := fun _ => 0
theorem zero_mem : List.replicate 65536 [V.c (.int .u8 0)] = bcells (memF zeroF) := by
  apply List.ext_getElem?
  intro j
  rw [List.getElem?_replicate, bcells_get]
  unfold memF zeroF
  by_cases hj : j < 65536
  · rw [if_pos hj, List.getElem?_map, List.getElem?_range hj]; rfl
  · rw [if_neg hj, List.getElem?_map, List.getElem?_eq_none (l := List.range 65536) (by simp; omega)]; rfl
theorem memF_getD (f : Nat → Int) (j : Nat) : (bcells (memF f))[j]? = if j < 65536 then some [.c (.int .u8 (f j))] else none := by
  rw [bcells_get]; unfold memF
  by_cases hj : j < 65536
  · rw [if_pos hj, List.getElem?_map, List.getElem?_range hj]; rfl
  · rw [if_neg hj, List.getElem?_map, List.getElem?_eq_none (l := List.range 65536) (by simp; omega)]; rfl
theorem copy_mem (p : List Int) (hp : p.length ≤ 1000) (n : Nat) (hn : n = 64512) : (bcells (memF zeroF)).take 1024 ++ ((bcells p).take p.length).take n ++ (bcells (memF zeroF)).drop (1024 + min ((bcells p).take p.length).length n) = bcells (memF (progF p)) := by
  subst hn
  have e1 : (bcells p).take p.length = bcells p := List.take_of_length_le (by rw [bcells_len]; omega)
  have e2 : (bcells p).take 64512 = bcells p := List.take_of_length_le (by rw [bcells_len]; omega)
  have e3 : (bcells (memF zeroF)).length = 65536 := by rw [bcells_len]; unfold memF; simp
  rw [e1, e2, bcells_len, Nat.min_eq_left (by omega)]
  apply List.ext_getElem?
  intro j
  rw [memF_getD]
  unfold progF
  by_cases h1 : j < 1024
  · rw [List.append_assoc, List.getElem?_append_left (by rw [List.length_take, e3]; omega), List.getElem?_take_of_lt h1, memF_getD, if_pos (by omega), if_pos (by omega), if_neg (by omega)]; rfl
  · have e4 : ((bcells (memF zeroF)).take 1024).length = 1024 := by rw [List.length_take, e3]; decide
    by_cases h2 : j < 1024 + p.length
    · rw [List.append_assoc, List.getElem?_append_right (by omega), e4, List.getElem?_append_left (by rw [bcells_len]; omega), bcells_get, if_pos (by omega), if_pos (by omega), List.getD_eq_getElem?_getD, List.getElem?_eq_getElem (by omega)]; rfl
    · rw [List.getElem?_append_right (by rw [List.length_append, e4, bcells_len]; omega), List.length_append, e4, bcells_len, List.getElem?_drop, memF_getD, if_neg (show ¬ (1024 ≤ j ∧ j < 1024 + p.length) by omega)]
      rw [show 1024 + p.length + (j - (1024 + p.length)) = j by omega]
      rfl
theorem co_b2 (r : Nat → Int) (v : Int) : spl (spl [I 0, I 0, I 0, I 0, I 0, I 0, I 0, I 0, I 0, I 0, I 0, .c (.bool false)] 0 (ri r)) 9 [I v] = coA r v 0 false := rfl
theorem ready_c (l : List Int) (p : List Int) (hp : p.length ≤ 1000) : FnE Try.prog 83 [.sl 1 (cells l), .psl 0 1 0 p.length] [⟨1, 1, bcells p⟩] (.tup [.agg (coA (upd (regsOf l) 7 1024) (-1) 0 false), .ptr 1 1 0 0])
    [⟨1, 1, bcells p⟩, ⟨1, 1, [[.psl 2 1 0 65536]]⟩, fB (progF p)] := by
  have hg := registers_ok l
  generalize regsOf l = r at *
  refine N.fn Try.func83 k83 lb q83 fun Q hQ hQN => ?_
  rw [c83]
  repeat' (first
  | rw [co_mren]
  | rw [co_co]
  | rw [co_t12]
  | rw [co_t9]
  | rw [cp_t5]
  | rw [co_z]
  | rw [bu_mren]
  | rw [bu_t3]
  | rw [bu_z]
  | rw [bu_data]
  | simp only [renB_fA, renB_fB]
  | rw [cp_mren]
  | rw [cp_z]
  | rw [ri_t9]
  | rw [ri_mren]
  | rw [co_r]
  | rw [co_b]
  | rw [zero_mem]
  | (show WOpsT _ (⟨_, .copy _ _ _, none⟩ :: _) _ _ _ _; refine T.copy rfl rfl rfl ⟨rfl, rfl⟩ ?_)
  | rw [co_b2]
  | rw [co_reg _ _ _ _ _ 7 (by decide)]
  | refine N.regS fun K hK => ?_
  | refine N.dregS fun K hK => ?_
  | refine N.regN fun K hK => ?_
  | refine N.dregN fun K hK => ?_
  | simp only [T.mv, sm, AO.ev, put, lk, enter, reduceIte, Nat.reduceEqDiff, Nat.reduceAdd, Nat.reduceMul, Nat.reduceSub, Int.reduceNeg, Int.reduceToNat, upto, renB, setAll]
  | (refine T.nil ?_; (first | refine hK _ _ _ (by rfl) ?_ | refine hK _ _ _ ?_); (try simp only [keep, List.map, lk, reduceIte, Nat.reduceEqDiff, enter]); clear hK K)
  | (show WOpsT _ (⟨_, .call _ _, none⟩ :: _) _ _ _ _; first | refine T.call0 e53 rfl (hg) ?_)
  | (show WOpsT _ (⟨_, .ld _ _, none⟩ :: _) _ _ _ _; first | refine L.ld ?_ | refine L.ldd ?_ | refine L.ldn ?_ | refine L.lddn ?_)
  | (show WOpsT _ (⟨_, .idx _ _ _ _, none⟩ :: _) _ _ _ _; first | refine L.idxa ?_ | refine L.idxd ?_)
  | (show AKW _ _ _ _ _ _ _; first | refine N.now ?_)
  | (show AK _ _ _ _ _ _ _; first | refine N.seq ?_ | refine N.ret ?_)
  | (show RK _ _ _ _ _ _ _; simp only [rk, rk0, reduceIte, Nat.reduceEqDiff])
  | (show WOpsT _ _ _ _ _ _; first | refine T.slcN rfl rfl rfl ?_ | refine L.fad ?_ | refine L.fadd ?_ | refine L.nilc ?_ | refine L.nilcd ?_ | refine T.nilcf rfl ?_ | refine T.nilci rfl ?_ | refine L.st ?_ | refine L.new ?_ | refine L.zero ?_ | refine L.build ?_ | refine T.mksl rfl rfl (by decide) ?_ | refine T.copy rfl rfl rfl ⟨rfl, rfl⟩ ?_ | refine T.slc rfl rfl rfl rfl ⟨rfl, rfl⟩ (by omega) ?_ | refine T.slcS rfl rfl rfl rfl (by omega) ?_)
  | refine hQ _ _ _ rfl ?_
  | refine hQN _ _ _ rfl ?_)
  exact WS.gc [0, 3, 2] 0 rfl (by show [_, _, fB (progF p)] = [outB _ _ _ ⟨1, 1, bcells p⟩, _, outB _ _ _ ⟨1, 1, _⟩]; rw [copy_mem p hp (((65536 : Nat) : Int).toNat - 1024) (by decide), outB_bytes, outB_bytes]; rfl) .rfl
theorem ready0_c (p : List Int) (hp : p.length ≤ 1000) : FnE Try.prog 83 [.c (.slice none 0 0), .psl 0 1 0 p.length] [⟨1, 1, bcells p⟩] (.tup [.agg (coA (upd (regsOf []) 7 1024) (-1) 0 false), .ptr 1 1 0 0])
    [⟨1, 1, bcells p⟩, ⟨1, 1, [[.psl 2 1 0 65536]]⟩, fB (progF p)] := by
  have hg := registers_ok []
  generalize regsOf [] = r at *
  refine N.fn Try.func83 k83 lb q83 fun Q hQ hQN => ?_
  rw [c83]
  repeat' (first
  | refine N.regS fun K hK => ?_
  | refine N.dregS fun K hK => ?_
  | refine N.regN fun K hK => ?_
  | refine N.dregN fun K hK => ?_
  | simp only [T.mv, sm, AO.ev, put, lk, enter, reduceIte, Nat.reduceEqDiff, Nat.reduceAdd, Nat.reduceMul, Nat.reduceSub, Int.reduceNeg, Int.reduceToNat, upto, renB, setAll]
  | (refine T.nil ?_; (first | refine hK _ _ _ (by rfl) ?_ | refine hK _ _ _ ?_); (try simp only [keep, List.map, lk, reduceIte, Nat.reduceEqDiff, enter]); clear hK K)
  | (show WOpsT _ (⟨_, .ld _ _, none⟩ :: _) _ _ _ _; first | refine L.ld ?_ | refine L.ldd ?_ | refine L.ldn ?_ | refine L.lddn ?_)
  | (show WOpsT _ (⟨_, .idx _ _ _ _, none⟩ :: _) _ _ _ _; first | refine L.idxa ?_ | refine L.idxd ?_)
  | (show AK _ _ _ _ _ _ _; first | refine N.seq ?_ | refine N.ret ?_)
  | (show RK _ _ _ _ _ _ _; simp only [rk, rk0, reduceIte, Nat.reduceEqDiff])
  | (show WOpsT _ _ _ _ _ _; first | refine T.slcN rfl rfl rfl ?_ | refine L.fad ?_ | refine L.fadd ?_ | refine L.nilc ?_ | refine L.nilcd ?_ | refine T.nilcf rfl ?_ | refine T.nilci rfl ?_ | refine L.st ?_ | refine L.new ?_ | refine L.zero ?_ | refine L.build ?_ | refine T.mksl rfl rfl (by decide) ?_ | refine T.copy rfl rfl rfl ⟨rfl, rfl⟩ ?_ | refine T.slc rfl rfl rfl rfl ⟨rfl, rfl⟩ (by omega) ?_ | refine T.slcS rfl rfl rfl rfl (by omega) ?_)
  | refine hQ _ _ _ rfl ?_
  | refine hQN _ _ _ rfl ?_)
  refine N.weak (fr1 := [(0, .sl 1 (cells [])), (1, .psl 0 1 0 p.length), (4, .ptr 1 1 0 0)]) (Weaks.sel ⟨.nil, .rfl, .rfl, trivial⟩ rfl) (N.now ?_)
  repeat' (first
  | rw [co_mren]
  | rw [co_co]
  | rw [co_t12]
  | rw [co_t9]
  | rw [cp_t5]
  | rw [co_z]
  | rw [bu_mren]
  | rw [bu_t3]
  | rw [bu_z]
  | rw [bu_data]
  | simp only [renB_fA, renB_fB]
  | rw [cp_mren]
  | rw [cp_z]
  | rw [ri_t9]
  | rw [ri_mren]
  | rw [co_r]
  | rw [co_b]
  | rw [zero_mem]
  | (show WOpsT _ (⟨_, .copy _ _ _, none⟩ :: _) _ _ _ _; refine T.copy rfl rfl rfl ⟨rfl, rfl⟩ ?_)
  | rw [co_b2]
  | rw [co_reg _ _ _ _ _ 7 (by decide)]
  | refine N.regS fun K hK => ?_
  | refine N.dregS fun K hK => ?_
  | refine N.regN fun K hK => ?_
  | refine N.dregN fun K hK => ?_
  | simp only [T.mv, sm, AO.ev, put, lk, enter, reduceIte, Nat.reduceEqDiff, Nat.reduceAdd, Nat.reduceMul, Nat.reduceSub, Int.reduceNeg, Int.reduceToNat, upto, renB, setAll]
  | (refine T.nil ?_; (first | refine hK _ _ _ (by rfl) ?_ | refine hK _ _ _ ?_); (try simp only [keep, List.map, lk, reduceIte, Nat.reduceEqDiff, enter]); clear hK K)
  | (show WOpsT _ (⟨_, .call _ _, none⟩ :: _) _ _ _ _; first | refine T.call0 e53 rfl (hg) ?_)
  | (show WOpsT _ (⟨_, .ld _ _, none⟩ :: _) _ _ _ _; first | refine L.ld ?_ | refine L.ldd ?_ | refine L.ldn ?_ | refine L.lddn ?_)
  | (show WOpsT _ (⟨_, .idx _ _ _ _, none⟩ :: _) _ _ _ _; first | refine L.idxa ?_ | refine L.idxd ?_)
  | (show AKW _ _ _ _ _ _ _; first | refine N.now ?_)
  | (show AK _ _ _ _ _ _ _; first | refine N.seq ?_ | refine N.ret ?_)
  | (show RK _ _ _ _ _ _ _; simp only [rk, rk0, reduceIte, Nat.reduceEqDiff])
  | (show WOpsT _ _ _ _ _ _; first | refine T.slcN rfl rfl rfl ?_ | refine L.fad ?_ | refine L.fadd ?_ | refine L.nilc ?_ | refine L.nilcd ?_ | refine T.nilcf rfl ?_ | refine T.nilci rfl ?_ | refine L.st ?_ | refine L.new ?_ | refine L.zero ?_ | refine L.build ?_ | refine T.mksl rfl rfl (by decide) ?_ | refine T.copy rfl rfl rfl ⟨rfl, rfl⟩ ?_ | refine T.slc rfl rfl rfl rfl ⟨rfl, rfl⟩ (by omega) ?_ | refine T.slcS rfl rfl rfl rfl (by omega) ?_)
  | refine hQ _ _ _ rfl ?_
  | refine hQN _ _ _ rfl ?_)
  exact WS.gc [0, 3, 2] 0 rfl (by show [_, _, fB (progF p)] = [outB _ _ _ ⟨1, 1, bcells p⟩, _, outB _ _ _ ⟨1, 1, _⟩]; rw [copy_mem p hp (((65536 : Nat) : Int).toNat - 1024) (by decide), outB_bytes, outB_bytes]; rfl) .rfl
def opM (s : ByteArray) (m : Int) : Int := (gotM (fun x => decide (x.name = s ∧ x.mode = m)) stdM.ins).1.op
theorem opcode_c (s : ByteArray) (m v : Int) (hv : opM s m = v) (h0 : 0 ≤ v ∧ v < 256) : FnE Try.prog 84 [.c (.string s), I m] [] (.c (.int .u8 v)) [] := by
  have hn := named_ok stdM stdM_sml s m
  have hcpu := stdCpu_ok
  unfold opM at hv
  generalize gotM (fun x => decide (x.name = s ∧ x.mode = m)) stdM.ins = g at *
  obtain ⟨⟨o, nm, mo, cy⟩, b⟩ := g
  dsimp only at hv hn
  subst hv
  have hw := wrap_u8 o h0
  generalize stdM = c at *
  refine N.fn Try.func84 k84 lb q84 fun Q hQ hQN => ?_
  rw [c84]
  repeat' (first
  | rw [co_mren]
  | rw [co_co]
  | rw [co_t12]
  | rw [co_t9]
  | rw [cp_t5]
  | rw [co_z]
  | rw [bu_mren]
  | rw [bu_t3]
  | rw [bu_z]
  | rw [bu_data]
  | simp only [renB_fA, renB_fB]
  | rw [cp_mren]
  | rw [cp_z]
  | rw [ri_t9]
  | rw [ri_mren]
  | rw [co_r]
  | rw [co_b]
  | rw [hw]
  | refine N.regS fun K hK => ?_
  | refine N.dregS fun K hK => ?_
  | refine N.regN fun K hK => ?_
  | refine N.dregN fun K hK => ?_
  | simp only [T.mv, sm, AO.ev, put, lk, enter, reduceIte, Nat.reduceEqDiff, Nat.reduceAdd, Nat.reduceMul, Nat.reduceSub, Int.reduceNeg, Int.reduceToNat, upto, renB, setAll]
  | (refine T.nil ?_; (first | refine hK _ _ _ (by rfl) ?_ | refine hK _ _ _ ?_); (try simp only [keep, List.map, lk, reduceIte, Nat.reduceEqDiff, enter]); clear hK K)
  | (show WOpsT _ (⟨_, .call _ _, none⟩ :: _) _ _ _ _; first | refine T.call0 e78 rfl (hcpu) ?_ | refine T.call0 e63 rfl (hn) ?_)
  | (show WOpsT _ (⟨_, .ld _ _, none⟩ :: _) _ _ _ _; first | refine L.ld ?_ | refine L.ldd ?_)
  | (show AKW _ _ _ _ _ _ _; first | refine N.now ?_)
  | (show AK _ _ _ _ _ _ _; first | refine N.seq ?_ | refine N.ret ?_)
  | (show RK _ _ _ _ _ _ _; simp only [rk, rk0, reduceIte, Nat.reduceEqDiff])
  | (show WOpsT _ _ _ _ _ _; first | refine L.ext ?_ | refine T.cvt rfl ?_ | refine L.fad ?_ | refine L.fadd ?_ | refine L.st ?_ | refine L.zero ?_)
  | refine hQ _ _ _ rfl ?_
  | refine hQN _ _ _ rfl ?_)
  exact WS.c rfl rfl
end Go.Proofs.Ytjmmompbmjhkpaa.Calc

namespace Go.Proofs.Ytjmmompbmjhkpaa.Calc
open Go
set_option linter.unusedVariables false
set_option linter.unusedSimpArgs false
def rg (a x y s p t u pc ad : Int) : Nat → Int := fun i => match i with
  | 0 => a
  | 1 => x
  | 2 => y
  | 3 => s
  | 4 => p
  | 5 => t
  | 6 => u
  | 7 => pc
  | 8 => ad
  | _ => 0
def By (n : Int) : Prop := 0 ≤ n ∧ n < 256
def Wo (n : Int) : Prop := 0 ≤ n ∧ n < 65536
structure Bd (a x y s p t u pc ad : Int) : Prop where
  ha : By a
  hx : By x
  hy : By y
  hs : By s
  hp : By p
  ht : By t
  hu : By u
  hpc : Wo pc
  had : Wo ad
theorem fitN8 {i : Nat} {v : Int} (h7 : i ≠ 7) (h8 : i ≠ 8) (h : By v) : fitN i v = v := by
  unfold fitN By at *; rw [if_neg (by omega)]; omega
theorem fitN16 {i : Nat} {v : Int} (h7 : i = 7 ∨ i = 8) (h : Wo v) : fitN i v = v := by
  unfold fitN Wo at *; rw [if_pos (by omega)]; omega
section
variable {a x y s p t u pc ad : Int}
theorem fit_rg (h : Bd a x y s p t u pc ad) : fitR (rg a x y s p t u pc ad) = rg a x y s p t u pc ad := by
  funext i
  match i with
  | 0 => exact fitN8 (by decide) (by decide) h.ha
  | 1 => exact fitN8 (by decide) (by decide) h.hx
  | 2 => exact fitN8 (by decide) (by decide) h.hy
  | 3 => exact fitN8 (by decide) (by decide) h.hs
  | 4 => exact fitN8 (by decide) (by decide) h.hp
  | 5 => exact fitN8 (by decide) (by decide) h.ht
  | 6 => exact fitN8 (by decide) (by decide) h.hu
  | 7 => exact fitN16 (by decide) h.hpc
  | 8 => exact fitN16 (by decide) h.had
  | i + 9 => show fitN (i + 9) 0 = 0; unfold fitN; split <;> rfl
theorem upd_rg0 (v : Int) : upd (rg a x y s p t u pc ad) 0 v = rg v x y s p t u pc ad := by
  funext i
  match i with
  | 0 => rfl
  | 1 => rfl
  | 2 => rfl
  | 3 => rfl
  | 4 => rfl
  | 5 => rfl
  | 6 => rfl
  | 7 => rfl
  | 8 => rfl
  | i + 9 => show (if i + 9 = 0 then v else 0) = 0; rw [if_neg (by omega)]
theorem upd_rg1 (v : Int) : upd (rg a x y s p t u pc ad) 1 v = rg a v y s p t u pc ad := by
  funext i
  match i with
  | 0 => rfl
  | 1 => rfl
  | 2 => rfl
  | 3 => rfl
  | 4 => rfl
  | 5 => rfl
  | 6 => rfl
  | 7 => rfl
  | 8 => rfl
  | i + 9 => show (if i + 9 = 1 then v else 0) = 0; rw [if_neg (by omega)]
theorem upd_rg3 (v : Int) : upd (rg a x y s p t u pc ad) 3 v = rg a x y v p t u pc ad := by
  funext i
  match i with
  | 0 => rfl
  | 1 => rfl
  | 2 => rfl
  | 3 => rfl
  | 4 => rfl
  | 5 => rfl
  | 6 => rfl
  | 7 => rfl
  | 8 => rfl
  | i + 9 => show (if i + 9 = 3 then v else 0) = 0; rw [if_neg (by omega)]
theorem upd_rg4 (v : Int) : upd (rg a x y s p t u pc ad) 4 v = rg a x y s v t u pc ad := by
  funext i
  match i with
  | 0 => rfl
  | 1 => rfl
  | 2 => rfl
  | 3 => rfl
  | 4 => rfl
  | 5 => rfl
  | 6 => rfl
  | 7 => rfl
  | 8 => rfl
  | i + 9 => show (if i + 9 = 4 then v else 0) = 0; rw [if_neg (by omega)]
theorem upd_rg5 (v : Int) : upd (rg a x y s p t u pc ad) 5 v = rg a x y s p v u pc ad := by
  funext i
  match i with
  | 0 => rfl
  | 1 => rfl
  | 2 => rfl
  | 3 => rfl
  | 4 => rfl
  | 5 => rfl
  | 6 => rfl
  | 7 => rfl
  | 8 => rfl
  | i + 9 => show (if i + 9 = 5 then v else 0) = 0; rw [if_neg (by omega)]
theorem upd_rg6 (v : Int) : upd (rg a x y s p t u pc ad) 6 v = rg a x y s p t v pc ad := by
  funext i
  match i with
  | 0 => rfl
  | 1 => rfl
  | 2 => rfl
  | 3 => rfl
  | 4 => rfl
  | 5 => rfl
  | 6 => rfl
  | 7 => rfl
  | 8 => rfl
  | i + 9 => show (if i + 9 = 6 then v else 0) = 0; rw [if_neg (by omega)]
theorem upd_rg7 (v : Int) : upd (rg a x y s p t u pc ad) 7 v = rg a x y s p t u v ad := by
  funext i
  match i with
  | 0 => rfl
  | 1 => rfl
  | 2 => rfl
  | 3 => rfl
  | 4 => rfl
  | 5 => rfl
  | 6 => rfl
  | 7 => rfl
  | 8 => rfl
  | i + 9 => show (if i + 9 = 7 then v else 0) = 0; rw [if_neg (by omega)]
theorem upd_rg8 (v : Int) : upd (rg a x y s p t u pc ad) 8 v = rg a x y s p t u pc v := by
  funext i
  match i with
  | 0 => rfl
  | 1 => rfl
  | 2 => rfl
  | 3 => rfl
  | 4 => rfl
  | 5 => rfl
  | 6 => rfl
  | 7 => rfl
  | 8 => rfl
  | i + 9 => show (if i + 9 = 8 then v else 0) = 0; rw [if_neg (by omega)]
end
end Go.Proofs.Ytjmmompbmjhkpaa.Calc

namespace Go.Proofs.Ytjmmompbmjhkpaa.Calc
open Go Code
set_option linter.unusedSimpArgs false
set_option linter.unusedVariables false
set_option maxRecDepth 20000
set_option maxHeartbeats 4000000
attribute [local irreducible] WOpsT AW AK RK AKW UK UC memF
theorem wholes_k : (runsM 1 ⟨upd (regsOf []) 7 1024, -1, 0, false⟩ (progF [1, 77])).1.r 0 = 77 ∧ (runsM 1 ⟨upd (regsOf []) 7 1024, -1, 0, false⟩ (progF [1, 77])).1.r 7 = 1026 := by decide +kernel
theorem progF_fb (p : List Int) (hp : Bytes p) : FB (progF p) := by
  intro i; unfold progF; split
  · exact hp _
  · exact ⟨by decide, by decide⟩
theorem bytes2 (a b : Int) (ha : 0 ≤ a ∧ a < 256) (hb : 0 ≤ b ∧ b < 256) : Bytes [a, b] := by
  intro i
  match i with
  | 0 => exact ha
  | 1 => exact hb
  | i + 2 => exact ⟨Int.le_refl 0, by show (0 : Int) < 256; decide⟩
theorem wholes_ok : FnE Try.prog 82 [] [] (.c (.bool true)) [] := by
  have hy := ready0_c [1, 77] (by decide)
  have hw := runs_c 1 (by decide) ⟨upd (regsOf []) 7 1024, -1, 0, false⟩ (progF [1, 77]) (progF_fb _ (bytes2 1 77 (by decide) (by decide)))
  have hk := wholes_k
  generalize hf : progF [1, 77] = f at *
  generalize hr : upd (regsOf []) 7 1024 = r at *
  generalize runsM 1 ⟨r, -1, 0, false⟩ f = w at *
  obtain ⟨⟨r2, op2, a2, n2⟩, f2⟩ := w
  dsimp only [coC] at hw hk
  obtain ⟨k1, k2⟩ := hk
  clear hf hr
  refine N.fn Try.func82 k82 lb q82 fun Q hQ hQN => ?_
  rw [c82]
  repeat' (first
  | rw [co_mren]
  | rw [co_co]
  | rw [co_t12]
  | rw [co_t9]
  | rw [cp_t5]
  | rw [co_z]
  | simp only [renB_fA, renB_fB]
  | rw [cp_mren]
  | rw [cp_z]
  | rw [ri_t9]
  | rw [ri_mren]
  | rw [co_r]
  | rw [co_b]
  | (show AKW _ _ (.seq (.dreg _ _ _) _) _ _ _ _; refine N.now ?_)
  | (show AKW _ _ (.seq (.reg (⟨some 4, _, _⟩ :: _) _) _) _ _ _ _; refine N.now ?_)
  | refine N.regS fun K hK => ?_
  | refine N.dregS fun K hK => ?_
  | refine N.regN fun K hK => ?_
  | refine N.dregN fun K hK => ?_
  | simp only [T.mv, sm, AO.ev, put, lk, enter, reduceIte, Nat.reduceEqDiff, Nat.reduceAdd, Nat.reduceMul, Nat.reduceSub, Int.reduceNeg, Int.reduceToNat, upto, renB, setAll]
  | (refine T.nil ?_; (first | refine hK _ _ _ (by rfl) ?_ | refine hK _ _ _ ?_); (try simp only [keep, List.map, lk, reduceIte, Nat.reduceEqDiff, enter]); clear hK K)
  | (show WOpsT _ (⟨_, .call _ _, none⟩ :: _) _ _ _ _; first | refine T.cP [0] e83 (hy) ?_)
  | (show WOpsT _ (⟨_, .ld _ _, none⟩ :: _) _ _ _ _; first | refine L.ld ?_ | refine L.ldd ?_ | refine L.ldn ?_ | refine L.lddn ?_)
  | (show WOpsT _ (⟨_, .idx _ _ _ _, none⟩ :: _) _ _ _ _; first | refine L.idxa ?_ | refine L.idxd ?_)
  | (show WOpsT _ (⟨_, .bin _ _ _, none⟩ :: _) _ _ _ _; first | refine L.bin ?_)
  | (show WOpsT _ (⟨_, _, some (_, true)⟩ :: _) _ _ _ _; first | refine L.goT ?_ | refine L.paT ?_ | refine L.go ?_ | refine L.pass ?_ | refine T.pU rfl ?_ | refine T.gT rfl (fun hgd => ?_) (fun hgd => ?_))
  | (show WOpsT _ (⟨_, .pick _ _ _, none⟩ :: _) _ _ _ _; first | refine L.pkT ?_ | refine L.pkF ?_ | refine L.pickT ?_ | refine L.pickF ?_ | refine L.pickB ?_ | refine T.pkD rfl (fun hgd => ?_) (fun hgd => ?_))
  | (show AK _ _ _ _ _ _ _; first | refine N.seq ?_ | refine N.ret ?_)
  | (show RK _ _ _ _ _ _ _; simp only [rk, rk0, reduceIte, Nat.reduceEqDiff])
  | (show WOpsT _ _ _ _ _ _; first | refine L.ext ?_ | refine L.fad ?_ | refine L.fadd ?_ | refine L.st ?_ | refine L.zero ?_ | refine T.mki ?_ | refine L.bsl ?_)
  | refine hQ _ _ _ rfl ?_
  | refine hQN _ _ _ rfl ?_)
  refine N.weak (fr1 := [(1, .ptr 2 1 0 0), (2, .ptr 0 1 0 0)]) (h1 := [fA, fB f, ⟨1, 12, [coA r (-1) 0 false]⟩]) (Weaks.gc [1, 2, 3] 0 rfl ⟨.rfl, .rfl, trivial⟩ (by show [_, fB f, _] = [_, outB _ _ _ (renB _ (fB f)), _]; rw [renB_fB, outB_fB]; rfl)) (N.now ?_)
  repeat' (first
  | rw [co_mren]
  | rw [co_co]
  | rw [co_t12]
  | rw [co_t9]
  | rw [cp_t5]
  | rw [co_z]
  | simp only [renB_fA, renB_fB]
  | rw [cp_mren]
  | rw [cp_z]
  | rw [ri_t9]
  | rw [ri_mren]
  | rw [co_r]
  | rw [co_b]
  | refine N.regS fun K hK => ?_
  | refine N.dregS fun K hK => ?_
  | refine N.regN fun K hK => ?_
  | refine N.dregN fun K hK => ?_
  | simp only [T.mv, sm, AO.ev, put, lk, enter, reduceIte, Nat.reduceEqDiff, Nat.reduceAdd, Nat.reduceMul, Nat.reduceSub, Int.reduceNeg, Int.reduceToNat, upto, renB, setAll]
  | (refine T.nil ?_; (first | refine hK _ _ _ (by rfl) ?_ | refine hK _ _ _ ?_); (try simp only [keep, List.map, lk, reduceIte, Nat.reduceEqDiff, enter]); clear hK K)
  | (show WOpsT _ (⟨_, .call _ _, none⟩ :: _) _ _ _ _; first | refine T.cP [0, 1] e85 (hw) ?_)
  | (show WOpsT _ (⟨_, .ld _ _, none⟩ :: _) _ _ _ _; first | refine L.ld ?_ | refine L.ldd ?_ | refine L.ldn ?_ | refine L.lddn ?_)
  | (show WOpsT _ (⟨_, .idx _ _ _ _, none⟩ :: _) _ _ _ _; first | refine L.idxa ?_ | refine L.idxd ?_)
  | (show WOpsT _ (⟨_, .bin _ _ _, none⟩ :: _) _ _ _ _; first | refine L.bin ?_)
  | (show WOpsT _ (⟨_, _, some (_, true)⟩ :: _) _ _ _ _; first | refine L.goT ?_ | refine L.paT ?_ | refine L.go ?_ | refine L.pass ?_ | refine T.pU rfl ?_ | refine T.gT rfl (fun hgd => ?_) (fun hgd => ?_))
  | (show WOpsT _ (⟨_, .pick _ _ _, none⟩ :: _) _ _ _ _; first | refine L.pkT ?_ | refine L.pkF ?_ | refine L.pickT ?_ | refine L.pickF ?_ | refine L.pickB ?_ | refine T.pkD rfl (fun hgd => ?_) (fun hgd => ?_))
  | (show AKW _ _ _ _ _ _ _; first | refine N.now ?_)
  | (show AK _ _ _ _ _ _ _; first | refine N.seq ?_ | refine N.ret ?_)
  | (show RK _ _ _ _ _ _ _; simp only [rk, rk0, reduceIte, Nat.reduceEqDiff])
  | (show WOpsT _ _ _ _ _ _; first | refine L.ext ?_ | refine L.fad ?_ | refine L.fadd ?_ | refine L.st ?_ | refine L.zero ?_ | refine T.mki ?_ | refine L.bsl ?_)
  | refine hQ _ _ _ rfl ?_
  | refine hQN _ _ _ rfl ?_)
  all_goals exact WS.bool rfl (by simp [k1, k2])
theorem wrap_u8m (n : Int) : IntKind.wrap .u8 n = n % 256 := by
  simp only [IntKind.wrap, IntKind.signed, IntKind.bits]; simp
theorem memF_st (f : Nat → Int) (a : Nat) (x v : Int) : (bcells (memF f)).set a (spl [V.c (.int .u8 x)] 0 [V.c (.int .u8 v)]) = bcells (memF (upd f a v)) := by
  rw [← memF_set, ← bcells_set]; rfl
def rstK : Core := ⟨upd zeroR 4 4, 258, 0, false⟩
end Go.Proofs.Ytjmmompbmjhkpaa.Calc

namespace Go.Proofs.Ytjmmompbmjhkpaa.Calc
open Go Code
set_option linter.unusedSimpArgs false
set_option linter.unusedVariables false
set_option maxRecDepth 20000
set_option maxHeartbeats 4000000
attribute [local irreducible] WOpsT AW AK RK AKW UK UC memF
section
variable {P : Program} {rest : List AOper} {tr : Tr} {fr : Fr} {h : List Blk} {K : KT} {d : Option Nat}
end
end Go.Proofs.Ytjmmompbmjhkpaa.Calc

namespace Go.Proofs.Ytjmmompbmjhkpaa.Calc
open Go
set_option linter.unusedVariables false
def hasIf (ss : List Stp) : Bool := ss.any fun s => s.op == 24
def leastM : List Cyc → Nat → Nat → Nat
  | [], _, n => n
  | c :: l, i, n => leastM l (i + 1) (if hasIf c.steps then min n (i + 1) else n)
end Go.Proofs.Ytjmmompbmjhkpaa.Calc

namespace Go.Proofs.Ytjmmompbmjhkpaa.Calc
open Go
set_option linter.unusedVariables false
theorem std_ins : ∀ j : Nat, j < 92 → stdM.ins.findIdx? (fun y => decide (y.op = (j : Int) + 1)) = some j ∧ (stdM.ins.getD j insZ).op = (j : Int) + 1 ∧ 0 < (stdM.ins.getD j insZ).cy.length ∧ (stdM.ins.getD j insZ).cy.length ≤ 8 := by decide +kernel
end Go.Proofs.Ytjmmompbmjhkpaa.Calc

namespace Go.Proofs.Ytjmmompbmjhkpaa.Calc
open Go
set_option linter.unusedVariables false
set_option linter.unusedSimpArgs false
set_option maxRecDepth 20000
def nzp (p n : Int) : Int := fl (fl p 2 (decide (n = 0))) 128 (decide (128 ≤ n))
theorem nzp_by (p n : Int) (h : By p) : By (nzp p n) := fl_byte _ 128 _ (fl_byte p 2 _ h (by omega)) (by omega)
def nx (irq : Bool) (k : Core) (f : Nat → Int) : Core × (Nat → Int) := ((cycleM stdM k irq f).1, (cycleM stdM k irq f).2.2)
def Rf (n : Nat) (k : Core) (f : Nat → Int) (k2 : Core) (f2 : Nat → Int) : Prop := ∀ bs, ∃ bs2, runFrom stdM n k bs f = (k2, bs2, f2)
theorem Rf.next {n : Nat} {k k1 k2 : Core} {f f1 f2 : Nat → Int} (e : nx false k f = (k1, f1)) (h : ¬ (k1.op = -1 ∨ k1.op = 259)) (r : Rf n k1 f1 k2 f2) : Rf (n + 1) k f k2 f2 := by
  intro bs
  obtain ⟨bs2, hb⟩ := r (bs ++ [(cycleM stdM k false f).2.1])
  refine ⟨bs2, ?_⟩
  obtain ⟨e1, e2⟩ := Prod.mk.inj e
  unfold runFrom
  rw [e1, e2, if_neg h]
  exact hb
theorem Rf.fin {n : Nat} {k k1 : Core} {f f1 : Nat → Int} (e : nx false k f = (k1, f1)) (h : k1.op = -1) : Rf (n + 1) k f k1 f1 := by
  intro bs
  obtain ⟨e1, e2⟩ := Prod.mk.inj e
  refine ⟨bs ++ [(cycleM stdM k false f).2.1], ?_⟩
  unfold runFrom
  rw [e1, e2, if_pos (.inl h)]
theorem runs_next {n : Nat} {k k1 : Core} {f f1 : Nat → Int} (r : Rf 20 k f k1 f1) : runsM (n + 1) k f = runsM n k1 f1 := by
  obtain ⟨bs2, hb⟩ := r []
  show runsM n (runFrom stdM 20 k [] f).1 (runFrom stdM 20 k [] f).2.2 = _
  rw [hb]
section
variable {a x y s p t u pc ad : Int} {f : Nat → Int}
theorem Bd.s0 (h : Bd a x y s p t u pc ad) {v : Int} (hv : By v) : Bd v x y s p t u pc ad := ⟨hv, h.hx, h.hy, h.hs, h.hp, h.ht, h.hu, h.hpc, h.had⟩
theorem rg_0 : rg a x y s p t u pc ad 0 = a := rfl
theorem Bd.s1 (h : Bd a x y s p t u pc ad) {v : Int} (hv : By v) : Bd a v y s p t u pc ad := ⟨h.ha, hv, h.hy, h.hs, h.hp, h.ht, h.hu, h.hpc, h.had⟩
theorem Bd.s2 (h : Bd a x y s p t u pc ad) {v : Int} (hv : By v) : Bd a x v s p t u pc ad := ⟨h.ha, h.hx, hv, h.hs, h.hp, h.ht, h.hu, h.hpc, h.had⟩
theorem Bd.s3 (h : Bd a x y s p t u pc ad) {v : Int} (hv : By v) : Bd a x y v p t u pc ad := ⟨h.ha, h.hx, h.hy, hv, h.hp, h.ht, h.hu, h.hpc, h.had⟩
theorem rg_3 : rg a x y s p t u pc ad 3 = s := rfl
theorem Bd.s4 (h : Bd a x y s p t u pc ad) {v : Int} (hv : By v) : Bd a x y s v t u pc ad := ⟨h.ha, h.hx, h.hy, h.hs, hv, h.ht, h.hu, h.hpc, h.had⟩
theorem Bd.s5 (h : Bd a x y s p t u pc ad) {v : Int} (hv : By v) : Bd a x y s p v u pc ad := ⟨h.ha, h.hx, h.hy, h.hs, h.hp, hv, h.hu, h.hpc, h.had⟩
theorem rg_5 : rg a x y s p t u pc ad 5 = t := rfl
theorem Bd.s6 (h : Bd a x y s p t u pc ad) {v : Int} (hv : By v) : Bd a x y s p t v pc ad := ⟨h.ha, h.hx, h.hy, h.hs, h.hp, h.ht, hv, h.hpc, h.had⟩
theorem Bd.s7 (h : Bd a x y s p t u pc ad) {v : Int} (hv : Wo v) : Bd a x y s p t u v ad := ⟨h.ha, h.hx, h.hy, h.hs, h.hp, h.ht, h.hu, hv, h.had⟩
theorem rg_7 : rg a x y s p t u pc ad 7 = pc := rfl
theorem Bd.s8 (h : Bd a x y s p t u pc ad) {v : Int} (hv : Wo v) : Bd a x y s p t u pc v := ⟨h.ha, h.hx, h.hy, h.hs, h.hp, h.ht, h.hu, h.hpc, hv⟩
theorem nz_rg (n : Int) : nzR (rg a x y s p t u pc ad) n = rg a x y s (nzp p n) t u pc ad := by unfold nzR flagR; rw [upd_rg4, upd_rg4]; rfl
theorem db_1_0_5 (h : Bd a x y s p t u pc ad) : Bd t x y s p t u pc ad := h.s0 h.ht
theorem d_1_0_5 (h : Bd a x y s p t u pc ad) : (doR 1 0 5 0 (rg a x y s p t u pc ad)).1 = (rg t x y s p t u pc ad) := by
  show fitR (midR 1 0 5 0 (fitR (rg a x y s p t u pc ad))) = _
  rw [fit_rg h, show midR 1 0 5 0 (rg a x y s p t u pc ad) = upd (rg a x y s p t u pc ad) 0 t from rfl, upd_rg0, fit_rg (db_1_0_5 h)]
theorem db_3_0 (h : Bd a x y s p t u pc ad) : Bd a x y s (nzp p a) t u pc ad := h.s4 (nzp_by _ _ h.hp)
theorem d_3_0 (h : Bd a x y s p t u pc ad) : (doR 3 0 0 0 (rg a x y s p t u pc ad)).1 = (rg a x y s (nzp p a) t u pc ad) := by
  show fitR (midR 3 0 0 0 (fitR (rg a x y s p t u pc ad))) = _
  rw [fit_rg h, show midR 3 0 0 0 (rg a x y s p t u pc ad) = nzR (rg a x y s p t u pc ad) (a % 256) from rfl, Int.emod_eq_of_lt h.ha.1 h.ha.2, nz_rg, fit_rg (db_3_0 h)]
theorem db_10_1 (h : Bd a x y s p t u pc ad) : Bd a ((x + 1) % 256) y s (nzp p ((x + 1) % 256)) t u pc ad := (h.s4 (nzp_by _ _ h.hp)).s1 ⟨by omega, by omega⟩
theorem d_10_1 (h : Bd a x y s p t u pc ad) : (doR 10 1 0 0 (rg a x y s p t u pc ad)).1 = (rg a ((x + 1) % 256) y s (nzp p ((x + 1) % 256)) t u pc ad) := by
  show fitR (midR 10 1 0 0 (fitR (rg a x y s p t u pc ad))) = _
  rw [fit_rg h, show midR 10 1 0 0 (rg a x y s p t u pc ad) = upd (nzR (rg a x y s p t u pc ad) ((x + 1 - 2 * (10 - 10)) % 2 ^ wd (bitsR 1))) 1 ((x + 1 - 2 * (10 - 10)) % 2 ^ wd (bitsR 1)) from rfl, show (x + 1 - 2 * (10 - 10)) % 2 ^ wd (bitsR 1) = (x + 1) % 256 by (have : (2 : Int) ^ wd (bitsR 1) = 256 := rfl); rw [this]; omega, nz_rg, upd_rg1, fit_rg (db_10_1 h)]
theorem db_1_7_8 (h : Bd a x y s p t u pc ad) : Bd a x y s p t u ad ad := h.s7 h.had
theorem d_1_7_8 (h : Bd a x y s p t u pc ad) : (doR 1 7 8 0 (rg a x y s p t u pc ad)).1 = (rg a x y s p t u ad ad) := by
  show fitR (midR 1 7 8 0 (fitR (rg a x y s p t u pc ad))) = _
  rw [fit_rg h, show midR 1 7 8 0 (rg a x y s p t u pc ad) = upd (rg a x y s p t u pc ad) 7 ad from rfl, upd_rg7, fit_rg (db_1_7_8 h)]
theorem e_18_7_5 (h : Bd a x y s p t u pc ad) : putv pc 0 8 t = pc / 256 * 256 + t := by
  have := h.hpc; have := h.had; have := h.ht; have := h.hu; unfold By Wo at *; simp only [putv]; omega
theorem db_18_7_5 (h : Bd a x y s p t u pc ad) : Bd a x y s p t u (pc / 256 * 256 + t) ad := h.s7 ⟨by have := h.hpc; have := h.had; have := h.ht; have := h.hu; unfold By Wo at *; omega, by have := h.hpc; have := h.had; have := h.ht; have := h.hu; unfold By Wo at *; omega⟩
theorem d_18_7_5 (h : Bd a x y s p t u pc ad) : (doR 18 7 5 0 (rg a x y s p t u pc ad)).1 = (rg a x y s p t u (pc / 256 * 256 + t) ad) := by
  show fitR (midR 18 7 5 0 (fitR (rg a x y s p t u pc ad))) = _
  rw [fit_rg h, show midR 18 7 5 0 (rg a x y s p t u pc ad) = upd (rg a x y s p t u pc ad) 7 (putv pc 0 8 t) from rfl, upd_rg7, e_18_7_5 h, fit_rg (db_18_7_5 h)]
theorem e_19_7_6 (h : Bd a x y s p t u pc ad) : putv pc 8 8 u = pc % 256 + u * 256 := by
  have := h.hpc; have := h.had; have := h.ht; have := h.hu; unfold By Wo at *; simp only [putv]; omega
theorem db_19_7_6 (h : Bd a x y s p t u pc ad) : Bd a x y s p t u (pc % 256 + u * 256) ad := h.s7 ⟨by have := h.hpc; have := h.had; have := h.ht; have := h.hu; unfold By Wo at *; omega, by have := h.hpc; have := h.had; have := h.ht; have := h.hu; unfold By Wo at *; omega⟩
theorem d_19_7_6 (h : Bd a x y s p t u pc ad) : (doR 19 7 6 0 (rg a x y s p t u pc ad)).1 = (rg a x y s p t u (pc % 256 + u * 256) ad) := by
  show fitR (midR 19 7 6 0 (fitR (rg a x y s p t u pc ad))) = _
  rw [fit_rg h, show midR 19 7 6 0 (rg a x y s p t u pc ad) = upd (rg a x y s p t u pc ad) 7 (putv pc 8 8 u) from rfl, upd_rg7, e_19_7_6 h, fit_rg (db_19_7_6 h)]
theorem e_18_8_5 (h : Bd a x y s p t u pc ad) : putv ad 0 8 t = ad / 256 * 256 + t := by
  have := h.hpc; have := h.had; have := h.ht; have := h.hu; unfold By Wo at *; simp only [putv]; omega
theorem db_18_8_5 (h : Bd a x y s p t u pc ad) : Bd a x y s p t u pc (ad / 256 * 256 + t) := h.s8 ⟨by have := h.hpc; have := h.had; have := h.ht; have := h.hu; unfold By Wo at *; omega, by have := h.hpc; have := h.had; have := h.ht; have := h.hu; unfold By Wo at *; omega⟩
theorem d_18_8_5 (h : Bd a x y s p t u pc ad) : (doR 18 8 5 0 (rg a x y s p t u pc ad)).1 = (rg a x y s p t u pc (ad / 256 * 256 + t)) := by
  show fitR (midR 18 8 5 0 (fitR (rg a x y s p t u pc ad))) = _
  rw [fit_rg h, show midR 18 8 5 0 (rg a x y s p t u pc ad) = upd (rg a x y s p t u pc ad) 8 (putv ad 0 8 t) from rfl, upd_rg8, e_18_8_5 h, fit_rg (db_18_8_5 h)]
theorem e_19_8_5 (h : Bd a x y s p t u pc ad) : putv ad 8 8 t = ad % 256 + t * 256 := by
  have := h.hpc; have := h.had; have := h.ht; have := h.hu; unfold By Wo at *; simp only [putv]; omega
theorem db_19_8_5 (h : Bd a x y s p t u pc ad) : Bd a x y s p t u pc (ad % 256 + t * 256) := h.s8 ⟨by have := h.hpc; have := h.had; have := h.ht; have := h.hu; unfold By Wo at *; omega, by have := h.hpc; have := h.had; have := h.ht; have := h.hu; unfold By Wo at *; omega⟩
theorem d_19_8_5 (h : Bd a x y s p t u pc ad) : (doR 19 8 5 0 (rg a x y s p t u pc ad)).1 = (rg a x y s p t u pc (ad % 256 + t * 256)) := by
  show fitR (midR 19 8 5 0 (fitR (rg a x y s p t u pc ad))) = _
  rw [fit_rg h, show midR 19 8 5 0 (rg a x y s p t u pc ad) = upd (rg a x y s p t u pc ad) 8 (putv ad 8 8 t) from rfl, upd_rg8, e_19_8_5 h, fit_rg (db_19_8_5 h)]
theorem e_20_5_7 (h : Bd a x y s p t u pc ad) : pc / 2 ^ 0 % 2 ^ 8 = pc % 256 := by
  have := h.hpc; have := h.had; unfold Wo at *; simp only [Int.pow_succ, Int.pow_zero]; omega
theorem db_20_5_7 (h : Bd a x y s p t u pc ad) : Bd a x y s p (pc % 256) u pc ad := h.s5 ⟨by have := h.hpc; have := h.had; unfold Wo at *; omega, by have := h.hpc; have := h.had; unfold Wo at *; omega⟩
theorem d_20_5_7 (h : Bd a x y s p t u pc ad) : (doR 20 5 7 0 (rg a x y s p t u pc ad)).1 = (rg a x y s p (pc % 256) u pc ad) := by
  show fitR (midR 20 5 7 0 (fitR (rg a x y s p t u pc ad))) = _
  rw [fit_rg h, show midR 20 5 7 0 (rg a x y s p t u pc ad) = upd (rg a x y s p t u pc ad) 5 (pc / 2 ^ 0 % 2 ^ 8) from rfl, upd_rg5, e_20_5_7 h, fit_rg (db_20_5_7 h)]
theorem e_21_5_7 (h : Bd a x y s p t u pc ad) : pc / 2 ^ 8 % 2 ^ 8 = pc / 256 := by
  have := h.hpc; have := h.had; unfold Wo at *; simp only [Int.pow_succ, Int.pow_zero]; omega
theorem db_21_5_7 (h : Bd a x y s p t u pc ad) : Bd a x y s p (pc / 256) u pc ad := h.s5 ⟨by have := h.hpc; have := h.had; unfold Wo at *; omega, by have := h.hpc; have := h.had; unfold Wo at *; omega⟩
theorem d_21_5_7 (h : Bd a x y s p t u pc ad) : (doR 21 5 7 0 (rg a x y s p t u pc ad)).1 = (rg a x y s p (pc / 256) u pc ad) := by
  show fitR (midR 21 5 7 0 (fitR (rg a x y s p t u pc ad))) = _
  rw [fit_rg h, show midR 21 5 7 0 (rg a x y s p t u pc ad) = upd (rg a x y s p t u pc ad) 5 (pc / 2 ^ 8 % 2 ^ 8) from rfl, upd_rg5, e_21_5_7 h, fit_rg (db_21_5_7 h)]
theorem y_1_0 (irq : Bool) (h : Bd a x y s p t u pc ad) (hf : FB f) : nx irq ⟨rg a x y s p t u pc ad, 1, 0, false⟩ f = (⟨(rg (f pc.toNat) x y s (nzp p (f pc.toNat)) (f pc.toNat) u ((pc + 1) % 65536) ad), -1, 0, false⟩, f) ∧ Bd (f pc.toNat) x y s (nzp p (f pc.toNat)) (f pc.toNat) u ((pc + 1) % 65536) ad := by
  have hd : By (f pc.toNat) := hf _
  have b1 : Bd a x y s p t u ((pc + 1) % 65536) ad := h.s7 ⟨by omega, by omega⟩
  have b2 : Bd a x y s p (f pc.toNat) u ((pc + 1) % 65536) ad := b1.s5 hd
  have b3 : Bd (f pc.toNat) x y s p (f pc.toNat) u ((pc + 1) % 65536) ad := db_1_0_5 b2
  have b4 : Bd (f pc.toNat) x y s (nzp p (f pc.toNat)) (f pc.toNat) u ((pc + 1) % 65536) ad := db_3_0 b3
  have e : ∀ r, nx irq ⟨r, 1, 0, false⟩ f = (⟨(doR 3 0 0 0 (doR 1 0 5 0 (upd (fitR (upd (fitR r) 7 (((fitR r) 7 + 1) % 65536))) 5 (f ((fitR r) 7).toNat % 256))).1).1, -1, 0, false⟩, f) := by intro r; kernel_rfl
  exact ⟨by rw [e, fit_rg h, rg_7, upd_rg7, fit_rg b1, Int.emod_eq_of_lt hd.1 hd.2, upd_rg5, d_1_0_5 b2, d_3_0 b3], b4⟩
theorem y_70_0 (irq : Bool) (h : Bd a x y s p t u pc ad) (hf : FB f) : nx irq ⟨rg a x y s p t u pc ad, 70, 0, false⟩ f = (⟨(rg a ((x + 1) % 256) y s (nzp p ((x + 1) % 256)) t u pc ad), -1, 0, false⟩, f) ∧ Bd a ((x + 1) % 256) y s (nzp p ((x + 1) % 256)) t u pc ad := by
  have b1 : Bd a ((x + 1) % 256) y s (nzp p ((x + 1) % 256)) t u pc ad := db_10_1 h
  have e : ∀ r, nx irq ⟨r, 70, 0, false⟩ f = (⟨(doR 10 1 0 0 (fitR (fitR r))).1, -1, 0, false⟩, f) := by intro r; kernel_rfl
  exact ⟨by rw [e, fit_rg h, fit_rg h, d_10_1 h], b1⟩
theorem y_79_0 (irq : Bool) (h : Bd a x y s p t u pc ad) (hf : FB f) : nx irq ⟨rg a x y s p t u pc ad, 79, 0, false⟩ f = (⟨(rg a x y ((s - 1) % 256) p t u pc ad), -1, 0, false⟩, (upd f (256 + s).toNat a)) ∧ Bd a x y ((s - 1) % 256) p t u pc ad := by
  have b1 : Bd a x y ((s - 1) % 256) p t u pc ad := h.s3 ⟨by omega, by omega⟩
  have e : ∀ r, nx irq ⟨r, 79, 0, false⟩ f = (⟨(fitR (upd (fitR r) 3 (((fitR r) 3 - 1) % 256))), -1, 0, false⟩, (upd f (256 + (fitR r) 3).toNat ((fitR r) 0 % 256))) := by intro r; kernel_rfl
  exact ⟨by rw [e, fit_rg h, rg_3, upd_rg3, rg_0, Int.emod_eq_of_lt h.ha.1 h.ha.2, fit_rg b1], b1⟩
theorem y_80_0 (irq : Bool) (h : Bd a x y s p t u pc ad) (hf : FB f) : nx irq ⟨rg a x y s p t u pc ad, 80, 0, false⟩ f = (⟨(rg (f (256 + (s + 1) % 256).toNat) x y ((s + 1) % 256) (nzp p (f (256 + (s + 1) % 256).toNat)) t u pc ad), -1, 0, false⟩, f) ∧ Bd (f (256 + (s + 1) % 256).toNat) x y ((s + 1) % 256) (nzp p (f (256 + (s + 1) % 256).toNat)) t u pc ad := by
  have hd : By (f (256 + (s + 1) % 256).toNat) := hf _
  have b1 : Bd a x y ((s + 1) % 256) p t u pc ad := h.s3 ⟨by omega, by omega⟩
  have b2 : Bd (f (256 + (s + 1) % 256).toNat) x y ((s + 1) % 256) p t u pc ad := b1.s0 hd
  have b3 : Bd (f (256 + (s + 1) % 256).toNat) x y ((s + 1) % 256) (nzp p (f (256 + (s + 1) % 256).toNat)) t u pc ad := db_3_0 b2
  have e : ∀ r, nx irq ⟨r, 80, 0, false⟩ f = (⟨(doR 3 0 0 0 (upd (fitR (upd (fitR r) 3 (((fitR r) 3 + 1) % 256))) 0 (f (256 + ((fitR r) 3 + 1) % 256).toNat % 256))).1, -1, 0, false⟩, f) := by intro r; kernel_rfl
  exact ⟨by rw [e, fit_rg h, rg_3, upd_rg3, fit_rg b1, Int.emod_eq_of_lt hd.1 hd.2, upd_rg0, d_3_0 b2], b3⟩
theorem y_84_0 (irq : Bool) (h : Bd a x y s p t u pc ad) (hf : FB f) : nx irq ⟨rg a x y s p t u pc ad, 84, 0, false⟩ f = (⟨(rg a x y s p (f pc.toNat) u ((pc + 1) % 65536) (ad / 256 * 256 + (f pc.toNat))), 84, 1, false⟩, f) ∧ Bd a x y s p (f pc.toNat) u ((pc + 1) % 65536) (ad / 256 * 256 + (f pc.toNat)) := by
  have hd : By (f pc.toNat) := hf _
  have b1 : Bd a x y s p t u ((pc + 1) % 65536) ad := h.s7 ⟨by omega, by omega⟩
  have b2 : Bd a x y s p (f pc.toNat) u ((pc + 1) % 65536) ad := b1.s5 hd
  have b3 : Bd a x y s p (f pc.toNat) u ((pc + 1) % 65536) (ad / 256 * 256 + (f pc.toNat)) := db_18_8_5 b2
  have e : ∀ r, nx irq ⟨r, 84, 0, false⟩ f = (⟨(doR 18 8 5 0 (upd (fitR (upd (fitR r) 7 (((fitR r) 7 + 1) % 65536))) 5 (f ((fitR r) 7).toNat % 256))).1, 84, 1, false⟩, f) := by intro r; kernel_rfl
  exact ⟨by rw [e, fit_rg h, rg_7, upd_rg7, fit_rg b1, Int.emod_eq_of_lt hd.1 hd.2, upd_rg5, d_18_8_5 b2], b3⟩
theorem y_84_1 (irq : Bool) (h : Bd a x y s p t u pc ad) (hf : FB f) : nx irq ⟨rg a x y s p t u pc ad, 84, 1, false⟩ f = (⟨(rg a x y s p (((pc + 1) % 65536) / 256) u ((pc + 1) % 65536) (ad % 256 + (f pc.toNat) * 256)), 84, 2, false⟩, f) ∧ Bd a x y s p (((pc + 1) % 65536) / 256) u ((pc + 1) % 65536) (ad % 256 + (f pc.toNat) * 256) := by
  have hd : By (f pc.toNat) := hf _
  have b1 : Bd a x y s p t u ((pc + 1) % 65536) ad := h.s7 ⟨by omega, by omega⟩
  have b2 : Bd a x y s p (f pc.toNat) u ((pc + 1) % 65536) ad := b1.s5 hd
  have b3 : Bd a x y s p (f pc.toNat) u ((pc + 1) % 65536) (ad % 256 + (f pc.toNat) * 256) := db_19_8_5 b2
  have b4 : Bd a x y s p (((pc + 1) % 65536) / 256) u ((pc + 1) % 65536) (ad % 256 + (f pc.toNat) * 256) := db_21_5_7 b3
  have e : ∀ r, nx irq ⟨r, 84, 1, false⟩ f = (⟨(doR 21 5 7 0 (doR 19 8 5 0 (upd (fitR (upd (fitR r) 7 (((fitR r) 7 + 1) % 65536))) 5 (f ((fitR r) 7).toNat % 256))).1).1, 84, 2, false⟩, f) := by intro r; kernel_rfl
  exact ⟨by rw [e, fit_rg h, rg_7, upd_rg7, fit_rg b1, Int.emod_eq_of_lt hd.1 hd.2, upd_rg5, d_19_8_5 b2, d_21_5_7 b3], b4⟩
theorem y_84_2 (irq : Bool) (h : Bd a x y s p t u pc ad) (hf : FB f) : nx irq ⟨rg a x y s p t u pc ad, 84, 2, false⟩ f = (⟨(rg a x y ((s - 1) % 256) p (pc % 256) u pc ad), 84, 3, false⟩, (upd f (256 + s).toNat t)) ∧ Bd a x y ((s - 1) % 256) p (pc % 256) u pc ad := by
  have b1 : Bd a x y ((s - 1) % 256) p t u pc ad := h.s3 ⟨by omega, by omega⟩
  have b2 : Bd a x y ((s - 1) % 256) p (pc % 256) u pc ad := db_20_5_7 b1
  have e : ∀ r, nx irq ⟨r, 84, 2, false⟩ f = (⟨(doR 20 5 7 0 (fitR (upd (fitR r) 3 (((fitR r) 3 - 1) % 256)))).1, 84, 3, false⟩, (upd f (256 + (fitR r) 3).toNat ((fitR r) 5 % 256))) := by intro r; kernel_rfl
  exact ⟨by rw [e, fit_rg h, rg_3, upd_rg3, rg_5, Int.emod_eq_of_lt h.ht.1 h.ht.2, fit_rg b1, d_20_5_7 b1], b2⟩
theorem y_84_3 (irq : Bool) (h : Bd a x y s p t u pc ad) (hf : FB f) : nx irq ⟨rg a x y s p t u pc ad, 84, 3, false⟩ f = (⟨(rg a x y ((s - 1) % 256) p t u ad ad), -1, 0, false⟩, (upd f (256 + s).toNat t)) ∧ Bd a x y ((s - 1) % 256) p t u ad ad := by
  have b1 : Bd a x y ((s - 1) % 256) p t u pc ad := h.s3 ⟨by omega, by omega⟩
  have b2 : Bd a x y ((s - 1) % 256) p t u ad ad := db_1_7_8 b1
  have e : ∀ r, nx irq ⟨r, 84, 3, false⟩ f = (⟨(doR 1 7 8 0 (fitR (upd (fitR r) 3 (((fitR r) 3 - 1) % 256)))).1, -1, 0, false⟩, (upd f (256 + (fitR r) 3).toNat ((fitR r) 5 % 256))) := by intro r; kernel_rfl
  exact ⟨by rw [e, fit_rg h, rg_3, upd_rg3, rg_5, Int.emod_eq_of_lt h.ht.1 h.ht.2, fit_rg b1, d_1_7_8 b1], b2⟩
theorem y_85_0 (irq : Bool) (h : Bd a x y s p t u pc ad) (hf : FB f) : nx irq ⟨rg a x y s p t u pc ad, 85, 0, false⟩ f = (⟨(rg a x y ((s + 1) % 256) p (f (256 + (s + 1) % 256).toNat) u pc ad), 85, 1, false⟩, f) ∧ Bd a x y ((s + 1) % 256) p (f (256 + (s + 1) % 256).toNat) u pc ad := by
  have hd : By (f (256 + (s + 1) % 256).toNat) := hf _
  have b1 : Bd a x y ((s + 1) % 256) p t u pc ad := h.s3 ⟨by omega, by omega⟩
  have b2 : Bd a x y ((s + 1) % 256) p (f (256 + (s + 1) % 256).toNat) u pc ad := b1.s5 hd
  have e : ∀ r, nx irq ⟨r, 85, 0, false⟩ f = (⟨(upd (fitR (upd (fitR r) 3 (((fitR r) 3 + 1) % 256))) 5 (f (256 + ((fitR r) 3 + 1) % 256).toNat % 256)), 85, 1, false⟩, f) := by intro r; kernel_rfl
  exact ⟨by rw [e, fit_rg h, rg_3, upd_rg3, fit_rg b1, Int.emod_eq_of_lt hd.1 hd.2, upd_rg5], b2⟩
theorem y_85_1 (irq : Bool) (h : Bd a x y s p t u pc ad) (hf : FB f) : nx irq ⟨rg a x y s p t u pc ad, 85, 1, false⟩ f = (⟨(rg a x y ((s + 1) % 256) p t (f (256 + (s + 1) % 256).toNat) ((pc / 256 * 256 + t) % 256 + (f (256 + (s + 1) % 256).toNat) * 256) ad), -1, 0, false⟩, f) ∧ Bd a x y ((s + 1) % 256) p t (f (256 + (s + 1) % 256).toNat) ((pc / 256 * 256 + t) % 256 + (f (256 + (s + 1) % 256).toNat) * 256) ad := by
  have hd : By (f (256 + (s + 1) % 256).toNat) := hf _
  have b1 : Bd a x y ((s + 1) % 256) p t u pc ad := h.s3 ⟨by omega, by omega⟩
  have b2 : Bd a x y ((s + 1) % 256) p t (f (256 + (s + 1) % 256).toNat) pc ad := b1.s6 hd
  have b3 : Bd a x y ((s + 1) % 256) p t (f (256 + (s + 1) % 256).toNat) (pc / 256 * 256 + t) ad := db_18_7_5 b2
  have b4 : Bd a x y ((s + 1) % 256) p t (f (256 + (s + 1) % 256).toNat) ((pc / 256 * 256 + t) % 256 + (f (256 + (s + 1) % 256).toNat) * 256) ad := db_19_7_6 b3
  have e : ∀ r, nx irq ⟨r, 85, 1, false⟩ f = (⟨(doR 19 7 6 0 (doR 18 7 5 0 (upd (fitR (upd (fitR r) 3 (((fitR r) 3 + 1) % 256))) 6 (f (256 + ((fitR r) 3 + 1) % 256).toNat % 256))).1).1, -1, 0, false⟩, f) := by intro r; kernel_rfl
  exact ⟨by rw [e, fit_rg h, rg_3, upd_rg3, fit_rg b1, Int.emod_eq_of_lt hd.1 hd.2, upd_rg6, d_18_7_5 b2, d_19_7_6 b3], b4⟩
theorem y_fetch (op : Int) (j : Nat) (hj : j < 92) (hop : op = (j : Int) + 1) (h : Bd a x y s p t u pc ad) (ho : f pc.toNat = op) : nx false ⟨rg a x y s p t u pc ad, -1, 0, false⟩ f = (⟨rg a x y s p t u ((pc + 1) % 65536) ad, op, 0, false⟩, f) ∧ Bd a x y s p t u ((pc + 1) % 65536) ad := by
  have b1 : Bd a x y s p t u ((pc + 1) % 65536) ad := h.s7 ⟨by omega, by omega⟩
  refine ⟨?_, b1⟩
  subst hop
  obtain ⟨h1, h2, h3, h4⟩ := std_ins j hj
  have hst : startM stdM ⟨rg a x y s p t u pc ad, -1, 0, false⟩ false = ⟨rg a x y s p t u pc ad, -1, 0, false⟩ := by
    unfold startM; rw [if_neg (by simp), if_neg (by simp)]
  have hask : askM stdM ⟨rg a x y s p t u pc ad, -1, 0, false⟩ false = (⟨rg a x y s p t u ((pc + 1) % 65536) ad, -1, 0, false⟩, ⟨1, pc, 0⟩) := by
    unfold askM askA
    dsimp only
    rw [if_pos rfl, fit_rg h, hst]
    unfold askB
    dsimp only
    rw [if_pos rfl]
    unfold placeM
    rw [if_pos rfl, rg_7, upd_rg7]
  unfold nx cycleM
  rw [hask]
  dsimp only
  rw [if_pos rfl, ho]
  have hg : gotM (fun x => decide (x.op = (j : Int) + 1)) stdM.ins = (stdM.ins.getD j insZ, true) := by unfold gotM; rw [h1]
  unfold tellM
  dsimp only
  rw [if_pos rfl, show ((j : Int) + 1) % 256 = (j : Int) + 1 by omega, fit_rg b1]
  unfold tellA
  rw [hg]
  dsimp only
  rw [if_neg (by decide), if_pos h3]
theorem pcS (n : Nat) (h : n < 65535) : ((n : Int) + 1) % 65536 = ((n + 1 : Nat) : Int) := by omega
theorem i_lda {n : Nat} {v : Int} (h : Bd a x y s p t u n ad) (hf : FB f) (hn : n < 60000) (ho : f n = 1) (hv : f (n + 1) = v) : Rf 20 ⟨rg a x y s p t u n ad, -1, 0, false⟩ f ⟨(rg v x y s (nzp p v) v u (((n + 2 : Nat) : Int)) ad), -1, 0, false⟩ f ∧ Bd v x y s (nzp p v) v u (((n + 2 : Nat) : Int)) ad := by
  have e0 := y_fetch (f := f) 1 0 (by decide) rfl h (by rw [Int.toNat_natCast]; exact ho)
  rw [pcS n (by omega)] at e0
  have e1 := y_1_0 false e0.2 hf
  rw [pcS (n + 1) (by omega), Int.toNat_natCast, hv] at e1
  exact ⟨Rf.next e0.1 (by simp) (Rf.fin e1.1 rfl), e1.2⟩
theorem i_inx {n : Nat}  (h : Bd a x y s p t u n ad) (hf : FB f) (hn : n < 60000) (ho : f n = 70)  : Rf 20 ⟨rg a x y s p t u n ad, -1, 0, false⟩ f ⟨(rg a ((x + 1) % 256) y s (nzp p ((x + 1) % 256)) t u (((n + 1 : Nat) : Int)) ad), -1, 0, false⟩ f ∧ Bd a ((x + 1) % 256) y s (nzp p ((x + 1) % 256)) t u (((n + 1 : Nat) : Int)) ad := by
  have e0 := y_fetch (f := f) 70 69 (by decide) rfl h (by rw [Int.toNat_natCast]; exact ho)
  rw [pcS n (by omega)] at e0
  have e1 := y_70_0 false e0.2 hf
  exact ⟨Rf.next e0.1 (by simp) (Rf.fin e1.1 rfl), e1.2⟩
theorem i_pha {n : Nat}  (h : Bd a x y s p t u n ad) (hf : FB f) (hn : n < 60000) (ho : f n = 79)  : Rf 20 ⟨rg a x y s p t u n ad, -1, 0, false⟩ f ⟨(rg a x y ((s - 1) % 256) p t u (((n + 1 : Nat) : Int)) ad), -1, 0, false⟩ (upd f (256 + s).toNat a) ∧ Bd a x y ((s - 1) % 256) p t u (((n + 1 : Nat) : Int)) ad := by
  have e0 := y_fetch (f := f) 79 78 (by decide) rfl h (by rw [Int.toNat_natCast]; exact ho)
  rw [pcS n (by omega)] at e0
  have e1 := y_79_0 false e0.2 hf
  exact ⟨Rf.next e0.1 (by simp) (Rf.fin e1.1 rfl), e1.2⟩
theorem i_pla {n : Nat} {v : Int} (h : Bd a x y s p t u n ad) (hf : FB f) (hn : n < 60000) (ho : f n = 80) (hv : f (256 + (s + 1) % 256).toNat = v) : Rf 20 ⟨rg a x y s p t u n ad, -1, 0, false⟩ f ⟨(rg v x y ((s + 1) % 256) (nzp p v) t u (((n + 1 : Nat) : Int)) ad), -1, 0, false⟩ f ∧ Bd v x y ((s + 1) % 256) (nzp p v) t u (((n + 1 : Nat) : Int)) ad := by
  have e0 := y_fetch (f := f) 80 79 (by decide) rfl h (by rw [Int.toNat_natCast]; exact ho)
  rw [pcS n (by omega)] at e0
  have e1 := y_80_0 false e0.2 hf
  rw [hv] at e1
  exact ⟨Rf.next e0.1 (by simp) (Rf.fin e1.1 rfl), e1.2⟩
theorem i_jsr {n : Nat} {lo hi : Int} {w : Nat} (h : Bd a x y s p t u n ad) (hf : FB f) (hn : n < 60000) (ho : f n = 84) (hlo : f (n + 1) = lo) (hhi : f (n + 2) = hi) (hw : lo + 256 * hi = w) : Rf 20 ⟨rg a x y s p t u n ad, -1, 0, false⟩ f ⟨(rg a x y (((s - 1) % 256 - 1) % 256) p (((n + 3 : Nat) : Int) % 256) u ((w : Int)) ((w : Int))), -1, 0, false⟩ (upd (upd f (256 + s).toNat (((n + 3 : Nat) : Int) / 256)) (256 + (s - 1) % 256).toNat (((n + 3 : Nat) : Int) % 256)) ∧ Bd a x y (((s - 1) % 256 - 1) % 256) p (((n + 3 : Nat) : Int) % 256) u ((w : Int)) ((w : Int)) := by
  have e0 := y_fetch (f := f) 84 83 (by decide) rfl h (by rw [Int.toNat_natCast]; exact ho)
  rw [pcS n (by omega)] at e0
  have hl1 := hf (n + 1)
  rw [hlo] at hl1
  have e1 := y_84_0 false e0.2 hf
  rw [pcS (n + 1) (by omega), Int.toNat_natCast, hlo] at e1
  have e2 := y_84_1 false e1.2 hf
  rw [pcS (n + 2) (by omega), Int.toNat_natCast, hhi, show (ad / 256 * 256 + lo) % 256 + hi * 256 = w by omega] at e2
  have e3 := y_84_2 false e2.2 hf
  have hg : FB (upd f (256 + s).toNat (((n + 2 + 1 : Nat) : Int) / 256)) := hf.upd ⟨by omega, by omega⟩ _
  have e4 := y_84_3 false e3.2 hg
  exact ⟨Rf.next e0.1 (by simp) (Rf.next e1.1 (by simp) (Rf.next e2.1 (by simp) (Rf.next e3.1 (by simp) (Rf.fin e4.1 rfl)))), e4.2⟩
theorem i_rts {n : Nat} {lo hi : Int} {w : Nat} (h : Bd a x y s p t u n ad) (hf : FB f) (hn : n < 60000) (ho : f n = 85) (hlo : f (256 + (s + 1) % 256).toNat = lo) (hhi : f (256 + ((s + 1) % 256 + 1) % 256).toNat = hi) (hw : lo + 256 * hi = w) : Rf 20 ⟨rg a x y s p t u n ad, -1, 0, false⟩ f ⟨(rg a x y (((s + 1) % 256 + 1) % 256) p lo hi ((w : Int)) ad), -1, 0, false⟩ f ∧ Bd a x y (((s + 1) % 256 + 1) % 256) p lo hi ((w : Int)) ad := by
  have e0 := y_fetch (f := f) 85 84 (by decide) rfl h (by rw [Int.toNat_natCast]; exact ho)
  rw [pcS n (by omega)] at e0
  have hl1 := hf (256 + (s + 1) % 256).toNat
  rw [hlo] at hl1
  have e1 := y_85_0 false e0.2 hf
  rw [hlo] at e1
  have e2 := y_85_1 false e1.2 hf
  rw [hhi, show (((n + 1 : Nat) : Int) / 256 * 256 + lo) % 256 + hi * 256 = w by omega] at e2
  exact ⟨Rf.next e0.1 (by simp) (Rf.next e1.1 (by simp) (Rf.fin e2.1 rfl)), e2.2⟩
end
end Go.Proofs.Ytjmmompbmjhkpaa.Calc

namespace Go.Proofs.Ytjmmompbmjhkpaa.Calc
open Go
set_option linter.unusedVariables false
set_option linter.unusedSimpArgs false
set_option maxRecDepth 20000
theorem upd_at (f : Nat → Int) (i j : Nat) (v : Int) (h : j = i) : upd f i v j = v := by unfold upd; rw [if_pos h]
theorem upd_off (f : Nat → Int) (i j : Nat) (v : Int) (h : j ≠ i) : upd f i v j = f j := by unfold upd; rw [if_neg h]
theorem regAt_hi (l : List Int) (i : Nat) : ∀ j, i ≤ j → (regAt l i).2 j = 0 := by
  induction i with
  | zero => intro j h; rfl
  | succ i ih =>
    intro j hj
    simp only [regAt, regStep]
    split
    · dsimp only; rw [upd_off _ _ _ _ (by omega), upd_off _ _ _ _ (by omega)]; exact ih j (by omega)
    · dsimp only; rw [upd_off _ _ _ _ (by omega)]; exact ih j (by omega)
theorem regs_rg (l : List Int) : ∃ a x y s p t u pc ad, Bd a x y s p t u pc ad ∧ regsOf l = rg a x y s p t u pc ad := by
  have hr := regsOf_fits l
  have r0 := hr 0 (by decide)
  have r1 := hr 1 (by decide)
  have r2 := hr 2 (by decide)
  have r3 := hr 3 (by decide)
  have r4 := hr 4 (by decide)
  have r5 := hr 5 (by decide)
  have r6 := hr 6 (by decide)
  have r7 := hr 7 (by decide)
  have r8 := hr 8 (by decide)
  refine ⟨_, _, _, _, _, _, _, _, _, ⟨r0, r1, r2, r3, r4, r5, r6, r7, r8⟩, ?_⟩
  funext i
  match i with
  | 0 => rfl
  | 1 => rfl
  | 2 => rfl
  | 3 => rfl
  | 4 => rfl
  | 5 => rfl
  | 6 => rfl
  | 7 => rfl
  | 8 => rfl
  | i + 9 => exact regAt_hi l 9 _ (by omega)
theorem stack_p {a x y s p t u ad v : Int} {f : Nat → Int} (h : Bd a x y s p t u ((1024 : Nat) : Int) ad) (hf : FB f) (m0 : f 1024 = 1) (m1 : f 1025 = v) (m2 : f 1026 = 79) (m3 : f 1027 = 84) (m4 : f 1028 = 0) (m5 : f 1029 = 8)
    (m6 : f 1030 = 1) (m7 : f 1031 = 5) (m8 : f 1032 = 80) (m9 : f 2048 = 70) (m10 : f 2049 = 85) :
    ∃ q t2 u2 ad2 f2, runsM 7 ⟨rg a x y s p t u ((1024 : Nat) : Int) ad, -1, 0, false⟩ f = (⟨rg v ((x + 1) % 256) y s q t2 u2 ((1033 : Nat) : Int) ad2, -1, 0, false⟩, f2) := by
  have hs := h.hs
  unfold By at hs
  have hv := hf 1025
  rw [m1] at hv
  obtain ⟨c1, hc1⟩ : ∃ c1, (s - 1) % 256 = c1 := ⟨_, rfl⟩
  obtain ⟨c2, hc2⟩ : ∃ c2, (c1 - 1) % 256 = c2 := ⟨_, rfl⟩
  obtain ⟨c3, hc3⟩ : ∃ c3, (c2 - 1) % 256 = c3 := ⟨_, rfl⟩
  have s1 := i_lda h hf (by decide) m0 m1
  have s2 := i_pha s1.2 hf (by decide) m2
  rw [hc1] at s2
  have hg1 : FB (upd f (256 + s).toNat v) := hf.upd hv _
  have g1 : ∀ n, 1000 ≤ n → upd f (256 + s).toNat v n = f n := fun n hn => upd_off _ _ _ _ (by omega)
  have s3 := i_jsr (w := 2048) s2.2 hg1 (by decide) ((g1 _ (by decide)).trans m3) ((g1 _ (by decide)).trans m4) ((g1 _ (by decide)).trans m5) (by decide)
  rw [hc2, hc3, show ((1024 + 2 + 1 + 3 : Nat) : Int) / 256 = 4 by decide, show ((1024 + 2 + 1 + 3 : Nat) : Int) % 256 = 6 by decide] at s3
  obtain ⟨f3, hf3⟩ : ∃ f3, upd (upd (upd f (256 + s).toNat v) (256 + c1).toNat 4) (256 + c2).toNat 6 = f3 := ⟨_, rfl⟩
  rw [hf3] at s3
  have hg3 : FB f3 := by rw [← hf3]; exact FB.upd (FB.upd hg1 ⟨by decide, by decide⟩ _) ⟨by decide, by decide⟩ _
  have g3 : ∀ n, 1000 ≤ n → f3 n = f n := fun n hn => by
    rw [← hf3, upd_off _ _ _ _ (by omega), upd_off _ _ _ _ (by omega)]; exact g1 n hn
  have s4 := i_inx s3.2 hg3 (by decide) ((g3 _ (by decide)).trans m9)
  have s5 := i_rts (w := 1030) s4.2 hg3 (by decide) ((g3 _ (by decide)).trans m10) (show f3 (256 + (c3 + 1) % 256).toNat = 6 by rw [← hf3, upd_at _ _ _ _ (by omega)]) (show f3 (256 + ((c3 + 1) % 256 + 1) % 256).toNat = 4 by rw [← hf3, upd_off _ _ _ _ (by omega), upd_at _ _ _ _ (by omega)]) (by decide)
  rw [show ((c3 + 1) % 256 + 1) % 256 = c1 by omega] at s5
  have s6 := i_lda s5.2 hg3 (by decide) ((g3 _ (by decide)).trans m6) ((g3 _ (by decide)).trans m7)
  have s7 := i_pla s6.2 hg3 (by decide) ((g3 _ (by decide)).trans m8) (show f3 (256 + (c1 + 1) % 256).toNat = v by rw [← hf3, upd_off _ _ _ _ (by omega), upd_off _ _ _ _ (by omega), upd_at _ _ _ _ (by omega)])
  rw [show (c1 + 1) % 256 = s by omega] at s7
  exact ⟨_, _, _, _, _, (runs_next (n := 6) s1.1).trans ((runs_next (n := 5) s2.1).trans ((runs_next (n := 4) s3.1).trans ((runs_next (n := 3) s4.1).trans ((runs_next (n := 2) s5.1).trans ((runs_next (n := 1) s6.1).trans (runs_next (n := 0) s7.1))))))⟩
end Go.Proofs.Ytjmmompbmjhkpaa.Calc

namespace Go.Proofs.Ytjmmompbmjhkpaa.Calc
open Go Code
set_option linter.unusedSimpArgs false
set_option linter.unusedVariables false
set_option maxRecDepth 20000
set_option maxHeartbeats 4000000
attribute [local irreducible] WOpsT AW AK RK AKW UK UC memF
theorem progF_list (p : List Int) (hp : ∀ v ∈ p, 0 ≤ v ∧ v < 256) : FB (progF p) := by
  intro i; unfold progF; split
  · rw [List.getD_eq_getElem?_getD]
    cases e : p[i - 1024]? with
    | none => exact ⟨by decide, by decide⟩
    | some v => exact hp v (List.mem_of_getElem? e)
  · exact ⟨by decide, by decide⟩
theorem op_lda1 : opM ⟨#[108, 100, 97]⟩ 1 = 1 := by decide +kernel
end Go.Proofs.Ytjmmompbmjhkpaa.Calc

namespace Go.Proofs.Ytjmmompbmjhkpaa.Calc
open Go Code
set_option linter.unusedSimpArgs false
set_option linter.unusedVariables false
set_option maxRecDepth 20000
set_option maxHeartbeats 4000000
attribute [local irreducible] WOpsT AW AK RK AKW UK UC memF
theorem op_pha : opM ⟨#[112, 104, 97]⟩ 0 = 79 := by decide +kernel
theorem op_jsr : opM ⟨#[106, 115, 114]⟩ 4 = 84 := by decide +kernel
theorem op_pla : opM ⟨#[112, 108, 97]⟩ 0 = 80 := by decide +kernel
theorem op_inx : opM ⟨#[105, 110, 120]⟩ 0 = 70 := by decide +kernel
theorem op_rts : opM ⟨#[114, 116, 115]⟩ 0 = 85 := by decide +kernel
theorem fB_put (f : Nat → Int) (a : Nat) (x v : Int) : (⟨(fB f).ver, (fB f).esz, (fB f).rows.set a (spl [V.c (.int .u8 x)] 0 [V.c (.int .u8 v)])⟩ : Blk) = fB (upd f a v) := by
  show (⟨1, 1, (bcells (memF f)).set a _⟩ : Blk) = ⟨1, 1, _⟩
  rw [memF_st]
theorem stack_bytes (v : Int) (hv : 0 ≤ v ∧ v < 256) : ∀ q ∈ [1, v, 79, 84, 0, 8, 1, 5, (80 : Int)], 0 ≤ q ∧ q < 256 := by
  intro q hq
  simp only [List.mem_cons, List.not_mem_nil, or_false] at hq
  omega
theorem stdstack_ok (rs : List Int) (n s : Int) : FnE Try.prog 22 [.sl 1 (cells rs), I n, I s] [] (.c (.bool true)) [] := by
  have hb1 := below_ok s 256 (by decide) (by decide)
  have hlow := low8 n
  obtain ⟨v, hv⟩ : ∃ v, n % 256 = v := ⟨_, rfl⟩
  obtain ⟨c, hc⟩ : ∃ c, s % 256 = c := ⟨_, rfl⟩
  rw [hc] at hb1
  have w1 := wrap_u8m n
  rw [hv] at w1 hlow
  have o1 := opcode_c _ _ 1 op_lda1 (by decide)
  have o2 := opcode_c _ _ 79 op_pha (by decide)
  have o3 := opcode_c _ _ 84 op_jsr (by decide)
  have o4 := opcode_c _ _ 80 op_pla (by decide)
  have o5 := opcode_c _ _ 70 op_inx (by decide)
  have o6 := opcode_c _ _ 85 op_rts (by decide)
  have hfb := progF_list _ (stack_bytes v (by omega))
  obtain ⟨p, hp⟩ : ∃ p, [1, v, 79, 84, 0, 8, 1, 5, (80 : Int)] = p := ⟨_, rfl⟩
  have hpl : p.length = 9 := by rw [← hp]; rfl
  have hry := ready_c rs p (by omega)
  rw [hpl] at hry
  obtain ⟨ra, rx, ry, rs', rp, rt, ru, rpc, rad, hB, hr⟩ := regs_rg rs
  rw [hr, upd_rg7] at hry
  have hxr := hB.hx
  unfold By at hxr
  have hx : FnE Try.prog 35 [I (rx + 1), I 8] [] (I ((rx + 1) % 256)) [] := low8 _
  have hg1 : FB (upd (upd (progF [1, v, 79, 84, 0, 8, 1, 5, (80 : Int)]) 2048 70) 2049 85) := FB.upd (FB.upd hfb ⟨by decide, by decide⟩ _) ⟨by decide, by decide⟩ _
  obtain ⟨q, t2, u2, ad2, f2, e⟩ := stack_p (v := v) ((hB.s3 (v := c) ⟨by omega, by omega⟩).s7 (v := ((1024 : Nat) : Int)) ⟨by decide, by decide⟩) hg1 rfl rfl rfl rfl rfl rfl rfl rfl rfl rfl rfl
  rw [hp] at hg1 e
  have hw6 := runs_c 7 (by decide) ⟨rg ra rx ry c rp rt ru 1024 rad, -1, 0, false⟩ _ hg1
  rw [show (1024 : Int) = ((1024 : Nat) : Int) from rfl, e] at hw6
  rw [show ((1024 : Nat) : Int) = 1024 from rfl] at hw6
  dsimp only [coC] at hw6
  have hbl : (bcells p) = [[.c (.int .u8 1)], [.c (.int .u8 v)], [.c (.int .u8 79)], [.c (.int .u8 84)], [.c (.int .u8 0)], [.c (.int .u8 8)], [.c (.int .u8 1)], [.c (.int .u8 5)], [.c (.int .u8 80)]] := by rw [← hp]; rfl
  rw [hbl] at hry
  have hwh := wholes_ok
  clear hbl hp
  have k0 : (rg v ((rx + 1) % 256) ry c q t2 u2 ((1033 : Nat) : Int) ad2) 0 = v := rfl
  have k1 : (rg v ((rx + 1) % 256) ry c q t2 u2 ((1033 : Nat) : Int) ad2) 1 = (rx + 1) % 256 := rfl
  have k3 : (rg v ((rx + 1) % 256) ry c q t2 u2 ((1033 : Nat) : Int) ad2) 3 = c := rfl
  have k7 : (rg v ((rx + 1) % 256) ry c q t2 u2 ((1033 : Nat) : Int) ad2) 7 = 1033 := rfl
  generalize hP : rg v ((rx + 1) % 256) ry c q t2 u2 ((1033 : Nat) : Int) ad2 = r2 at *
  have hset : upd (rg ra rx ry rs' rp rt ru 1024 rad) 3 c = rg ra rx ry c rp rt ru 1024 rad := upd_rg3 _
  generalize progF p = f at *
  have j1 : rg ra rx ry c rp rt ru 1024 rad 1 = rx := rfl
  have j3 : rg ra rx ry c rp rt ru 1024 rad 3 = c := rfl
  generalize rg ra rx ry rs' rp rt ru 1024 rad = r0 at *
  generalize rg ra rx ry c rp rt ru 1024 rad = r at *
  clear hP e
  refine N.fn Try.func22 k22 lb q22 fun Q hQ hQN => ?_
  rw [c22]
  repeat' (first
  | rw [co_mren]
  | rw [co_co]
  | rw [co_t12]
  | rw [co_t9]
  | rw [cp_t5]
  | rw [co_z]
  | simp only [renB_fA, renB_fB]
  | rw [cp_mren]
  | rw [cp_z]
  | rw [ri_t9]
  | rw [ri_mren]
  | rw [co_r]
  | rw [co_b]
  | rw [co_b2]
  | rw [w1]
  | (show WOpsT _ (⟨_, .st _ _ _, none⟩ :: _) _ _ _ _; refine T.st rfl rfl rfl ⟨rfl, rfl⟩ (memF_get _ 2048 (by decide)) lb ?_)
  | (show WOpsT _ (⟨_, .st _ _ _, none⟩ :: _) _ _ _ _; refine T.st rfl rfl rfl ⟨rfl, rfl⟩ (memF_get _ 2049 (by decide)) lb ?_)
  | rw [memF_st]
  | (show AKW _ _ (.seq (.reg (⟨some 11, _, _⟩ :: _) _) _) _ _ _ _; refine N.now ?_)
  | refine N.regS fun K hK => ?_
  | refine N.dregS fun K hK => ?_
  | refine N.regN fun K hK => ?_
  | refine N.dregN fun K hK => ?_
  | simp only [T.mv, sm, AO.ev, put, lk, enter, reduceIte, Nat.reduceEqDiff, Nat.reduceAdd, Nat.reduceMul, Nat.reduceSub, Int.reduceNeg, Int.reduceToNat, upto, renB, setAll]
  | (refine T.nil ?_; (first | refine hK _ _ _ (by rfl) ?_ | refine hK _ _ _ ?_); (try simp only [keep, List.map, lk, reduceIte, Nat.reduceEqDiff, enter]); clear hK K)
  | (show WOpsT _ (⟨_, .call _ _, none⟩ :: _) _ _ _ _; first | refine T.call0 e29 rfl (hb1) ?_ | refine T.call0 e84 rfl (o1) ?_ | refine T.call0 e84 rfl (o2) ?_ | refine T.call0 e84 rfl (o3) ?_ | refine T.call0 e84 rfl (o4) ?_ | refine T.call0 e84 rfl (o5) ?_ | refine T.call0 e84 rfl (o6) ?_ | refine T.cP [0] e83 (hry) ?_)
  | (show WOpsT _ (⟨_, .ld _ _, none⟩ :: _) _ _ _ _; first | refine L.ld ?_ | refine L.ldd ?_ | refine L.ldn ?_ | refine L.lddn ?_)
  | (show WOpsT _ (⟨_, .idx _ _ _ _, none⟩ :: _) _ _ _ _; first | refine L.idx ?_ | refine L.idxs ?_ | refine L.idxa ?_ | refine L.idxd ?_)
  | (show WOpsT _ (⟨_, .bin _ _ _, none⟩ :: _) _ _ _ _; first | refine L.add ?_ | refine L.bin ?_)
  | (show WOpsT _ (⟨_, _, some (_, true)⟩ :: _) _ _ _ _; first | refine L.goT ?_ | refine L.paT ?_ | refine L.go ?_ | refine L.pass ?_ | refine T.pU rfl ?_ | refine T.gT rfl (fun hgd => ?_) (fun hgd => ?_))
  | (show WOpsT _ (⟨_, .pick _ _ _, none⟩ :: _) _ _ _ _; first | refine L.pkT ?_ | refine L.pkF ?_ | refine L.pickT ?_ | refine L.pickF ?_ | refine L.pickB ?_ | refine T.pkD rfl (fun hgd => ?_) (fun hgd => ?_))
  | (show AK _ _ _ _ _ _ _; first | refine N.seq ?_ | refine N.ret ?_)
  | (show RK _ _ _ _ _ _ _; simp only [rk, rk0, reduceIte, Nat.reduceEqDiff])
  | (show WOpsT _ _ _ _ _ _; first | refine L.ext ?_ | refine T.cvt rfl ?_ | refine L.fad ?_ | refine L.fadd ?_ | refine L.nilc ?_ | refine L.nilcd ?_ | refine T.nilcf rfl ?_ | refine T.nilci rfl ?_ | refine L.st ?_ | refine L.zero ?_ | refine T.mki ?_ | refine L.bsl ?_)
  | refine hQ _ _ _ rfl ?_
  | refine hQN _ _ _ rfl ?_)
  refine N.weak (fr1 := [(1, I n), (2, I s), (7, .ptr 2 1 0 0), (8, .ptr 0 1 0 0)]) (h1 := [fA, fB f, ⟨1, 12, [coA r0 (-1) 0 false]⟩]) (Weaks.gc [1, 2, 3] 0 rfl ⟨.rfl, .rfl, .rfl, .rfl, trivial⟩ (by show [_, fB f, _] = [_, outB _ _ _ (renB _ (fB f)), _]; rw [renB_fB, outB_fB]; rfl)) (N.now ?_)
  repeat' (first
  | rw [co_mren]
  | rw [co_co]
  | rw [co_t12]
  | rw [co_t9]
  | rw [cp_t5]
  | rw [co_z]
  | simp only [renB_fA, renB_fB]
  | rw [cp_mren]
  | rw [cp_z]
  | rw [ri_t9]
  | rw [ri_mren]
  | rw [co_r]
  | rw [co_b]
  | rw [co_b2]
  | (show WOpsT _ (⟨_, .st _ _ _, none⟩ :: _) _ _ _ _; refine T.st rfl rfl rfl ⟨rfl, rfl⟩ (memF_get _ 2048 (by decide)) lb ?_)
  | (show WOpsT _ (⟨_, .st _ _ _, none⟩ :: _) _ _ _ _; refine T.st rfl rfl rfl ⟨rfl, rfl⟩ (memF_get _ 2049 (by decide)) lb ?_)
  | rw [fB_put]
  | (show AKW _ _ (.seq (.reg (⟨some 35, _, _⟩ :: _) _) _) _ _ _ _; refine N.now ?_)
  | refine N.regS fun K hK => ?_
  | refine N.dregS fun K hK => ?_
  | refine N.regN fun K hK => ?_
  | refine N.dregN fun K hK => ?_
  | simp only [T.mv, sm, AO.ev, put, lk, enter, reduceIte, Nat.reduceEqDiff, Nat.reduceAdd, Nat.reduceMul, Nat.reduceSub, Int.reduceNeg, Int.reduceToNat, upto, renB, setAll]
  | (refine T.nil ?_; (first | refine hK _ _ _ (by rfl) ?_ | refine hK _ _ _ ?_); (try simp only [keep, List.map, lk, reduceIte, Nat.reduceEqDiff, enter]); clear hK K)
  | (show WOpsT _ (⟨_, .call _ _, none⟩ :: _) _ _ _ _; first | refine T.call0 e29 rfl (hb1) ?_ | refine T.call0 e84 rfl (o5) ?_ | refine T.call0 e84 rfl (o6) ?_)
  | (show WOpsT _ (⟨_, .ld _ _, none⟩ :: _) _ _ _ _; first | refine L.ld ?_ | refine L.ldd ?_ | refine L.ldn ?_ | refine L.lddn ?_)
  | (show WOpsT _ (⟨_, .idx _ _ _ _, none⟩ :: _) _ _ _ _; first | refine L.idx ?_ | refine L.idxs ?_ | refine L.idxa ?_ | refine L.idxd ?_)
  | (show WOpsT _ (⟨_, .bin _ _ _, none⟩ :: _) _ _ _ _; first | refine L.add ?_ | refine L.bin ?_)
  | (show WOpsT _ (⟨_, _, some (_, true)⟩ :: _) _ _ _ _; first | refine L.goT ?_ | refine L.paT ?_ | refine L.go ?_ | refine L.pass ?_ | refine T.pU rfl ?_ | refine T.gT rfl (fun hgd => ?_) (fun hgd => ?_))
  | (show WOpsT _ (⟨_, .pick _ _ _, none⟩ :: _) _ _ _ _; first | refine L.pkT ?_ | refine L.pkF ?_ | refine L.pickT ?_ | refine L.pickF ?_ | refine L.pickB ?_ | refine T.pkD rfl (fun hgd => ?_) (fun hgd => ?_))
  | (show AK _ _ _ _ _ _ _; first | refine N.seq ?_ | refine N.ret ?_)
  | (show RK _ _ _ _ _ _ _; simp only [rk, rk0, reduceIte, Nat.reduceEqDiff])
  | (show WOpsT _ _ _ _ _ _; first | refine L.ext ?_ | refine T.cvt rfl ?_ | refine L.fad ?_ | refine L.fadd ?_ | refine L.nilc ?_ | refine L.nilcd ?_ | refine T.nilcf rfl ?_ | refine T.nilci rfl ?_ | refine L.st ?_ | refine L.zero ?_ | refine T.mki ?_ | refine L.bsl ?_)
  | refine hQ _ _ _ rfl ?_
  | refine hQN _ _ _ rfl ?_)
  rw [co_reg _ _ _ _ _ 3 (by decide), hset]
  refine N.now ?_
  clear hry hset hg1
  repeat' (first
  | rw [co_mren]
  | rw [co_co]
  | rw [co_t12]
  | rw [co_t9]
  | rw [cp_t5]
  | rw [co_z]
  | simp only [renB_fA, renB_fB]
  | rw [cp_mren]
  | rw [cp_z]
  | rw [ri_t9]
  | rw [ri_mren]
  | rw [co_r]
  | rw [co_b]
  | rw [co_b2]
  | rw [k0]
  | rw [k1]
  | rw [k3]
  | rw [k7]
  | rw [j1]
  | rw [j3]
  | refine N.regS fun K hK => ?_
  | refine N.dregS fun K hK => ?_
  | refine N.regN fun K hK => ?_
  | refine N.dregN fun K hK => ?_
  | simp only [T.mv, sm, AO.ev, put, lk, enter, reduceIte, Nat.reduceEqDiff, Nat.reduceAdd, Nat.reduceMul, Nat.reduceSub, Int.reduceNeg, Int.reduceToNat, upto, renB, setAll]
  | (refine T.nil ?_; (first | refine hK _ _ _ (by rfl) ?_ | refine hK _ _ _ ?_); (try simp only [keep, List.map, lk, reduceIte, Nat.reduceEqDiff, enter]); clear hK K)
  | (show WOpsT _ (⟨_, .call _ _, none⟩ :: _) _ _ _ _; first | refine T.cP [0, 1] e85 (hw6) ?_ | refine T.call0 e82 rfl (hwh) ?_ | refine T.call0 e35 rfl (hlow) ?_ | refine T.call0 e35 rfl (hx) ?_)
  | (show WOpsT _ (⟨_, .ld _ _, none⟩ :: _) _ _ _ _; first | refine L.ld ?_ | refine L.ldd ?_ | refine L.ldn ?_ | refine L.lddn ?_)
  | (show WOpsT _ (⟨_, .idx _ _ _ _, none⟩ :: _) _ _ _ _; first | refine L.idx ?_ | refine L.idxs ?_ | refine L.idxa ?_ | refine L.idxd ?_)
  | (show WOpsT _ (⟨_, .bin _ _ _, none⟩ :: _) _ _ _ _; first | refine L.add ?_ | refine L.bin ?_)
  | (show WOpsT _ (⟨_, _, some (_, true)⟩ :: _) _ _ _ _; first | refine L.goT ?_ | refine L.paT ?_ | refine L.go ?_ | refine L.pass ?_ | refine T.pU rfl ?_ | refine T.gT rfl (fun hgd => ?_) (fun hgd => ?_))
  | (show WOpsT _ (⟨_, .pick _ _ _, none⟩ :: _) _ _ _ _; first | refine L.pkT ?_ | refine L.pkF ?_ | refine L.pickT ?_ | refine L.pickF ?_ | refine L.pickB ?_ | refine T.pkD rfl (fun hgd => ?_) (fun hgd => ?_))
  | (show AKW _ _ _ _ _ _ _; first | refine N.now ?_)
  | (show AK _ _ _ _ _ _ _; first | refine N.seq ?_ | refine N.ret ?_)
  | (show RK _ _ _ _ _ _ _; simp only [rk, rk0, reduceIte, Nat.reduceEqDiff])
  | (show WOpsT _ _ _ _ _ _; first | refine L.ext ?_ | refine T.cvt rfl ?_ | refine L.fad ?_ | refine L.fadd ?_ | refine L.nilc ?_ | refine L.nilcd ?_ | refine T.nilcf rfl ?_ | refine T.nilci rfl ?_ | refine L.st ?_ | refine L.zero ?_ | refine T.mki ?_ | refine L.bsl ?_)
  | refine hQ _ _ _ rfl ?_
  | refine hQN _ _ _ rfl ?_)
  all_goals first
    | exact WS.bool rfl (by simp; done)
    | (exfalso; omega)
    | trace_state
end Go.Proofs.Ytjmmompbmjhkpaa.Calc

