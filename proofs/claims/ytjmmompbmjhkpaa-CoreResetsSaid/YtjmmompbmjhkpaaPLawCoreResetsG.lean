/- Several texts in one (FnStdE, FnStdF, FnStdG, FnStdH, FnCoreL, FnWholeC, PureRg, FnWholeD), for the proof of LawCoreResets. No condition beyond those in each lemma. -/
import Derived.Test.YtjmmompbmjhkpaaPLawCoreResetsF
import Derived.Test.YtjmmompbmjhkpaaPLawCoreResetsE
import Derived.Test.YtjmmompbmjhkpaaPLawCoreResetsD
import Derived.KernelRfl
namespace Go.Proofs.Ytjmmompbmjhkpaa.Calc
open Go Code
set_option linter.unusedSimpArgs false
set_option linter.unusedVariables false
set_option maxRecDepth 20000
set_option maxHeartbeats 4000000
attribute [local irreducible] WOpsT AW AK RK AKW UK UC
def mkH (ms : List Int) (g : Nat → List Ins) : Nat → List Blk
  | 0 => [⟨1, 1, [[.c (.slice none 0 0)]]⟩, ⟨1, 1, cells ms⟩]
  | i + 1 => [mkA 2 (g (i + 1)), ⟨1, 1, cells ms⟩, mkB (g (i + 1))]
theorem loads0_ok (s : ByteArray) (r : Int) (ms : List Int) (h0 : 0 < ms.length) (hb : ms.length ≤ 250) (hms : ∀ m ∈ ms, m = 1 ∨ Adr m) :
    FnE Try.prog 179 [.ptr 0 1 0 0, .c (.string s), I r, .psl 1 1 0 ms.length] [⟨1, 1, [[.c (.slice none 0 0)]]⟩, ⟨1, 1, cells ms⟩] (.tup [])
      [mkA 2 (number 0 (loadsM s r ms)), ⟨1, 1, cells ms⟩, mkB (number 0 (loadsM s r ms))] := by
  obtain ⟨F, hF⟩ : ∃ F : Int → Row, F = fun m => (s, m, readsM m [twoM 1 r 5, oneM 3 r]) := ⟨_, rfl⟩
  have hfin : number 0 (loadsM s r ms) = grow [] F ms ms.length := by rw [grow_all, hF]; rfl
  rw [hfin]
  obtain ⟨g, hg⟩ : ∃ g, grow [] F ms = g := ⟨_, rfl⟩
  have hg0 : g 0 = [] := by rw [← hg, grow_zero]
  have hgl : ∀ i, i ≤ ms.length → (g i).length = i := fun i hi => by rw [← hg, grow_len [] F ms i hi]; exact Nat.zero_add _
  have hgs : ∀ (i : Nat) (hi : i < ms.length), g (i + 1) = g i ++ [insN (g i) s ms[i] (readsM ms[i] [twoM 1 r 5, oneM 3 r])] := fun i hi => by rw [← hg, grow_succ [] F ms i hi, hF]
  rw [hg]
  clear hfin hg hF
  refine N.fn Try.func179 k179 lb q179 fun Q hQ hQN => ?_
  rw [c179]
  repeat' (first
    | refine N.regS fun K hK => ?_
    | refine N.dregS fun K hK => ?_
    | refine N.regN fun K hK => ?_
    | refine N.dregN fun K hK => ?_
    | simp only [T.mv, sm, AO.ev, put, lk, enter, reduceIte, Nat.reduceEqDiff, Nat.reduceAdd, Nat.reduceMul, Nat.reduceSub, Int.reduceNeg, Int.reduceToNat, upto, renB, setAll]
    | (refine T.nil ?_; (first | refine hK _ _ _ (by rfl) ?_ | refine hK _ _ _ ?_); (try simp only [keep, List.map, lk, reduceIte, Nat.reduceEqDiff, enter]); clear hK K)
    | (show WOpsT _ (⟨_, .ld _ _, none⟩ :: _) _ _ _ _; first | refine L.ld ?_ | refine L.ldd ?_)
    | (show WOpsT _ (⟨_, .idx _ _ _ _, none⟩ :: _) _ _ _ _; first | refine L.idx ?_ | refine L.idxs ?_)
    | (show WOpsT _ (⟨_, .bin _ _ _, none⟩ :: _) _ _ _ _; first | refine L.add ?_ | refine L.bin ?_)
    | (show AKW _ _ _ _ _ _ _; first | refine N.now ?_)
    | (show AK _ _ (.cond _ _ _) _ _ _ _; first | refine N.c1 ?_ | refine N.c2 ?_ | refine N.c3 ?_ | refine N.c4 ?_ | refine N.condD rfl (fun hcd => ?_) (fun hcd => ?_) | refine N.condB rfl (fun hcd => ?_) (fun hcd => ?_) | refine N.condU rfl ?_ ?_)
    | (show AK _ _ _ _ _ _ _; first | refine N.seq ?_ | refine N.block ?_ | refine N.skip ?_ | refine N.exit ?_ | refine N.ret ?_)
    | (show RK _ _ _ _ _ _ _; simp only [rk, rk0, reduceIte, Nat.reduceEqDiff])
    | (show WOpsT _ _ _ _ _ _; first | refine L.len ?_ | refine L.lenS ?_ | refine L.lenN ?_ | refine L.bsl ?_)
    | refine hQ _ _ _ rfl ?_
    | refine hQN _ _ _ rfl ?_)
  refine N.loop (σ := Nat) (fun i => [(0, .ptr 0 1 0 0), (1, .c (.string s)), (2, I r), (10, .psl 1 1 0 ms.length), (11, I ms.length), (12, I i)]) (mkH ms g) (fun i => i ≤ ms.length) (fun i => ms.length - i) 0 (by omega) (Weaks.sel (by repeat (first | exact trivial | refine ⟨.rfl, ?_⟩ | refine ⟨.any, ?_⟩)) rfl) fun i hi R hC => ?_
  by_cases hil : i < ms.length
  · have e3 : 0 + (i : Int).toNat = i := by omega
    have hgt := cget ms i hil
    have hmi := hms _ (List.getElem_mem hil)
    have hn := hgs i hil
    have hlen := hgl i hi
    obtain ⟨m, hm⟩ : ∃ m, ms[i] = m := ⟨_, rfl⟩
    rw [hm] at hgt hmi hn
    have hr := reads_ok m hmi [twoM 1 r 5, oneM 3 r] 2
    rcases i with _ | i
    · rw [hg0] at hn
      have ha := add0_ok s m (readsM m [twoM 1 r 5, oneM 3 r])
      repeat' (first
        | rw [e3]
        | (show WOpsT _ (⟨_, .ld _ _, none⟩ :: _) _ _ _ _; refine T.ld rfl rfl rfl hgt rfl ?_)
        | rw [rows_renA]
        | (show AK _ _ (.reg (⟨some 16, _, _⟩ :: _) _) _ _ _ _; refine N.cutN 10 fun K hK => ?_)
        | (show AKW _ _ (.seq _ _) _ _ _ _; refine N.now ?_)
        | (show AKW _ _ (.block _ _) _ _ _ _; refine N.now ?_)
        | (show AKW _ _ (.cond _ _ _) _ _ _ _; refine N.now ?_)
        | (show AKW _ _ (.reg (⟨some 16, _, _⟩ :: _) _) _ _ _ _; refine N.now ?_)
        | refine N.regS fun K hK => ?_
        | refine N.dregS fun K hK => ?_
        | refine N.regN fun K hK => ?_
        | refine N.dregN fun K hK => ?_
        | simp only [T.mv, sm, AO.ev, put, lk, enter, reduceIte, Nat.reduceEqDiff, Nat.reduceAdd, Nat.reduceMul, Nat.reduceSub, Int.reduceNeg, Int.reduceToNat, upto, renB, setAll]
        | (refine T.nil ?_; (first | refine hK _ _ _ (by rfl) ?_ | refine hK _ _ _ ?_); (try simp only [keep, List.map, lk, reduceIte, Nat.reduceEqDiff, enter]); clear hK K)
        | (show WOpsT _ (⟨_, .call _ _, none⟩ :: _) _ _ _ _; first | refine T.call0 e185 rfl ((two_ok 1 r 5)) ?_ | refine T.call0 e186 rfl ((one_ok 3 r)) ?_ | refine T.cP [2] e193 (hr) ?_)
        | (show WOpsT _ (⟨_, .ld _ _, none⟩ :: _) _ _ _ _; first | refine L.ld ?_ | refine L.ldd ?_)
        | (show WOpsT _ (⟨_, .idx _ _ _ _, none⟩ :: _) _ _ _ _; first | refine L.idx ?_ | refine L.idxs ?_)
        | (show WOpsT _ (⟨_, .bin _ _ _, none⟩ :: _) _ _ _ _; first | refine L.add ?_ | refine L.bin ?_)
        | (show AK _ _ (.cond _ _ _) _ _ _ _; first | refine N.c1 ?_ | refine N.c2 ?_ | refine N.c3 ?_ | refine N.c4 ?_ | refine N.condD rfl (fun hcd => ?_) (fun hcd => ?_) | refine N.condB rfl (fun hcd => ?_) (fun hcd => ?_) | refine N.condU rfl ?_ ?_)
        | (show AK _ _ _ _ _ _ _; first | refine N.seq ?_ | refine N.block ?_ | refine N.skip ?_ | refine N.exit ?_ | refine N.ret ?_)
        | (show RK _ _ _ _ _ _ _; simp only [rk, rk0, reduceIte, Nat.reduceEqDiff])
        | (show WOpsT _ _ _ _ _ _; first | refine L.len ?_ | refine L.lenS ?_ | refine L.lenN ?_ | refine L.bsl ?_)
        | refine hQ _ _ _ rfl ?_
        | refine hQN _ _ _ rfl ?_)
      refine N.weak (fr1 := [(0, .ptr 0 1 0 0), (1, .c (.string s)), (2, I r), (10, .psl 1 1 0 ms.length), (11, I ms.length), (12, I ((0 : Nat) : Int)), (16, .ptr 0 1 0 0), (17, .c (.string s)), (18, I m), (25, .sl 4 ((readsM m [twoM 1 r 5, oneM 3 r]).map cyC))]) (h1 := [⟨1, 1, [[.c (.slice none 0 0)]]⟩, ⟨1, 1, cells ms⟩]) (Weaks.gc [0, 1] 2 rfl ⟨.rfl, .rfl, .rfl, .rfl, .rfl, .rfl, .rfl, .rfl, .rfl, ?_, trivial⟩ ?_) (N.now ?_)
      · exact Sub.of_eq (out_cyc (x := rdM (if m = 1 then 0 else 2) 5 [twoM 1 r 5, oneM 3 r]) rfl rfl rfl rfl (Nat.le_refl _) (Nat.le_refl _))
      · show [_, _] = [_, outB _ _ _ ⟨1, 1, cells ms⟩]; rw [outB_ints]; rfl
      repeat' (first
        | simp only [renB_mkB]
        | refine N.regS fun K hK => ?_
        | refine N.dregS fun K hK => ?_
        | refine N.regN fun K hK => ?_
        | refine N.dregN fun K hK => ?_
        | simp only [T.mv, sm, AO.ev, put, lk, enter, reduceIte, Nat.reduceEqDiff, Nat.reduceAdd, Nat.reduceMul, Nat.reduceSub, Int.reduceNeg, Int.reduceToNat, upto, renB, setAll]
        | (refine T.nil ?_; (first | refine hK _ _ _ (by rfl) ?_ | refine hK _ _ _ ?_); (try simp only [keep, List.map, lk, reduceIte, Nat.reduceEqDiff, enter]); clear hK K)
        | (show WOpsT _ (⟨_, .call _ _, none⟩ :: _) _ _ _ _; first | refine T.cP [0] e183 (ha) ?_)
        | (show WOpsT _ (⟨_, .ld _ _, none⟩ :: _) _ _ _ _; first | refine L.ld ?_ | refine L.ldd ?_)
        | (show WOpsT _ (⟨_, .idx _ _ _ _, none⟩ :: _) _ _ _ _; first | refine L.idx ?_ | refine L.idxs ?_)
        | (show WOpsT _ (⟨_, .bin _ _ _, none⟩ :: _) _ _ _ _; first | refine L.add ?_ | refine L.bin ?_)
        | (show AKW _ _ _ _ _ _ _; first | refine N.now ?_)
        | (show AK _ _ (.cond _ _ _) _ _ _ _; first | refine N.c1 ?_ | refine N.c2 ?_ | refine N.c3 ?_ | refine N.c4 ?_ | refine N.condD rfl (fun hcd => ?_) (fun hcd => ?_) | refine N.condB rfl (fun hcd => ?_) (fun hcd => ?_) | refine N.condU rfl ?_ ?_)
        | (show AK _ _ _ _ _ _ _; first | refine N.seq ?_ | refine N.block ?_ | refine N.skip ?_ | refine N.exit ?_ | refine N.ret ?_)
        | (show RK _ _ _ _ _ _ _; simp only [rk, rk0, reduceIte, Nat.reduceEqDiff])
        | (show WOpsT _ _ _ _ _ _; first | refine L.len ?_ | refine L.lenS ?_ | refine L.lenN ?_ | refine L.bsl ?_)
        | refine hQ _ _ _ rfl ?_
        | refine hQN _ _ _ rfl ?_)
      exact hC _ _ (0 + 1) (by omega) (by omega) (Weaks.sel (by repeat (first | exact trivial | refine ⟨.rfl, ?_⟩ | refine ⟨.any, ?_⟩)) (by show [mkA 2 (g (0 + 1)), _, mkB (g (0 + 1))] = [renB [0, 2] (mkA 1 [_]), _, renB [0, 2] (mkB [_])]; rw [renB_mkB, hn]; rfl))
    · have ha := add_ok (g (i + 1)) (by omega) s m (readsM m [twoM 1 r 5, oneM 3 r])
      rw [← hn] at ha
      repeat' (first
        | rw [e3]
        | (show WOpsT _ (⟨_, .ld _ _, none⟩ :: _) _ _ _ _; refine T.ld rfl rfl rfl hgt rfl ?_)
        | rw [rows_renA]
        | (show AK _ _ (.reg (⟨some 16, _, _⟩ :: _) _) _ _ _ _; refine N.cutN 10 fun K hK => ?_)
        | (show AKW _ _ (.seq _ _) _ _ _ _; refine N.now ?_)
        | (show AKW _ _ (.block _ _) _ _ _ _; refine N.now ?_)
        | (show AKW _ _ (.cond _ _ _) _ _ _ _; refine N.now ?_)
        | (show AKW _ _ (.reg (⟨some 16, _, _⟩ :: _) _) _ _ _ _; refine N.now ?_)
        | refine N.regS fun K hK => ?_
        | refine N.dregS fun K hK => ?_
        | refine N.regN fun K hK => ?_
        | refine N.dregN fun K hK => ?_
        | simp only [T.mv, sm, AO.ev, put, lk, enter, reduceIte, Nat.reduceEqDiff, Nat.reduceAdd, Nat.reduceMul, Nat.reduceSub, Int.reduceNeg, Int.reduceToNat, upto, renB, setAll]
        | (refine T.nil ?_; (first | refine hK _ _ _ (by rfl) ?_ | refine hK _ _ _ ?_); (try simp only [keep, List.map, lk, reduceIte, Nat.reduceEqDiff, enter]); clear hK K)
        | (show WOpsT _ (⟨_, .call _ _, none⟩ :: _) _ _ _ _; first | refine T.call0 e185 rfl ((two_ok 1 r 5)) ?_ | refine T.call0 e186 rfl ((one_ok 3 r)) ?_ | refine T.cP [3] e193 (hr) ?_)
        | (show WOpsT _ (⟨_, .ld _ _, none⟩ :: _) _ _ _ _; first | refine L.ld ?_ | refine L.ldd ?_)
        | (show WOpsT _ (⟨_, .idx _ _ _ _, none⟩ :: _) _ _ _ _; first | refine L.idx ?_ | refine L.idxs ?_)
        | (show WOpsT _ (⟨_, .bin _ _ _, none⟩ :: _) _ _ _ _; first | refine L.add ?_ | refine L.bin ?_)
        | (show AK _ _ (.cond _ _ _) _ _ _ _; first | refine N.c1 ?_ | refine N.c2 ?_ | refine N.c3 ?_ | refine N.c4 ?_ | refine N.condD rfl (fun hcd => ?_) (fun hcd => ?_) | refine N.condB rfl (fun hcd => ?_) (fun hcd => ?_) | refine N.condU rfl ?_ ?_)
        | (show AK _ _ _ _ _ _ _; first | refine N.seq ?_ | refine N.block ?_ | refine N.skip ?_ | refine N.exit ?_ | refine N.ret ?_)
        | (show RK _ _ _ _ _ _ _; simp only [rk, rk0, reduceIte, Nat.reduceEqDiff])
        | (show WOpsT _ _ _ _ _ _; first | refine L.len ?_ | refine L.lenS ?_ | refine L.lenN ?_ | refine L.bsl ?_)
        | refine hQ _ _ _ rfl ?_
        | refine hQN _ _ _ rfl ?_)
      refine N.weak (fr1 := [(0, .ptr 0 1 0 0), (1, .c (.string s)), (2, I r), (10, .psl 1 1 0 ms.length), (11, I ms.length), (12, I ((i + 1 : Nat) : Int)), (16, .ptr 0 1 0 0), (17, .c (.string s)), (18, I m), (25, .sl 4 ((readsM m [twoM 1 r 5, oneM 3 r]).map cyC))]) (h1 := [mkA 2 (g (i + 1)), ⟨1, 1, cells ms⟩, mkB (g (i + 1))]) (Weaks.gc [0, 1, 2] 2 rfl ⟨.rfl, .rfl, .rfl, .rfl, .rfl, .rfl, .rfl, .rfl, .rfl, ?_, trivial⟩ ?_) (N.now ?_)
      · exact Sub.of_eq (out_cyc (x := rdM (if m = 1 then 0 else 2) 5 [twoM 1 r 5, oneM 3 r]) rfl rfl rfl rfl (Nat.le_refl _) (Nat.le_refl _))
      · show [_, _, _] = [_, outB _ _ _ ⟨1, 1, cells ms⟩, outB _ _ _ (mkB _)]; rw [outB_mkB, outB_ints]; rfl
      repeat' (first
        | simp only [renB_mkB]
        | refine N.regS fun K hK => ?_
        | refine N.dregS fun K hK => ?_
        | refine N.regN fun K hK => ?_
        | refine N.dregN fun K hK => ?_
        | simp only [T.mv, sm, AO.ev, put, lk, enter, reduceIte, Nat.reduceEqDiff, Nat.reduceAdd, Nat.reduceMul, Nat.reduceSub, Int.reduceNeg, Int.reduceToNat, upto, renB, setAll]
        | (refine T.nil ?_; (first | refine hK _ _ _ (by rfl) ?_ | refine hK _ _ _ ?_); (try simp only [keep, List.map, lk, reduceIte, Nat.reduceEqDiff, enter]); clear hK K)
        | (show WOpsT _ (⟨_, .call _ _, none⟩ :: _) _ _ _ _; first | refine T.cP [0, 2] e183 (ha) ?_)
        | (show WOpsT _ (⟨_, .ld _ _, none⟩ :: _) _ _ _ _; first | refine L.ld ?_ | refine L.ldd ?_)
        | (show WOpsT _ (⟨_, .idx _ _ _ _, none⟩ :: _) _ _ _ _; first | refine L.idx ?_ | refine L.idxs ?_)
        | (show WOpsT _ (⟨_, .bin _ _ _, none⟩ :: _) _ _ _ _; first | refine L.add ?_ | refine L.bin ?_)
        | (show AKW _ _ _ _ _ _ _; first | refine N.now ?_)
        | (show AK _ _ (.cond _ _ _) _ _ _ _; first | refine N.c1 ?_ | refine N.c2 ?_ | refine N.c3 ?_ | refine N.c4 ?_ | refine N.condD rfl (fun hcd => ?_) (fun hcd => ?_) | refine N.condB rfl (fun hcd => ?_) (fun hcd => ?_) | refine N.condU rfl ?_ ?_)
        | (show AK _ _ _ _ _ _ _; first | refine N.seq ?_ | refine N.block ?_ | refine N.skip ?_ | refine N.exit ?_ | refine N.ret ?_)
        | (show RK _ _ _ _ _ _ _; simp only [rk, rk0, reduceIte, Nat.reduceEqDiff])
        | (show WOpsT _ _ _ _ _ _; first | refine L.len ?_ | refine L.lenS ?_ | refine L.lenN ?_ | refine L.bsl ?_)
        | refine hQ _ _ _ rfl ?_
        | refine hQN _ _ _ rfl ?_)
      exact hC _ _ (i + 1 + 1) (by omega) (by omega) (Weaks.sel (by repeat (first | exact trivial | refine ⟨.rfl, ?_⟩ | refine ⟨.any, ?_⟩)) (by show [_, _, _] = [renB [0, 2] (mkA 1 (g (i + 1 + 1))), _, renB [0, 2] (mkB (g (i + 1 + 1)))]; rw [renB_mkB]; rfl))
  · obtain rfl : i = ms.length := by omega
    obtain ⟨j, hj⟩ : ∃ j, ms.length = j + 1 := ⟨ms.length - 1, by omega⟩
    rw [show mkH ms g ms.length = [mkA 2 (g ms.length), ⟨1, 1, cells ms⟩, mkB (g ms.length)] by rw [hj]; rfl]
    repeat' (first
      | refine N.regS fun K hK => ?_
      | refine N.dregS fun K hK => ?_
      | refine N.regN fun K hK => ?_
      | refine N.dregN fun K hK => ?_
      | simp only [T.mv, sm, AO.ev, put, lk, enter, reduceIte, Nat.reduceEqDiff, Nat.reduceAdd, Nat.reduceMul, Nat.reduceSub, Int.reduceNeg, Int.reduceToNat, upto, renB, setAll]
      | (refine T.nil ?_; (first | refine hK _ _ _ (by rfl) ?_ | refine hK _ _ _ ?_); (try simp only [keep, List.map, lk, reduceIte, Nat.reduceEqDiff, enter]); clear hK K)
      | (show WOpsT _ (⟨_, .ld _ _, none⟩ :: _) _ _ _ _; first | refine L.ld ?_ | refine L.ldd ?_)
      | (show WOpsT _ (⟨_, .idx _ _ _ _, none⟩ :: _) _ _ _ _; first | refine L.idx ?_ | refine L.idxs ?_)
      | (show WOpsT _ (⟨_, .bin _ _ _, none⟩ :: _) _ _ _ _; first | refine L.add ?_ | refine L.bin ?_)
      | (show AKW _ _ _ _ _ _ _; first | refine N.now ?_)
      | (show AK _ _ (.cond _ _ _) _ _ _ _; first | refine N.c1 ?_ | refine N.c2 ?_ | refine N.c3 ?_ | refine N.c4 ?_ | refine N.condD rfl (fun hcd => ?_) (fun hcd => ?_) | refine N.condB rfl (fun hcd => ?_) (fun hcd => ?_) | refine N.condU rfl ?_ ?_)
      | (show AK _ _ _ _ _ _ _; first | refine N.seq ?_ | refine N.block ?_ | refine N.skip ?_ | refine N.exit ?_ | refine N.ret ?_)
      | (show RK _ _ _ _ _ _ _; simp only [rk, rk0, reduceIte, Nat.reduceEqDiff])
      | (show WOpsT _ _ _ _ _ _; first | refine L.len ?_ | refine L.lenS ?_ | refine L.lenN ?_ | refine L.bsl ?_)
      | refine hQ _ _ _ rfl ?_
      | refine hQN _ _ _ rfl ?_)
    exact WS.gc [0, 1, 2] 0 rfl (by show [_, _, _] = [_, outB _ _ _ ⟨1, 1, cells ms⟩, outB _ _ _ (mkB _)]; rw [outB_mkB, outB_ints]; rfl) .rfl
end Go.Proofs.Ytjmmompbmjhkpaa.Calc

namespace Go.Proofs.Ytjmmompbmjhkpaa.Calc
open Go Code
set_option linter.unusedSimpArgs false
set_option linter.unusedVariables false
set_option maxRecDepth 20000
set_option maxHeartbeats 4000000
attribute [local irreducible] WOpsT AW AK RK AKW UK UC
def mA (k : Nat) : Blk := mkA 1 (number 0 (memR k))
def mB (k : Nat) : Blk := mkB (number 0 (memR k))
theorem renB_mB {ids : List Nat} {k : Nat} : renB ids (mB k) = mB k := renB_flat
theorem outB_mB {h : List Blk} {ids : List Nat} {n k : Nat} : outB h ids n (mB k) = mB k := outB_flat
theorem num_succ {k : Nat} {c : List Row} (hc : stdL[k]? = some c) : number 0 (memR k) ++ number (number 0 (memR k)).length c = number 0 (memR (k + 1)) := by
  rw [memR_succ k c hc, number_app, number_len, Nat.zero_add]
theorem num_len (k : Nat) (hk : k < 50 ∧ 1 ≤ k) : 0 < (number 0 (memR k)).length ∧ (number 0 (memR k)).length ≤ 92 := by
  rw [number_len]; exact memR_len k hk.1 hk.2
theorem loadsK (k : Nat) (hk : k < 50 ∧ 1 ≤ k) (s : ByteArray) (r : Int) (ms : List Int) (hc : stdL[k]? = some (loadsM s r ms)) (hn : ms.length ≤ 7) (hms : ∀ m ∈ ms, m = 1 ∨ Adr m) :
    FnE Try.prog 179 [.ptr 0 1 0 0, .c (.string s), I r, .psl 2 1 0 ms.length] [mA k, mB k, ⟨1, 1, cells ms⟩] (.tup []) [mA (k + 1), mB (k + 1), ⟨1, 1, cells ms⟩] := by
  have hl := num_len k hk
  have h := loads_ok (number 0 (memR k)) s r ms hl.1 (by omega) hms
  rw [num_succ hc] at h; exact h
theorem storesK (k : Nat) (hk : k < 50 ∧ 1 ≤ k) (s : ByteArray) (r : Int) (ms : List Int) (hc : stdL[k]? = some (storesM s r ms)) (hn : ms.length ≤ 7) (hms : ∀ m ∈ ms, Adr m) :
    FnE Try.prog 180 [.ptr 0 1 0 0, .c (.string s), I r, .psl 2 1 0 ms.length] [mA k, mB k, ⟨1, 1, cells ms⟩] (.tup []) [mA (k + 1), mB (k + 1), ⟨1, 1, cells ms⟩] := by
  have hl := num_len k hk
  have h := stores_ok (number 0 (memR k)) s r ms hl.1 (by omega) hms
  rw [num_succ hc] at h; exact h
theorem joinsK (k : Nat) (hk : k < 50 ∧ 1 ≤ k) (s : ByteArray) (d r : Int) (ms : List Int) (hc : stdL[k]? = some (joinsM s d r ms)) (hn : ms.length ≤ 7) (hms : ∀ m ∈ ms, m = 1 ∨ Adr m) :
    FnE Try.prog 181 [.ptr 0 1 0 0, .c (.string s), I d, I r, .psl 2 1 0 ms.length] [mA k, mB k, ⟨1, 1, cells ms⟩] (.tup []) [mA (k + 1), mB (k + 1), ⟨1, 1, cells ms⟩] := by
  have hl := num_len k hk
  have h := joins_ok (number 0 (memR k)) s d r ms hl.1 (by omega) hms
  rw [num_succ hc] at h; exact h
theorem turnsK (k : Nat) (hk : k < 50 ∧ 1 ≤ k) (s : ByteArray) (d : Int) (ms : List Int) (hc : stdL[k]? = some (turnsM s d ms)) (hn : ms.length ≤ 7) (hms : ∀ m ∈ ms, m = 0 ∨ Adr m) :
    FnE Try.prog 182 [.ptr 0 1 0 0, .c (.string s), I d, .psl 2 1 0 ms.length] [mA k, mB k, ⟨1, 1, cells ms⟩] (.tup []) [mA (k + 1), mB (k + 1), ⟨1, 1, cells ms⟩] := by
  have hl := num_len k hk
  have h := turns_ok (number 0 (memR k)) s d ms hl.1 (by omega) hms
  rw [num_succ hc] at h; exact h
theorem addK (k : Nat) (hk : k < 50 ∧ 1 ≤ k) (s : ByteArray) (m : Int) (cy : List Cyc) (hc : stdL[k]? = some [(s, m, cy)]) :
    FnE Try.prog 183 [.ptr 0 1 0 0, .c (.string s), I m, .sl 4 (cy.map cyC)] [mA k, mB k] (.tup []) [mA (k + 1), mB (k + 1)] := by
  have hl := num_len k hk
  have h := add_ok (number 0 (memR k)) ⟨hl.1, by omega⟩ s m cy
  rw [show number 0 (memR k) ++ [insN (number 0 (memR k)) s m cy] = number 0 (memR (k + 1)) from num_succ hc] at h; exact h
def joinL : List (ByteArray × Int) := [(⟨#[97, 100, 99]⟩, 4), (⟨#[115, 98, 99]⟩, 5), (⟨#[97, 110, 100]⟩, 7), (⟨#[111, 114, 97]⟩, 8), (⟨#[101, 111, 114]⟩, 9), (⟨#[99, 109, 112]⟩, 6)]
theorem memory_ok : FnE Try.prog 145 [.ptr 0 1 0 0] [⟨1, 1, [[.c (.slice none 0 0)]]⟩] (.tup []) [mA 20, mB 20] := by
  refine N.fn Try.func145 k145 lb q145 fun Q hQ hQN => ?_
  rw [c145]
  repeat' (first
    | refine N.regS fun K hK => ?_
    | refine N.dregS fun K hK => ?_
    | refine N.regN fun K hK => ?_
    | refine N.dregN fun K hK => ?_
    | simp only [T.mv, sm, AO.ev, put, lk, enter, reduceIte, Nat.reduceEqDiff, Nat.reduceAdd, Nat.reduceMul, Nat.reduceSub, Int.reduceNeg, Int.reduceToNat, upto, renB, setAll]
    | (refine T.nil ?_; (first | refine hK _ _ _ (by rfl) ?_ | refine hK _ _ _ ?_); (try simp only [keep, List.map, lk, reduceIte, Nat.reduceEqDiff, enter]); clear hK K)
    | (show WOpsT _ (⟨_, .call _ _, none⟩ :: _) _ _ _ _; first | refine T.cP [0, 1] e179 ((loads0_ok ⟨#[108, 100, 97]⟩ 0 [1, 2, 3, 4, 5, 6, 8] (by decide) (by decide) (by unfold Adr; decide))) ?_)
    | (show WOpsT _ (⟨_, .ld _ _, none⟩ :: _) _ _ _ _; first | refine L.ld ?_ | refine L.ldd ?_ | refine L.ldn ?_ | refine L.lddn ?_)
    | (show WOpsT _ (⟨_, .idx _ _ _ _, none⟩ :: _) _ _ _ _; first | refine L.idx ?_ | refine L.idxs ?_)
    | (show WOpsT _ (⟨_, .bin _ _ _, none⟩ :: _) _ _ _ _; first | refine L.add ?_ | refine L.bin ?_)
    | (show AK _ _ (.cond _ _ _) _ _ _ _; first | refine N.c1 ?_ | refine N.c2 ?_ | refine N.c3 ?_ | refine N.c4 ?_ | refine N.condD rfl (fun hcd => ?_) (fun hcd => ?_) | refine N.condB rfl (fun hcd => ?_) (fun hcd => ?_) | refine N.condU rfl ?_ ?_)
    | (show AK _ _ _ _ _ _ _; first | refine N.seq ?_ | refine N.block ?_ | refine N.skip ?_ | refine N.exit ?_ | refine N.ret ?_)
    | (show RK _ _ _ _ _ _ _; simp only [rk, rk0, reduceIte, Nat.reduceEqDiff])
    | (show WOpsT _ _ _ _ _ _; first | refine L.fad ?_ | refine L.fadd ?_ | refine L.st ?_ | refine L.zero ?_ | refine L.build ?_ | refine L.len ?_ | refine L.lenS ?_ | refine L.lenN ?_ | refine L.bsl ?_)
    | refine hQ _ _ _ rfl ?_
    | refine hQN _ _ _ rfl ?_)
  refine N.weak (fr1 := [(0, .ptr 0 1 0 0)]) (h1 := [mA 1, mB 1]) (Weaks.gc [0, 2] 0 rfl ⟨.rfl, trivial⟩ (by show [mA 1, mB 1] = [outB _ [0, 2] 0 (renB [0, 1, 2] (mkA 2 (number 0 (memR 1)))), outB _ _ _ (renB _ (mB 1))]; rw [renB_mB, outB_mB]; rfl)) (N.now ?_)
  repeat' (first
    | refine N.regS fun K hK => ?_
    | refine N.dregS fun K hK => ?_
    | refine N.regN fun K hK => ?_
    | refine N.dregN fun K hK => ?_
    | simp only [T.mv, sm, AO.ev, put, lk, enter, reduceIte, Nat.reduceEqDiff, Nat.reduceAdd, Nat.reduceMul, Nat.reduceSub, Int.reduceNeg, Int.reduceToNat, upto, renB, setAll]
    | (refine T.nil ?_; (first | refine hK _ _ _ (by rfl) ?_ | refine hK _ _ _ ?_); (try simp only [keep, List.map, lk, reduceIte, Nat.reduceEqDiff, enter]); clear hK K)
    | (show WOpsT _ (⟨_, .call _ _, none⟩ :: _) _ _ _ _; first | refine T.cP [0, 1, 2] e179 ((loadsK 1 (by decide) ⟨#[108, 100, 120]⟩ 1 [1, 2, 4] rfl (by decide) (by unfold Adr; decide))) ?_)
    | (show WOpsT _ (⟨_, .ld _ _, none⟩ :: _) _ _ _ _; first | refine L.ld ?_ | refine L.ldd ?_ | refine L.ldn ?_ | refine L.lddn ?_)
    | (show WOpsT _ (⟨_, .idx _ _ _ _, none⟩ :: _) _ _ _ _; first | refine L.idx ?_ | refine L.idxs ?_)
    | (show WOpsT _ (⟨_, .bin _ _ _, none⟩ :: _) _ _ _ _; first | refine L.add ?_ | refine L.bin ?_)
    | (show AK _ _ (.cond _ _ _) _ _ _ _; first | refine N.c1 ?_ | refine N.c2 ?_ | refine N.c3 ?_ | refine N.c4 ?_ | refine N.condD rfl (fun hcd => ?_) (fun hcd => ?_) | refine N.condB rfl (fun hcd => ?_) (fun hcd => ?_) | refine N.condU rfl ?_ ?_)
    | (show AK _ _ _ _ _ _ _; first | refine N.seq ?_ | refine N.block ?_ | refine N.skip ?_ | refine N.exit ?_ | refine N.ret ?_)
    | (show RK _ _ _ _ _ _ _; simp only [rk, rk0, reduceIte, Nat.reduceEqDiff])
    | (show WOpsT _ _ _ _ _ _; first | refine L.fad ?_ | refine L.fadd ?_ | refine L.st ?_ | refine L.zero ?_ | refine L.build ?_ | refine L.len ?_ | refine L.lenS ?_ | refine L.lenN ?_ | refine L.bsl ?_)
    | refine hQ _ _ _ rfl ?_
    | refine hQN _ _ _ rfl ?_)
  refine N.weak (fr1 := [(0, .ptr 0 1 0 0)]) (h1 := [mA 2, mB 2]) (Weaks.gc [0, 1] 0 rfl ⟨.rfl, trivial⟩ (by show [mA 2, mB 2] = [outB _ [0, 1] 0 (renB [0, 1, 2] (mA 2)), outB _ _ _ (renB _ (mB 2))]; rw [renB_mB, outB_mB]; rfl)) (N.now ?_)
  repeat' (first
    | refine N.regS fun K hK => ?_
    | refine N.dregS fun K hK => ?_
    | refine N.regN fun K hK => ?_
    | refine N.dregN fun K hK => ?_
    | simp only [T.mv, sm, AO.ev, put, lk, enter, reduceIte, Nat.reduceEqDiff, Nat.reduceAdd, Nat.reduceMul, Nat.reduceSub, Int.reduceNeg, Int.reduceToNat, upto, renB, setAll]
    | (refine T.nil ?_; (first | refine hK _ _ _ (by rfl) ?_ | refine hK _ _ _ ?_); (try simp only [keep, List.map, lk, reduceIte, Nat.reduceEqDiff, enter]); clear hK K)
    | (show WOpsT _ (⟨_, .call _ _, none⟩ :: _) _ _ _ _; first | refine T.cP [0, 1, 2] e179 ((loadsK 2 (by decide) ⟨#[108, 100, 121]⟩ 2 [1, 2, 4] rfl (by decide) (by unfold Adr; decide))) ?_)
    | (show WOpsT _ (⟨_, .ld _ _, none⟩ :: _) _ _ _ _; first | refine L.ld ?_ | refine L.ldd ?_ | refine L.ldn ?_ | refine L.lddn ?_)
    | (show WOpsT _ (⟨_, .idx _ _ _ _, none⟩ :: _) _ _ _ _; first | refine L.idx ?_ | refine L.idxs ?_)
    | (show WOpsT _ (⟨_, .bin _ _ _, none⟩ :: _) _ _ _ _; first | refine L.add ?_ | refine L.bin ?_)
    | (show AK _ _ (.cond _ _ _) _ _ _ _; first | refine N.c1 ?_ | refine N.c2 ?_ | refine N.c3 ?_ | refine N.c4 ?_ | refine N.condD rfl (fun hcd => ?_) (fun hcd => ?_) | refine N.condB rfl (fun hcd => ?_) (fun hcd => ?_) | refine N.condU rfl ?_ ?_)
    | (show AK _ _ _ _ _ _ _; first | refine N.seq ?_ | refine N.block ?_ | refine N.skip ?_ | refine N.exit ?_ | refine N.ret ?_)
    | (show RK _ _ _ _ _ _ _; simp only [rk, rk0, reduceIte, Nat.reduceEqDiff])
    | (show WOpsT _ _ _ _ _ _; first | refine L.fad ?_ | refine L.fadd ?_ | refine L.st ?_ | refine L.zero ?_ | refine L.build ?_ | refine L.len ?_ | refine L.lenS ?_ | refine L.lenN ?_ | refine L.bsl ?_)
    | refine hQ _ _ _ rfl ?_
    | refine hQN _ _ _ rfl ?_)
  refine N.weak (fr1 := [(0, .ptr 0 1 0 0)]) (h1 := [mA 3, mB 3]) (Weaks.gc [0, 1] 0 rfl ⟨.rfl, trivial⟩ (by show [mA 3, mB 3] = [outB _ [0, 1] 0 (renB [0, 1, 2] (mA 3)), outB _ _ _ (renB _ (mB 3))]; rw [renB_mB, outB_mB]; rfl)) (N.now ?_)
  repeat' (first
    | refine N.regS fun K hK => ?_
    | refine N.dregS fun K hK => ?_
    | refine N.regN fun K hK => ?_
    | refine N.dregN fun K hK => ?_
    | simp only [T.mv, sm, AO.ev, put, lk, enter, reduceIte, Nat.reduceEqDiff, Nat.reduceAdd, Nat.reduceMul, Nat.reduceSub, Int.reduceNeg, Int.reduceToNat, upto, renB, setAll]
    | (refine T.nil ?_; (first | refine hK _ _ _ (by rfl) ?_ | refine hK _ _ _ ?_); (try simp only [keep, List.map, lk, reduceIte, Nat.reduceEqDiff, enter]); clear hK K)
    | (show WOpsT _ (⟨_, .call _ _, none⟩ :: _) _ _ _ _; first | refine T.cP [0, 1, 2] e180 ((storesK 3 (by decide) ⟨#[115, 116, 97]⟩ 0 [2, 3, 4, 5, 6, 8] rfl (by decide) (by unfold Adr; decide))) ?_)
    | (show WOpsT _ (⟨_, .ld _ _, none⟩ :: _) _ _ _ _; first | refine L.ld ?_ | refine L.ldd ?_ | refine L.ldn ?_ | refine L.lddn ?_)
    | (show WOpsT _ (⟨_, .idx _ _ _ _, none⟩ :: _) _ _ _ _; first | refine L.idx ?_ | refine L.idxs ?_)
    | (show WOpsT _ (⟨_, .bin _ _ _, none⟩ :: _) _ _ _ _; first | refine L.add ?_ | refine L.bin ?_)
    | (show AK _ _ (.cond _ _ _) _ _ _ _; first | refine N.c1 ?_ | refine N.c2 ?_ | refine N.c3 ?_ | refine N.c4 ?_ | refine N.condD rfl (fun hcd => ?_) (fun hcd => ?_) | refine N.condB rfl (fun hcd => ?_) (fun hcd => ?_) | refine N.condU rfl ?_ ?_)
    | (show AK _ _ _ _ _ _ _; first | refine N.seq ?_ | refine N.block ?_ | refine N.skip ?_ | refine N.exit ?_ | refine N.ret ?_)
    | (show RK _ _ _ _ _ _ _; simp only [rk, rk0, reduceIte, Nat.reduceEqDiff])
    | (show WOpsT _ _ _ _ _ _; first | refine L.fad ?_ | refine L.fadd ?_ | refine L.st ?_ | refine L.zero ?_ | refine L.build ?_ | refine L.len ?_ | refine L.lenS ?_ | refine L.lenN ?_ | refine L.bsl ?_)
    | refine hQ _ _ _ rfl ?_
    | refine hQN _ _ _ rfl ?_)
  refine N.weak (fr1 := [(0, .ptr 0 1 0 0)]) (h1 := [mA 4, mB 4]) (Weaks.gc [0, 1] 0 rfl ⟨.rfl, trivial⟩ (by show [mA 4, mB 4] = [outB _ [0, 1] 0 (renB [0, 1, 2] (mA 4)), outB _ _ _ (renB _ (mB 4))]; rw [renB_mB, outB_mB]; rfl)) (N.now ?_)
  repeat' (first
    | refine N.regS fun K hK => ?_
    | refine N.dregS fun K hK => ?_
    | refine N.regN fun K hK => ?_
    | refine N.dregN fun K hK => ?_
    | simp only [T.mv, sm, AO.ev, put, lk, enter, reduceIte, Nat.reduceEqDiff, Nat.reduceAdd, Nat.reduceMul, Nat.reduceSub, Int.reduceNeg, Int.reduceToNat, upto, renB, setAll]
    | (refine T.nil ?_; (first | refine hK _ _ _ (by rfl) ?_ | refine hK _ _ _ ?_); (try simp only [keep, List.map, lk, reduceIte, Nat.reduceEqDiff, enter]); clear hK K)
    | (show WOpsT _ (⟨_, .call _ _, none⟩ :: _) _ _ _ _; first | refine T.cP [0, 1, 2] e180 ((storesK 4 (by decide) ⟨#[115, 116, 120]⟩ 1 [2, 4] rfl (by decide) (by unfold Adr; decide))) ?_)
    | (show WOpsT _ (⟨_, .ld _ _, none⟩ :: _) _ _ _ _; first | refine L.ld ?_ | refine L.ldd ?_ | refine L.ldn ?_ | refine L.lddn ?_)
    | (show WOpsT _ (⟨_, .idx _ _ _ _, none⟩ :: _) _ _ _ _; first | refine L.idx ?_ | refine L.idxs ?_)
    | (show WOpsT _ (⟨_, .bin _ _ _, none⟩ :: _) _ _ _ _; first | refine L.add ?_ | refine L.bin ?_)
    | (show AK _ _ (.cond _ _ _) _ _ _ _; first | refine N.c1 ?_ | refine N.c2 ?_ | refine N.c3 ?_ | refine N.c4 ?_ | refine N.condD rfl (fun hcd => ?_) (fun hcd => ?_) | refine N.condB rfl (fun hcd => ?_) (fun hcd => ?_) | refine N.condU rfl ?_ ?_)
    | (show AK _ _ _ _ _ _ _; first | refine N.seq ?_ | refine N.block ?_ | refine N.skip ?_ | refine N.exit ?_ | refine N.ret ?_)
    | (show RK _ _ _ _ _ _ _; simp only [rk, rk0, reduceIte, Nat.reduceEqDiff])
    | (show WOpsT _ _ _ _ _ _; first | refine L.fad ?_ | refine L.fadd ?_ | refine L.st ?_ | refine L.zero ?_ | refine L.build ?_ | refine L.len ?_ | refine L.lenS ?_ | refine L.lenN ?_ | refine L.bsl ?_)
    | refine hQ _ _ _ rfl ?_
    | refine hQN _ _ _ rfl ?_)
  refine N.weak (fr1 := [(0, .ptr 0 1 0 0)]) (h1 := [mA 5, mB 5]) (Weaks.gc [0, 1] 0 rfl ⟨.rfl, trivial⟩ (by show [mA 5, mB 5] = [outB _ [0, 1] 0 (renB [0, 1, 2] (mA 5)), outB _ _ _ (renB _ (mB 5))]; rw [renB_mB, outB_mB]; rfl)) (N.now ?_)
  repeat' (first
    | refine N.regS fun K hK => ?_
    | refine N.dregS fun K hK => ?_
    | refine N.regN fun K hK => ?_
    | refine N.dregN fun K hK => ?_
    | simp only [T.mv, sm, AO.ev, put, lk, enter, reduceIte, Nat.reduceEqDiff, Nat.reduceAdd, Nat.reduceMul, Nat.reduceSub, Int.reduceNeg, Int.reduceToNat, upto, renB, setAll]
    | (refine T.nil ?_; (first | refine hK _ _ _ (by rfl) ?_ | refine hK _ _ _ ?_); (try simp only [keep, List.map, lk, reduceIte, Nat.reduceEqDiff, enter]); clear hK K)
    | (show WOpsT _ (⟨_, .call _ _, none⟩ :: _) _ _ _ _; first | refine T.cP [0, 1, 2] e180 ((storesK 5 (by decide) ⟨#[115, 116, 121]⟩ 2 [2, 4] rfl (by decide) (by unfold Adr; decide))) ?_)
    | (show WOpsT _ (⟨_, .ld _ _, none⟩ :: _) _ _ _ _; first | refine L.ld ?_ | refine L.ldd ?_ | refine L.ldn ?_ | refine L.lddn ?_)
    | (show WOpsT _ (⟨_, .idx _ _ _ _, none⟩ :: _) _ _ _ _; first | refine L.idx ?_ | refine L.idxs ?_)
    | (show WOpsT _ (⟨_, .bin _ _ _, none⟩ :: _) _ _ _ _; first | refine L.add ?_ | refine L.bin ?_)
    | (show AK _ _ (.cond _ _ _) _ _ _ _; first | refine N.c1 ?_ | refine N.c2 ?_ | refine N.c3 ?_ | refine N.c4 ?_ | refine N.condD rfl (fun hcd => ?_) (fun hcd => ?_) | refine N.condB rfl (fun hcd => ?_) (fun hcd => ?_) | refine N.condU rfl ?_ ?_)
    | (show AK _ _ _ _ _ _ _; first | refine N.seq ?_ | refine N.block ?_ | refine N.skip ?_ | refine N.exit ?_ | refine N.ret ?_)
    | (show RK _ _ _ _ _ _ _; simp only [rk, rk0, reduceIte, Nat.reduceEqDiff])
    | (show WOpsT _ _ _ _ _ _; first | refine L.fad ?_ | refine L.fadd ?_ | refine L.st ?_ | refine L.zero ?_ | refine L.build ?_ | refine L.len ?_ | refine L.lenS ?_ | refine L.lenN ?_ | refine L.bsl ?_)
    | refine hQ _ _ _ rfl ?_
    | refine hQN _ _ _ rfl ?_)
  refine N.weak (fr1 := [(0, .ptr 0 1 0 0)]) (h1 := [mA 6, mB 6]) (Weaks.gc [0, 1] 0 rfl ⟨.rfl, trivial⟩ (by show [mA 6, mB 6] = [outB _ [0, 1] 0 (renB [0, 1, 2] (mA 6)), outB _ _ _ (renB _ (mB 6))]; rw [renB_mB, outB_mB]; rfl)) (N.now ?_)
  repeat' (first
    | refine N.regS fun K hK => ?_
    | refine N.dregS fun K hK => ?_
    | refine N.regN fun K hK => ?_
    | refine N.dregN fun K hK => ?_
    | simp only [T.mv, sm, AO.ev, put, lk, enter, reduceIte, Nat.reduceEqDiff, Nat.reduceAdd, Nat.reduceMul, Nat.reduceSub, Int.reduceNeg, Int.reduceToNat, upto, renB, setAll]
    | (refine T.nil ?_; (first | refine hK _ _ _ (by rfl) ?_ | refine hK _ _ _ ?_); (try simp only [keep, List.map, lk, reduceIte, Nat.reduceEqDiff, enter]); clear hK K)
    | (show WOpsT _ (⟨_, .ld _ _, none⟩ :: _) _ _ _ _; first | refine L.ld ?_ | refine L.ldd ?_ | refine L.ldn ?_ | refine L.lddn ?_)
    | (show WOpsT _ (⟨_, .idx _ _ _ _, none⟩ :: _) _ _ _ _; first | refine L.idx ?_ | refine L.idxs ?_)
    | (show WOpsT _ (⟨_, .bin _ _ _, none⟩ :: _) _ _ _ _; first | refine L.add ?_ | refine L.bin ?_)
    | (show AK _ _ (.cond _ _ _) _ _ _ _; first | refine N.c1 ?_ | refine N.c2 ?_ | refine N.c3 ?_ | refine N.c4 ?_ | refine N.condD rfl (fun hcd => ?_) (fun hcd => ?_) | refine N.condB rfl (fun hcd => ?_) (fun hcd => ?_) | refine N.condU rfl ?_ ?_)
    | (show AK _ _ _ _ _ _ _; first | refine N.seq ?_ | refine N.block ?_ | refine N.skip ?_ | refine N.exit ?_ | refine N.ret ?_)
    | (show RK _ _ _ _ _ _ _; simp only [rk, rk0, reduceIte, Nat.reduceEqDiff])
    | (show WOpsT _ _ _ _ _ _; first | refine L.fad ?_ | refine L.fadd ?_ | refine L.st ?_ | refine L.zero ?_ | refine L.build ?_ | refine L.len ?_ | refine L.lenS ?_ | refine L.lenN ?_ | refine L.bsl ?_)
    | refine hQ _ _ _ rfl ?_
    | refine hQN _ _ _ rfl ?_)
  refine N.weak (fr1 := [(0, .ptr 0 1 0 0), (28, .psl 2 1 0 6), (29, I 6), (30, I 0)]) (h1 := [mA 6, mB 6, ⟨1, 2, joinL.map fun p => [.c (.string p.1), I p.2]⟩]) (Weaks.sel (by repeat (first | exact trivial | refine ⟨.rfl, ?_⟩ | refine ⟨.any, ?_⟩)) rfl) (N.now ?_)
  repeat' (first
    | refine N.regS fun K hK => ?_
    | refine N.dregS fun K hK => ?_
    | refine N.regN fun K hK => ?_
    | refine N.dregN fun K hK => ?_
    | simp only [T.mv, sm, AO.ev, put, lk, enter, reduceIte, Nat.reduceEqDiff, Nat.reduceAdd, Nat.reduceMul, Nat.reduceSub, Int.reduceNeg, Int.reduceToNat, upto, renB, setAll]
    | (refine T.nil ?_; (first | refine hK _ _ _ (by rfl) ?_ | refine hK _ _ _ ?_); (try simp only [keep, List.map, lk, reduceIte, Nat.reduceEqDiff, enter]); clear hK K)
    | (show WOpsT _ (⟨_, .ld _ _, none⟩ :: _) _ _ _ _; first | refine L.ld ?_ | refine L.ldd ?_ | refine L.ldn ?_ | refine L.lddn ?_)
    | (show WOpsT _ (⟨_, .idx _ _ _ _, none⟩ :: _) _ _ _ _; first | refine L.idx ?_ | refine L.idxs ?_)
    | (show WOpsT _ (⟨_, .bin _ _ _, none⟩ :: _) _ _ _ _; first | refine L.add ?_ | refine L.bin ?_)
    | (show AK _ _ (.cond _ _ _) _ _ _ _; first | refine N.c1 ?_ | refine N.c2 ?_ | refine N.c3 ?_ | refine N.c4 ?_ | refine N.condD rfl (fun hcd => ?_) (fun hcd => ?_) | refine N.condB rfl (fun hcd => ?_) (fun hcd => ?_) | refine N.condU rfl ?_ ?_)
    | (show AK _ _ _ _ _ _ _; first | refine N.seq ?_ | refine N.block ?_ | refine N.skip ?_ | refine N.exit ?_ | refine N.ret ?_)
    | (show RK _ _ _ _ _ _ _; simp only [rk, rk0, reduceIte, Nat.reduceEqDiff])
    | (show WOpsT _ _ _ _ _ _; first | refine L.fad ?_ | refine L.fadd ?_ | refine L.st ?_ | refine L.zero ?_ | refine L.build ?_ | refine L.len ?_ | refine L.lenS ?_ | refine L.lenN ?_ | refine L.bsl ?_)
    | refine hQ _ _ _ rfl ?_
    | refine hQN _ _ _ rfl ?_)
  refine N.loop (σ := Nat) (fun i => [(0, .ptr 0 1 0 0), (28, .psl 2 1 0 6), (29, I 6), (30, I i)]) (fun i => [mA (6 + i), mB (6 + i), ⟨1, 2, joinL.map fun p => [.c (.string p.1), I p.2]⟩]) (fun i => i ≤ 6) (fun i => 6 - i) 0 (by omega) (Weaks.sel (by repeat (first | exact trivial | refine ⟨.rfl, ?_⟩ | refine ⟨.any, ?_⟩)) rfl) fun i hi R hC => ?_
  by_cases hil : i < 6
  · have e3 : 0 + (i : Int).toNat = i := by omega
    obtain ⟨p, hp⟩ : ∃ p, joinL[i]? = some p := ⟨joinL[i]'hil, List.getElem?_eq_getElem hil⟩
    have hrow : (joinL.map fun p => [.c (.string p.1), I p.2])[i]? = some [V.c (.string p.1), I p.2] := by rw [List.getElem?_map, hp]; rfl
    have hst : stdL[6 + i]? = some (joinsM p.1 p.2 0 [1, 2, 4, 5]) := by
      have : ∀ j, j < 6 → ∀ q, joinL[j]? = some q → stdL[6 + j]? = some (joinsM q.1 q.2 0 [1, 2, 4, 5]) := by
        intro j hj q hq
        match j, hj with
        | 0, _ => cases hq; rfl
        | 1, _ => cases hq; rfl
        | 2, _ => cases hq; rfl
        | 3, _ => cases hq; rfl
        | 4, _ => cases hq; rfl
        | 5, _ => cases hq; rfl
      exact this i hil p hp
    have hj := joinsK (6 + i) (by omega) p.1 p.2 0 [1, 2, 4, 5] hst (by decide) (by unfold Adr; decide)
    repeat' (first
      | rw [e3]
      | (show WOpsT _ (⟨_, .ld _ _, none⟩ :: _) _ _ _ _; refine T.ldn rfl rfl rfl hrow (Nat.le_of_ble_eq_true rfl) ?_)
      | simp only [renB_mB]
      | refine N.regS fun K hK => ?_
      | refine N.dregS fun K hK => ?_
      | refine N.regN fun K hK => ?_
      | refine N.dregN fun K hK => ?_
      | simp only [T.mv, sm, AO.ev, put, lk, enter, reduceIte, Nat.reduceEqDiff, Nat.reduceAdd, Nat.reduceMul, Nat.reduceSub, Int.reduceNeg, Int.reduceToNat, upto, renB, setAll]
      | (refine T.nil ?_; (first | refine hK _ _ _ (by rfl) ?_ | refine hK _ _ _ ?_); (try simp only [keep, List.map, lk, reduceIte, Nat.reduceEqDiff, enter]); clear hK K)
      | (show WOpsT _ (⟨_, .call _ _, none⟩ :: _) _ _ _ _; first | refine T.cP [0, 1, 4] e181 (hj) ?_)
      | (show WOpsT _ (⟨_, .ld _ _, none⟩ :: _) _ _ _ _; first | refine L.ld ?_ | refine L.ldd ?_ | refine L.ldn ?_ | refine L.lddn ?_)
      | (show WOpsT _ (⟨_, .idx _ _ _ _, none⟩ :: _) _ _ _ _; first | refine L.idx ?_ | refine L.idxs ?_)
      | (show WOpsT _ (⟨_, .bin _ _ _, none⟩ :: _) _ _ _ _; first | refine L.add ?_ | refine L.bin ?_)
      | (show AKW _ _ _ _ _ _ _; first | refine N.now ?_)
      | (show AK _ _ (.cond _ _ _) _ _ _ _; first | refine N.c1 ?_ | refine N.c2 ?_ | refine N.c3 ?_ | refine N.c4 ?_ | refine N.condD rfl (fun hcd => ?_) (fun hcd => ?_) | refine N.condB rfl (fun hcd => ?_) (fun hcd => ?_) | refine N.condU rfl ?_ ?_)
      | (show AK _ _ _ _ _ _ _; first | refine N.seq ?_ | refine N.block ?_ | refine N.skip ?_ | refine N.exit ?_ | refine N.ret ?_)
      | (show RK _ _ _ _ _ _ _; simp only [rk, rk0, reduceIte, Nat.reduceEqDiff])
      | (show WOpsT _ _ _ _ _ _; first | refine L.fad ?_ | refine L.fadd ?_ | refine L.st ?_ | refine L.zero ?_ | refine L.build ?_ | refine L.len ?_ | refine L.lenS ?_ | refine L.lenN ?_ | refine L.bsl ?_)
      | refine hQ _ _ _ rfl ?_
      | refine hQN _ _ _ rfl ?_)
    exact hC _ _ (i + 1) (by omega) (by omega) (Weaks.gc [0, 1, 2] 0 rfl (by repeat (first | exact trivial | refine ⟨.rfl, ?_⟩ | refine ⟨.any, ?_⟩)) (by show [mA (6 + i + 1), mB (6 + i + 1), _] = [outB _ [0, 1, 2] 0 (renB [0, 1, 4] (mA (6 + i + 1))), outB _ _ _ (renB _ (mB (6 + i + 1))), outB _ _ _ ⟨1, 2, joinL.map fun p => [.c (.string p.1), I p.2]⟩]; rw [renB_mB, outB_mB]; rfl))
  · obtain rfl : i = 6 := by omega
    repeat' (first
      | (show AKW _ _ (.seq (.cond _ _ _) _) _ _ _ _; refine N.now ?_)
      | refine N.regS fun K hK => ?_
      | refine N.dregS fun K hK => ?_
      | refine N.regN fun K hK => ?_
      | refine N.dregN fun K hK => ?_
      | simp only [T.mv, sm, AO.ev, put, lk, enter, reduceIte, Nat.reduceEqDiff, Nat.reduceAdd, Nat.reduceMul, Nat.reduceSub, Int.reduceNeg, Int.reduceToNat, upto, renB, setAll]
      | (refine T.nil ?_; (first | refine hK _ _ _ (by rfl) ?_ | refine hK _ _ _ ?_); (try simp only [keep, List.map, lk, reduceIte, Nat.reduceEqDiff, enter]); clear hK K)
      | (show WOpsT _ (⟨_, .ld _ _, none⟩ :: _) _ _ _ _; first | refine L.ld ?_ | refine L.ldd ?_ | refine L.ldn ?_ | refine L.lddn ?_)
      | (show WOpsT _ (⟨_, .idx _ _ _ _, none⟩ :: _) _ _ _ _; first | refine L.idx ?_ | refine L.idxs ?_)
      | (show WOpsT _ (⟨_, .bin _ _ _, none⟩ :: _) _ _ _ _; first | refine L.add ?_ | refine L.bin ?_)
      | (show AK _ _ (.cond _ _ _) _ _ _ _; first | refine N.c1 ?_ | refine N.c2 ?_ | refine N.c3 ?_ | refine N.c4 ?_ | refine N.condD rfl (fun hcd => ?_) (fun hcd => ?_) | refine N.condB rfl (fun hcd => ?_) (fun hcd => ?_) | refine N.condU rfl ?_ ?_)
      | (show AK _ _ _ _ _ _ _; first | refine N.seq ?_ | refine N.block ?_ | refine N.skip ?_ | refine N.exit ?_ | refine N.ret ?_)
      | (show RK _ _ _ _ _ _ _; simp only [rk, rk0, reduceIte, Nat.reduceEqDiff])
      | (show WOpsT _ _ _ _ _ _; first | refine L.fad ?_ | refine L.fadd ?_ | refine L.st ?_ | refine L.zero ?_ | refine L.build ?_ | refine L.len ?_ | refine L.lenS ?_ | refine L.lenN ?_ | refine L.bsl ?_)
      | refine hQ _ _ _ rfl ?_
      | refine hQN _ _ _ rfl ?_)
    refine N.weak (fr1 := [(0, .ptr 0 1 0 0)]) (h1 := [mA 12, mB 12]) (Weaks.gc [0, 1] 0 rfl ⟨.rfl, trivial⟩ (by show [mA 12, mB 12] = [outB _ [0, 1] 0 (mA 12), outB _ _ _ (mB 12)]; rw [outB_mB]; rfl)) (N.now ?_)
    repeat' (first
      | refine N.regS fun K hK => ?_
      | refine N.dregS fun K hK => ?_
      | refine N.regN fun K hK => ?_
      | refine N.dregN fun K hK => ?_
      | simp only [T.mv, sm, AO.ev, put, lk, enter, reduceIte, Nat.reduceEqDiff, Nat.reduceAdd, Nat.reduceMul, Nat.reduceSub, Int.reduceNeg, Int.reduceToNat, upto, renB, setAll]
      | (refine T.nil ?_; (first | refine hK _ _ _ (by rfl) ?_ | refine hK _ _ _ ?_); (try simp only [keep, List.map, lk, reduceIte, Nat.reduceEqDiff, enter]); clear hK K)
      | (show WOpsT _ (⟨_, .call _ _, none⟩ :: _) _ _ _ _; first | refine T.cP [0, 1, 2] e181 ((joinsK 12 (by decide) ⟨#[99, 112, 120]⟩ 6 1 [1, 2] rfl (by decide) (by unfold Adr; decide))) ?_)
      | (show WOpsT _ (⟨_, .ld _ _, none⟩ :: _) _ _ _ _; first | refine L.ld ?_ | refine L.ldd ?_ | refine L.ldn ?_ | refine L.lddn ?_)
      | (show WOpsT _ (⟨_, .idx _ _ _ _, none⟩ :: _) _ _ _ _; first | refine L.idx ?_ | refine L.idxs ?_)
      | (show WOpsT _ (⟨_, .bin _ _ _, none⟩ :: _) _ _ _ _; first | refine L.add ?_ | refine L.bin ?_)
      | (show AK _ _ (.cond _ _ _) _ _ _ _; first | refine N.c1 ?_ | refine N.c2 ?_ | refine N.c3 ?_ | refine N.c4 ?_ | refine N.condD rfl (fun hcd => ?_) (fun hcd => ?_) | refine N.condB rfl (fun hcd => ?_) (fun hcd => ?_) | refine N.condU rfl ?_ ?_)
      | (show AK _ _ _ _ _ _ _; first | refine N.seq ?_ | refine N.block ?_ | refine N.skip ?_ | refine N.exit ?_ | refine N.ret ?_)
      | (show RK _ _ _ _ _ _ _; simp only [rk, rk0, reduceIte, Nat.reduceEqDiff])
      | (show WOpsT _ _ _ _ _ _; first | refine L.fad ?_ | refine L.fadd ?_ | refine L.st ?_ | refine L.zero ?_ | refine L.build ?_ | refine L.len ?_ | refine L.lenS ?_ | refine L.lenN ?_ | refine L.bsl ?_)
      | refine hQ _ _ _ rfl ?_
      | refine hQN _ _ _ rfl ?_)
    refine N.weak (fr1 := [(0, .ptr 0 1 0 0)]) (h1 := [mA 13, mB 13]) (Weaks.gc [0, 1] 0 rfl ⟨.rfl, trivial⟩ (by show [mA 13, mB 13] = [outB _ [0, 1] 0 (renB [0, 1, 2] (mA 13)), outB _ _ _ (renB _ (mB 13))]; rw [renB_mB, outB_mB]; rfl)) (N.now ?_)
    repeat' (first
      | refine N.regS fun K hK => ?_
      | refine N.dregS fun K hK => ?_
      | refine N.regN fun K hK => ?_
      | refine N.dregN fun K hK => ?_
      | simp only [T.mv, sm, AO.ev, put, lk, enter, reduceIte, Nat.reduceEqDiff, Nat.reduceAdd, Nat.reduceMul, Nat.reduceSub, Int.reduceNeg, Int.reduceToNat, upto, renB, setAll]
      | (refine T.nil ?_; (first | refine hK _ _ _ (by rfl) ?_ | refine hK _ _ _ ?_); (try simp only [keep, List.map, lk, reduceIte, Nat.reduceEqDiff, enter]); clear hK K)
      | (show WOpsT _ (⟨_, .call _ _, none⟩ :: _) _ _ _ _; first | refine T.cP [0, 1, 2] e181 ((joinsK 13 (by decide) ⟨#[99, 112, 121]⟩ 6 2 [1, 2] rfl (by decide) (by unfold Adr; decide))) ?_)
      | (show WOpsT _ (⟨_, .ld _ _, none⟩ :: _) _ _ _ _; first | refine L.ld ?_ | refine L.ldd ?_ | refine L.ldn ?_ | refine L.lddn ?_)
      | (show WOpsT _ (⟨_, .idx _ _ _ _, none⟩ :: _) _ _ _ _; first | refine L.idx ?_ | refine L.idxs ?_)
      | (show WOpsT _ (⟨_, .bin _ _ _, none⟩ :: _) _ _ _ _; first | refine L.add ?_ | refine L.bin ?_)
      | (show AK _ _ (.cond _ _ _) _ _ _ _; first | refine N.c1 ?_ | refine N.c2 ?_ | refine N.c3 ?_ | refine N.c4 ?_ | refine N.condD rfl (fun hcd => ?_) (fun hcd => ?_) | refine N.condB rfl (fun hcd => ?_) (fun hcd => ?_) | refine N.condU rfl ?_ ?_)
      | (show AK _ _ _ _ _ _ _; first | refine N.seq ?_ | refine N.block ?_ | refine N.skip ?_ | refine N.exit ?_ | refine N.ret ?_)
      | (show RK _ _ _ _ _ _ _; simp only [rk, rk0, reduceIte, Nat.reduceEqDiff])
      | (show WOpsT _ _ _ _ _ _; first | refine L.fad ?_ | refine L.fadd ?_ | refine L.st ?_ | refine L.zero ?_ | refine L.build ?_ | refine L.len ?_ | refine L.lenS ?_ | refine L.lenN ?_ | refine L.bsl ?_)
      | refine hQ _ _ _ rfl ?_
      | refine hQN _ _ _ rfl ?_)
    refine N.weak (fr1 := [(0, .ptr 0 1 0 0)]) (h1 := [mA 14, mB 14]) (Weaks.gc [0, 1] 0 rfl ⟨.rfl, trivial⟩ (by show [mA 14, mB 14] = [outB _ [0, 1] 0 (renB [0, 1, 2] (mA 14)), outB _ _ _ (renB _ (mB 14))]; rw [renB_mB, outB_mB]; rfl)) (N.now ?_)
    repeat' (first
      | refine N.regS fun K hK => ?_
      | refine N.dregS fun K hK => ?_
      | refine N.regN fun K hK => ?_
      | refine N.dregN fun K hK => ?_
      | simp only [T.mv, sm, AO.ev, put, lk, enter, reduceIte, Nat.reduceEqDiff, Nat.reduceAdd, Nat.reduceMul, Nat.reduceSub, Int.reduceNeg, Int.reduceToNat, upto, renB, setAll]
      | (refine T.nil ?_; (first | refine hK _ _ _ (by rfl) ?_ | refine hK _ _ _ ?_); (try simp only [keep, List.map, lk, reduceIte, Nat.reduceEqDiff, enter]); clear hK K)
      | (show WOpsT _ (⟨_, .call _ _, none⟩ :: _) _ _ _ _; first | refine T.cP [0, 1, 2] e182 ((turnsK 14 (by decide) ⟨#[105, 110, 99]⟩ 10 [2, 4] rfl (by decide) (by unfold Adr; decide))) ?_)
      | (show WOpsT _ (⟨_, .ld _ _, none⟩ :: _) _ _ _ _; first | refine L.ld ?_ | refine L.ldd ?_ | refine L.ldn ?_ | refine L.lddn ?_)
      | (show WOpsT _ (⟨_, .idx _ _ _ _, none⟩ :: _) _ _ _ _; first | refine L.idx ?_ | refine L.idxs ?_)
      | (show WOpsT _ (⟨_, .bin _ _ _, none⟩ :: _) _ _ _ _; first | refine L.add ?_ | refine L.bin ?_)
      | (show AK _ _ (.cond _ _ _) _ _ _ _; first | refine N.c1 ?_ | refine N.c2 ?_ | refine N.c3 ?_ | refine N.c4 ?_ | refine N.condD rfl (fun hcd => ?_) (fun hcd => ?_) | refine N.condB rfl (fun hcd => ?_) (fun hcd => ?_) | refine N.condU rfl ?_ ?_)
      | (show AK _ _ _ _ _ _ _; first | refine N.seq ?_ | refine N.block ?_ | refine N.skip ?_ | refine N.exit ?_ | refine N.ret ?_)
      | (show RK _ _ _ _ _ _ _; simp only [rk, rk0, reduceIte, Nat.reduceEqDiff])
      | (show WOpsT _ _ _ _ _ _; first | refine L.fad ?_ | refine L.fadd ?_ | refine L.st ?_ | refine L.zero ?_ | refine L.build ?_ | refine L.len ?_ | refine L.lenS ?_ | refine L.lenN ?_ | refine L.bsl ?_)
      | refine hQ _ _ _ rfl ?_
      | refine hQN _ _ _ rfl ?_)
    refine N.weak (fr1 := [(0, .ptr 0 1 0 0)]) (h1 := [mA 15, mB 15]) (Weaks.gc [0, 1] 0 rfl ⟨.rfl, trivial⟩ (by show [mA 15, mB 15] = [outB _ [0, 1] 0 (renB [0, 1, 2] (mA 15)), outB _ _ _ (renB _ (mB 15))]; rw [renB_mB, outB_mB]; rfl)) (N.now ?_)
    repeat' (first
      | refine N.regS fun K hK => ?_
      | refine N.dregS fun K hK => ?_
      | refine N.regN fun K hK => ?_
      | refine N.dregN fun K hK => ?_
      | simp only [T.mv, sm, AO.ev, put, lk, enter, reduceIte, Nat.reduceEqDiff, Nat.reduceAdd, Nat.reduceMul, Nat.reduceSub, Int.reduceNeg, Int.reduceToNat, upto, renB, setAll]
      | (refine T.nil ?_; (first | refine hK _ _ _ (by rfl) ?_ | refine hK _ _ _ ?_); (try simp only [keep, List.map, lk, reduceIte, Nat.reduceEqDiff, enter]); clear hK K)
      | (show WOpsT _ (⟨_, .call _ _, none⟩ :: _) _ _ _ _; first | refine T.cP [0, 1, 2] e182 ((turnsK 15 (by decide) ⟨#[100, 101, 99]⟩ 11 [2, 4] rfl (by decide) (by unfold Adr; decide))) ?_)
      | (show WOpsT _ (⟨_, .ld _ _, none⟩ :: _) _ _ _ _; first | refine L.ld ?_ | refine L.ldd ?_ | refine L.ldn ?_ | refine L.lddn ?_)
      | (show WOpsT _ (⟨_, .idx _ _ _ _, none⟩ :: _) _ _ _ _; first | refine L.idx ?_ | refine L.idxs ?_)
      | (show WOpsT _ (⟨_, .bin _ _ _, none⟩ :: _) _ _ _ _; first | refine L.add ?_ | refine L.bin ?_)
      | (show AK _ _ (.cond _ _ _) _ _ _ _; first | refine N.c1 ?_ | refine N.c2 ?_ | refine N.c3 ?_ | refine N.c4 ?_ | refine N.condD rfl (fun hcd => ?_) (fun hcd => ?_) | refine N.condB rfl (fun hcd => ?_) (fun hcd => ?_) | refine N.condU rfl ?_ ?_)
      | (show AK _ _ _ _ _ _ _; first | refine N.seq ?_ | refine N.block ?_ | refine N.skip ?_ | refine N.exit ?_ | refine N.ret ?_)
      | (show RK _ _ _ _ _ _ _; simp only [rk, rk0, reduceIte, Nat.reduceEqDiff])
      | (show WOpsT _ _ _ _ _ _; first | refine L.fad ?_ | refine L.fadd ?_ | refine L.st ?_ | refine L.zero ?_ | refine L.build ?_ | refine L.len ?_ | refine L.lenS ?_ | refine L.lenN ?_ | refine L.bsl ?_)
      | refine hQ _ _ _ rfl ?_
      | refine hQN _ _ _ rfl ?_)
    refine N.weak (fr1 := [(0, .ptr 0 1 0 0)]) (h1 := [mA 16, mB 16]) (Weaks.gc [0, 1] 0 rfl ⟨.rfl, trivial⟩ (by show [mA 16, mB 16] = [outB _ [0, 1] 0 (renB [0, 1, 2] (mA 16)), outB _ _ _ (renB _ (mB 16))]; rw [renB_mB, outB_mB]; rfl)) (N.now ?_)
    repeat' (first
      | refine N.regS fun K hK => ?_
      | refine N.dregS fun K hK => ?_
      | refine N.regN fun K hK => ?_
      | refine N.dregN fun K hK => ?_
      | simp only [T.mv, sm, AO.ev, put, lk, enter, reduceIte, Nat.reduceEqDiff, Nat.reduceAdd, Nat.reduceMul, Nat.reduceSub, Int.reduceNeg, Int.reduceToNat, upto, renB, setAll]
      | (refine T.nil ?_; (first | refine hK _ _ _ (by rfl) ?_ | refine hK _ _ _ ?_); (try simp only [keep, List.map, lk, reduceIte, Nat.reduceEqDiff, enter]); clear hK K)
      | (show WOpsT _ (⟨_, .call _ _, none⟩ :: _) _ _ _ _; first | refine T.cP [0, 1, 2] e182 ((turnsK 16 (by decide) ⟨#[97, 115, 108]⟩ 12 [0, 2] rfl (by decide) (by unfold Adr; decide))) ?_)
      | (show WOpsT _ (⟨_, .ld _ _, none⟩ :: _) _ _ _ _; first | refine L.ld ?_ | refine L.ldd ?_ | refine L.ldn ?_ | refine L.lddn ?_)
      | (show WOpsT _ (⟨_, .idx _ _ _ _, none⟩ :: _) _ _ _ _; first | refine L.idx ?_ | refine L.idxs ?_)
      | (show WOpsT _ (⟨_, .bin _ _ _, none⟩ :: _) _ _ _ _; first | refine L.add ?_ | refine L.bin ?_)
      | (show AK _ _ (.cond _ _ _) _ _ _ _; first | refine N.c1 ?_ | refine N.c2 ?_ | refine N.c3 ?_ | refine N.c4 ?_ | refine N.condD rfl (fun hcd => ?_) (fun hcd => ?_) | refine N.condB rfl (fun hcd => ?_) (fun hcd => ?_) | refine N.condU rfl ?_ ?_)
      | (show AK _ _ _ _ _ _ _; first | refine N.seq ?_ | refine N.block ?_ | refine N.skip ?_ | refine N.exit ?_ | refine N.ret ?_)
      | (show RK _ _ _ _ _ _ _; simp only [rk, rk0, reduceIte, Nat.reduceEqDiff])
      | (show WOpsT _ _ _ _ _ _; first | refine L.fad ?_ | refine L.fadd ?_ | refine L.st ?_ | refine L.zero ?_ | refine L.build ?_ | refine L.len ?_ | refine L.lenS ?_ | refine L.lenN ?_ | refine L.bsl ?_)
      | refine hQ _ _ _ rfl ?_
      | refine hQN _ _ _ rfl ?_)
    refine N.weak (fr1 := [(0, .ptr 0 1 0 0)]) (h1 := [mA 17, mB 17]) (Weaks.gc [0, 1] 0 rfl ⟨.rfl, trivial⟩ (by show [mA 17, mB 17] = [outB _ [0, 1] 0 (renB [0, 1, 2] (mA 17)), outB _ _ _ (renB _ (mB 17))]; rw [renB_mB, outB_mB]; rfl)) (N.now ?_)
    repeat' (first
      | refine N.regS fun K hK => ?_
      | refine N.dregS fun K hK => ?_
      | refine N.regN fun K hK => ?_
      | refine N.dregN fun K hK => ?_
      | simp only [T.mv, sm, AO.ev, put, lk, enter, reduceIte, Nat.reduceEqDiff, Nat.reduceAdd, Nat.reduceMul, Nat.reduceSub, Int.reduceNeg, Int.reduceToNat, upto, renB, setAll]
      | (refine T.nil ?_; (first | refine hK _ _ _ (by rfl) ?_ | refine hK _ _ _ ?_); (try simp only [keep, List.map, lk, reduceIte, Nat.reduceEqDiff, enter]); clear hK K)
      | (show WOpsT _ (⟨_, .call _ _, none⟩ :: _) _ _ _ _; first | refine T.cP [0, 1, 2] e182 ((turnsK 17 (by decide) ⟨#[108, 115, 114]⟩ 13 [0, 2] rfl (by decide) (by unfold Adr; decide))) ?_)
      | (show WOpsT _ (⟨_, .ld _ _, none⟩ :: _) _ _ _ _; first | refine L.ld ?_ | refine L.ldd ?_ | refine L.ldn ?_ | refine L.lddn ?_)
      | (show WOpsT _ (⟨_, .idx _ _ _ _, none⟩ :: _) _ _ _ _; first | refine L.idx ?_ | refine L.idxs ?_)
      | (show WOpsT _ (⟨_, .bin _ _ _, none⟩ :: _) _ _ _ _; first | refine L.add ?_ | refine L.bin ?_)
      | (show AK _ _ (.cond _ _ _) _ _ _ _; first | refine N.c1 ?_ | refine N.c2 ?_ | refine N.c3 ?_ | refine N.c4 ?_ | refine N.condD rfl (fun hcd => ?_) (fun hcd => ?_) | refine N.condB rfl (fun hcd => ?_) (fun hcd => ?_) | refine N.condU rfl ?_ ?_)
      | (show AK _ _ _ _ _ _ _; first | refine N.seq ?_ | refine N.block ?_ | refine N.skip ?_ | refine N.exit ?_ | refine N.ret ?_)
      | (show RK _ _ _ _ _ _ _; simp only [rk, rk0, reduceIte, Nat.reduceEqDiff])
      | (show WOpsT _ _ _ _ _ _; first | refine L.fad ?_ | refine L.fadd ?_ | refine L.st ?_ | refine L.zero ?_ | refine L.build ?_ | refine L.len ?_ | refine L.lenS ?_ | refine L.lenN ?_ | refine L.bsl ?_)
      | refine hQ _ _ _ rfl ?_
      | refine hQN _ _ _ rfl ?_)
    refine N.weak (fr1 := [(0, .ptr 0 1 0 0)]) (h1 := [mA 18, mB 18]) (Weaks.gc [0, 1] 0 rfl ⟨.rfl, trivial⟩ (by show [mA 18, mB 18] = [outB _ [0, 1] 0 (renB [0, 1, 2] (mA 18)), outB _ _ _ (renB _ (mB 18))]; rw [renB_mB, outB_mB]; rfl)) (N.now ?_)
    repeat' (first
      | refine N.regS fun K hK => ?_
      | refine N.dregS fun K hK => ?_
      | refine N.regN fun K hK => ?_
      | refine N.dregN fun K hK => ?_
      | simp only [T.mv, sm, AO.ev, put, lk, enter, reduceIte, Nat.reduceEqDiff, Nat.reduceAdd, Nat.reduceMul, Nat.reduceSub, Int.reduceNeg, Int.reduceToNat, upto, renB, setAll]
      | (refine T.nil ?_; (first | refine hK _ _ _ (by rfl) ?_ | refine hK _ _ _ ?_); (try simp only [keep, List.map, lk, reduceIte, Nat.reduceEqDiff, enter]); clear hK K)
      | (show WOpsT _ (⟨_, .call _ _, none⟩ :: _) _ _ _ _; first | refine T.cP [0, 1, 2] e182 ((turnsK 18 (by decide) ⟨#[114, 111, 108]⟩ 14 [0, 2] rfl (by decide) (by unfold Adr; decide))) ?_)
      | (show WOpsT _ (⟨_, .ld _ _, none⟩ :: _) _ _ _ _; first | refine L.ld ?_ | refine L.ldd ?_ | refine L.ldn ?_ | refine L.lddn ?_)
      | (show WOpsT _ (⟨_, .idx _ _ _ _, none⟩ :: _) _ _ _ _; first | refine L.idx ?_ | refine L.idxs ?_)
      | (show WOpsT _ (⟨_, .bin _ _ _, none⟩ :: _) _ _ _ _; first | refine L.add ?_ | refine L.bin ?_)
      | (show AK _ _ (.cond _ _ _) _ _ _ _; first | refine N.c1 ?_ | refine N.c2 ?_ | refine N.c3 ?_ | refine N.c4 ?_ | refine N.condD rfl (fun hcd => ?_) (fun hcd => ?_) | refine N.condB rfl (fun hcd => ?_) (fun hcd => ?_) | refine N.condU rfl ?_ ?_)
      | (show AK _ _ _ _ _ _ _; first | refine N.seq ?_ | refine N.block ?_ | refine N.skip ?_ | refine N.exit ?_ | refine N.ret ?_)
      | (show RK _ _ _ _ _ _ _; simp only [rk, rk0, reduceIte, Nat.reduceEqDiff])
      | (show WOpsT _ _ _ _ _ _; first | refine L.fad ?_ | refine L.fadd ?_ | refine L.st ?_ | refine L.zero ?_ | refine L.build ?_ | refine L.len ?_ | refine L.lenS ?_ | refine L.lenN ?_ | refine L.bsl ?_)
      | refine hQ _ _ _ rfl ?_
      | refine hQN _ _ _ rfl ?_)
    refine N.weak (fr1 := [(0, .ptr 0 1 0 0)]) (h1 := [mA 19, mB 19]) (Weaks.gc [0, 1] 0 rfl ⟨.rfl, trivial⟩ (by show [mA 19, mB 19] = [outB _ [0, 1] 0 (renB [0, 1, 2] (mA 19)), outB _ _ _ (renB _ (mB 19))]; rw [renB_mB, outB_mB]; rfl)) (N.now ?_)
    repeat' (first
      | simp only [renB_mB]
      | refine N.regS fun K hK => ?_
      | refine N.dregS fun K hK => ?_
      | refine N.regN fun K hK => ?_
      | refine N.dregN fun K hK => ?_
      | simp only [T.mv, sm, AO.ev, put, lk, enter, reduceIte, Nat.reduceEqDiff, Nat.reduceAdd, Nat.reduceMul, Nat.reduceSub, Int.reduceNeg, Int.reduceToNat, upto, renB, setAll]
      | (refine T.nil ?_; (first | refine hK _ _ _ (by rfl) ?_ | refine hK _ _ _ ?_); (try simp only [keep, List.map, lk, reduceIte, Nat.reduceEqDiff, enter]); clear hK K)
      | (show WOpsT _ (⟨_, .call _ _, none⟩ :: _) _ _ _ _; first | refine T.cP [0, 1, 2] e182 ((turnsK 19 (by decide) ⟨#[114, 111, 114]⟩ 15 [0, 2] rfl (by decide) (by unfold Adr; decide))) ?_)
      | (show WOpsT _ (⟨_, .ld _ _, none⟩ :: _) _ _ _ _; first | refine L.ld ?_ | refine L.ldd ?_ | refine L.ldn ?_ | refine L.lddn ?_)
      | (show WOpsT _ (⟨_, .idx _ _ _ _, none⟩ :: _) _ _ _ _; first | refine L.idx ?_ | refine L.idxs ?_)
      | (show WOpsT _ (⟨_, .bin _ _ _, none⟩ :: _) _ _ _ _; first | refine L.add ?_ | refine L.bin ?_)
      | (show AKW _ _ _ _ _ _ _; first | refine N.now ?_)
      | (show AK _ _ (.cond _ _ _) _ _ _ _; first | refine N.c1 ?_ | refine N.c2 ?_ | refine N.c3 ?_ | refine N.c4 ?_ | refine N.condD rfl (fun hcd => ?_) (fun hcd => ?_) | refine N.condB rfl (fun hcd => ?_) (fun hcd => ?_) | refine N.condU rfl ?_ ?_)
      | (show AK _ _ _ _ _ _ _; first | refine N.seq ?_ | refine N.block ?_ | refine N.skip ?_ | refine N.exit ?_ | refine N.ret ?_)
      | (show RK _ _ _ _ _ _ _; simp only [rk, rk0, reduceIte, Nat.reduceEqDiff])
      | (show WOpsT _ _ _ _ _ _; first | refine L.fad ?_ | refine L.fadd ?_ | refine L.st ?_ | refine L.zero ?_ | refine L.build ?_ | refine L.len ?_ | refine L.lenS ?_ | refine L.lenN ?_ | refine L.bsl ?_)
      | refine hQ _ _ _ rfl ?_
      | refine hQN _ _ _ rfl ?_)
    exact WS.gc [0, 1] 0 rfl (by show [mA 20, mB 20] = [outB _ [0, 1] 0 (renB [0, 1, 2] (mA 20)), outB _ _ _ (renB _ (mB 20))]; rw [renB_mB, outB_mB]; rfl) .rfl
end Go.Proofs.Ytjmmompbmjhkpaa.Calc

namespace Go.Proofs.Ytjmmompbmjhkpaa.Calc
open Go Code
set_option linter.unusedSimpArgs false
set_option linter.unusedVariables false
set_option maxRecDepth 20000
set_option maxHeartbeats 4000000
attribute [local irreducible] WOpsT AW AK RK AKW UK UC
theorem outB_in {h : List Blk} {ids : List Nat} {n v : Nat} {l : List Ins} {x : Ins} {row : List V} (hx : row.map (out h ids n) = inC x) : outB h ids n ⟨v, 4, l.map inC ++ [row]⟩ = ⟨v, 4, l.map inC ++ [inC x]⟩ := by
  rw [outB_flatA, List.map_cons, List.map_nil, hx]
section
variable {P : Program} {q : Nat} {st : List KF} {Q : Exit → Fr → List Blk → Prop} {fr : Fr} {h : List Blk} {c : AC}
theorem wA (k : Nat) (fr1 : Fr) (hA : AK P q c st Q fr1 [mA k, mB k]) (hids : gcOk q h.length [0, 1] = true := by rfl) (hs : selO h [0, 1] 2 fr fr1 := by exact ⟨.rfl, .rfl, .rfl, trivial⟩) (h0 : mA k = outB h [0, 1] 2 (h.getD 0 default) := by rfl) (h1 : mB k = h.getD 1 default := by rfl) : AKW P q c st Q fr h :=
  N.weak (Weaks.gc [0, 1] 2 hids hs (by
    show [_, _] = [outB h [0, 1] 2 (h.getD 0 default), outB h [0, 1] 2 (h.getD 1 default)]
    rw [← h0, ← h1, outB_mB])) (N.now hA)
theorem wB (k : Nat) (hA : AK P q c st Q [(0, .ptr 0 1 0 0)] [mA k, mB k]) (hids : gcOk q h.length [0, 1] = true := by rfl) (hs : selO h [0, 1] 0 fr [(0, .ptr 0 1 0 0)] := by exact ⟨.rfl, trivial⟩) (h0 : h.getD 0 default = renB [0, 1] (mA k) := by rfl) (h1 : h.getD 1 default = renB [0, 1] (mB k) := by rfl) : AKW P q c st Q fr h :=
  N.weak (Weaks.gc [0, 1] 0 hids hs (by
    show [_, _] = [outB h [0, 1] 0 (h.getD 0 default), outB h [0, 1] 0 (h.getD 1 default)]
    rw [h0, h1, renB_mB, outB_mB]; rfl)) (N.now hA)
end
theorem mB_succ {k : Nat} {s : ByteArray} {m : Int} {cy : List Cyc} (hc : stdL[k]? = some [(s, m, cy)]) : mB (k + 1) = ⟨(number 0 (memR k)).length + 1, 4, (number 0 (memR k)).map inC ++ [inC (insN (number 0 (memR k)) s m cy)]⟩ := by
  rw [← mkB_snoc, show number 0 (memR k) ++ [insN (number 0 (memR k)) s m cy] = number 0 (memR (k + 1)) from num_succ hc]; rfl
theorem mA_succ {k : Nat} {c : Row} (hc : stdL[k]? = some [c]) : mA (k + 1) = ⟨1, 1, [[.psl 1 ((number 0 (memR k)).length + 1) 0 ((number 0 (memR k)).length + 1)]]⟩ := by
  unfold mA mkA
  rw [number_len, number_len, memR_succ k _ hc, List.length_append]; rfl
theorem addS1 (k : Nat) (hk : k < 50 ∧ 1 ≤ k) (s : ByteArray) (m b a r : Int) (ss : List Stp) (n : Nat) :
    FnE Try.prog 183 [.ptr 0 1 0 0, .c (.string s), I m, .psl 2 1 0 1] [mA k, mB k, ⟨1, 4, [[I b, I a, I r, .psl 3 1 0 n]]⟩, ⟨1, 4, ss.map stC⟩] (.tup [])
      [⟨1, 1, [[.psl 1 ((number 0 (memR k)).length + 1) 0 ((number 0 (memR k)).length + 1)]]⟩, ⟨(number 0 (memR k)).length + 1, 4, (number 0 (memR k)).map inC ++ [[I ((number 0 (memR k)).length + 1), .c (.string s), I m, .psl 2 1 0 1]]⟩, ⟨1, 4, [[I b, I a, I r, .psl 3 1 0 n]]⟩, ⟨1, 4, ss.map stC⟩] := by
  have hl := num_len k hk
  unfold mA mB
  obtain ⟨l, hle⟩ : ∃ l, number 0 (memR k) = l := ⟨_, rfl⟩
  rw [hle] at hl ⊢
  refine N.fn Try.func183 k183 lb q183 fun Q hQ hQN => ?_
  rw [c183]
  repeat' (first
    | (show WOpsT _ (⟨_, .app _ _ _ _, none⟩ :: _) _ _ _ _; refine T.app rfl rfl rfl ⟨by decide, by decide⟩ ⟨rfl, rfl, by rw [Nat.zero_add]; exact (List.length_map _).symm, by simp; omega⟩ ?_)
    | (show WOpsT _ (⟨_, .st _ _ _, none⟩ :: _) _ _ _ _; refine T.st rfl rfl (vcells_psl rfl rfl) ⟨rfl, rfl⟩ rfl (Nat.le_of_ble_eq_true rfl) ?_)
    | refine N.regS fun K hK => ?_
    | refine N.dregS fun K hK => ?_
    | refine N.regN fun K hK => ?_
    | refine N.dregN fun K hK => ?_
    | simp only [T.mv, sm, AO.ev, put, lk, enter, reduceIte, Nat.reduceEqDiff, Nat.reduceAdd, Nat.reduceMul, Nat.reduceSub, Int.reduceNeg, Int.reduceToNat, upto, renB, setAll]
    | (refine T.nil ?_; (first | refine hK _ _ _ (by rfl) ?_ | refine hK _ _ _ ?_); (try simp only [keep, List.map, lk, reduceIte, Nat.reduceEqDiff, enter]); clear hK K)
    | (show WOpsT _ (⟨_, .ld _ _, none⟩ :: _) _ _ _ _; first | refine L.ld ?_ | refine L.ldd ?_)
    | (show WOpsT _ (⟨_, .bin _ _ _, none⟩ :: _) _ _ _ _; first | refine L.add ?_ | refine L.bin ?_)
    | (show AKW _ _ _ _ _ _ _; first | refine N.now ?_)
    | (show AK _ _ _ _ _ _ _; first | refine N.seq ?_ | refine N.ret ?_)
    | (show RK _ _ _ _ _ _ _; simp only [rk, rk0, reduceIte, Nat.reduceEqDiff])
    | (show WOpsT _ _ _ _ _ _; first | refine L.fad ?_ | refine L.fadd ?_ | refine L.nilc ?_ | refine L.nilcd ?_ | refine T.nilcf rfl ?_ | refine T.nilci rfl ?_ | refine L.st ?_ | refine L.build ?_ | refine L.len ?_ | refine L.lenS ?_ | refine L.lenN ?_ | refine L.bsl ?_)
    | refine hQ _ _ _ rfl ?_
    | refine hQN _ _ _ rfl ?_)
  exact WS.gc [0, 1, 2, 3] 0 rfl (by show [_, ⟨_, _, _⟩, _, ⟨1, 4, ss.map stC⟩] = [_, outB _ _ _ ⟨l.length + 1, 4, l.map inC ++ [[I (l.length + 1), .c (.string s), I m, .psl 2 1 0 1]]⟩, _, outB _ _ _ ⟨1, 4, ss.map stC⟩]; rw [outB_flatA, outB_flat]; rfl) .rfl
theorem addS2 (k : Nat) (hk : k < 50 ∧ 1 ≤ k) (s : ByteArray) (m b a r b' a' r' : Int) (ss ss' : List Stp) (n n' : Nat) :
    FnE Try.prog 183 [.ptr 0 1 0 0, .c (.string s), I m, .psl 2 1 0 2] [mA k, mB k, ⟨1, 4, [[I b, I a, I r, .psl 3 1 0 n], [I b', I a', I r', .psl 4 1 0 n']]⟩, ⟨1, 4, ss.map stC⟩, ⟨1, 4, ss'.map stC⟩] (.tup [])
      [⟨1, 1, [[.psl 1 ((number 0 (memR k)).length + 1) 0 ((number 0 (memR k)).length + 1)]]⟩, ⟨(number 0 (memR k)).length + 1, 4, (number 0 (memR k)).map inC ++ [[I ((number 0 (memR k)).length + 1), .c (.string s), I m, .psl 2 1 0 2]]⟩, ⟨1, 4, [[I b, I a, I r, .psl 3 1 0 n], [I b', I a', I r', .psl 4 1 0 n']]⟩, ⟨1, 4, ss.map stC⟩, ⟨1, 4, ss'.map stC⟩] := by
  have hl := num_len k hk
  unfold mA mB
  obtain ⟨l, hle⟩ : ∃ l, number 0 (memR k) = l := ⟨_, rfl⟩
  rw [hle] at hl ⊢
  refine N.fn Try.func183 k183 lb q183 fun Q hQ hQN => ?_
  rw [c183]
  repeat' (first
    | (show WOpsT _ (⟨_, .app _ _ _ _, none⟩ :: _) _ _ _ _; refine T.app rfl rfl rfl ⟨by decide, by decide⟩ ⟨rfl, rfl, by rw [Nat.zero_add]; exact (List.length_map _).symm, by simp; omega⟩ ?_)
    | (show WOpsT _ (⟨_, .st _ _ _, none⟩ :: _) _ _ _ _; refine T.st rfl rfl (vcells_psl rfl rfl) ⟨rfl, rfl⟩ rfl (Nat.le_of_ble_eq_true rfl) ?_)
    | refine N.regS fun K hK => ?_
    | refine N.dregS fun K hK => ?_
    | refine N.regN fun K hK => ?_
    | refine N.dregN fun K hK => ?_
    | simp only [T.mv, sm, AO.ev, put, lk, enter, reduceIte, Nat.reduceEqDiff, Nat.reduceAdd, Nat.reduceMul, Nat.reduceSub, Int.reduceNeg, Int.reduceToNat, upto, renB, setAll]
    | (refine T.nil ?_; (first | refine hK _ _ _ (by rfl) ?_ | refine hK _ _ _ ?_); (try simp only [keep, List.map, lk, reduceIte, Nat.reduceEqDiff, enter]); clear hK K)
    | (show WOpsT _ (⟨_, .ld _ _, none⟩ :: _) _ _ _ _; first | refine L.ld ?_ | refine L.ldd ?_)
    | (show WOpsT _ (⟨_, .bin _ _ _, none⟩ :: _) _ _ _ _; first | refine L.add ?_ | refine L.bin ?_)
    | (show AKW _ _ _ _ _ _ _; first | refine N.now ?_)
    | (show AK _ _ _ _ _ _ _; first | refine N.seq ?_ | refine N.ret ?_)
    | (show RK _ _ _ _ _ _ _; simp only [rk, rk0, reduceIte, Nat.reduceEqDiff])
    | (show WOpsT _ _ _ _ _ _; first | refine L.fad ?_ | refine L.fadd ?_ | refine L.nilc ?_ | refine L.nilcd ?_ | refine T.nilcf rfl ?_ | refine T.nilci rfl ?_ | refine L.st ?_ | refine L.build ?_ | refine L.len ?_ | refine L.lenS ?_ | refine L.lenN ?_ | refine L.bsl ?_)
    | refine hQ _ _ _ rfl ?_
    | refine hQN _ _ _ rfl ?_)
  exact WS.gc [0, 1, 2, 3, 4] 0 rfl (by show [_, ⟨_, _, _⟩, _, ⟨1, 4, ss.map stC⟩, ⟨1, 4, ss'.map stC⟩] = [_, outB _ _ _ ⟨l.length + 1, 4, l.map inC ++ [[I (l.length + 1), .c (.string s), I m, .psl 2 1 0 2]]⟩, _, outB _ _ _ ⟨1, 4, ss.map stC⟩, outB _ _ _ ⟨1, 4, ss'.map stC⟩]; rw [outB_flatA, outB_flat, outB_flat]; rfl) .rfl
def row3 (p : ByteArray × Int × Int) : List V := [.c (.string p.1), I p.2.1, I p.2.2]
def tabA : List (ByteArray × Int × Int) := [(⟨#[116, 97, 120]⟩, 1, 0), (⟨#[116, 97, 121]⟩, 2, 0), (⟨#[116, 120, 97]⟩, 0, 1), (⟨#[116, 121, 97]⟩, 0, 2), (⟨#[116, 115, 120]⟩, 1, 3)]
def tabW : List (ByteArray × Int × Int) := [(⟨#[98, 101, 113]⟩, 2, 1), (⟨#[98, 110, 101]⟩, 2, 0), (⟨#[98, 99, 115]⟩, 1, 1), (⟨#[98, 99, 99]⟩, 1, 0), (⟨#[98, 109, 105]⟩, 128, 1), (⟨#[98, 112, 108]⟩, 128, 0)]
theorem alone_ok : FnE Try.prog 146 [.ptr 0 1 0 0] [mA 20, mB 20] (.tup []) [mA 39, mB 39] := by
  refine N.fn Try.func146 k146 lb q146 fun Q hQ hQN => ?_
  rw [c146]
  repeat' (first
    | refine N.regS fun K hK => ?_
    | refine N.dregS fun K hK => ?_
    | refine N.regN fun K hK => ?_
    | refine N.dregN fun K hK => ?_
    | simp only [T.mv, sm, AO.ev, put, lk, enter, reduceIte, Nat.reduceEqDiff, Nat.reduceAdd, Nat.reduceMul, Nat.reduceSub, Int.reduceNeg, Int.reduceToNat, upto, renB, setAll]
    | (refine T.nil ?_; (first | refine hK _ _ _ (by rfl) ?_ | refine hK _ _ _ ?_); (try simp only [keep, List.map, lk, reduceIte, Nat.reduceEqDiff, enter]); clear hK K)
    | (show WOpsT _ (⟨_, .ld _ _, none⟩ :: _) _ _ _ _; first | refine L.ld ?_ | refine L.ldd ?_ | refine L.ldn ?_ | refine L.lddn ?_)
    | (show WOpsT _ (⟨_, .idx _ _ _ _, none⟩ :: _) _ _ _ _; first | refine L.idx ?_ | refine L.idxs ?_)
    | (show WOpsT _ (⟨_, .bin _ _ _, none⟩ :: _) _ _ _ _; first | refine L.add ?_ | refine L.bin ?_)
    | (show AK _ _ (.cond _ _ _) _ _ _ _; first | refine N.c1 ?_ | refine N.c2 ?_ | refine N.c3 ?_ | refine N.c4 ?_ | refine N.condD rfl (fun hcd => ?_) (fun hcd => ?_) | refine N.condB rfl (fun hcd => ?_) (fun hcd => ?_) | refine N.condU rfl ?_ ?_)
    | (show AK _ _ _ _ _ _ _; first | refine N.seq ?_ | refine N.block ?_ | refine N.skip ?_ | refine N.exit ?_ | refine N.ret ?_)
    | (show RK _ _ _ _ _ _ _; simp only [rk, rk0, reduceIte, Nat.reduceEqDiff])
    | (show WOpsT _ _ _ _ _ _; first | refine L.fad ?_ | refine L.fadd ?_ | refine L.st ?_ | refine L.zero ?_ | refine L.build ?_ | refine L.len ?_ | refine L.lenS ?_ | refine L.lenN ?_ | refine L.bsl ?_)
    | refine hQ _ _ _ rfl ?_
    | refine hQN _ _ _ rfl ?_)
  refine N.weak (fr1 := [(0, .ptr 0 1 0 0), (9, .psl 2 1 0 5), (10, I 5), (11, I 0)]) (h1 := [mA 20, mB 20, ⟨1, 3, tabA.map row3⟩]) (Weaks.sel (by repeat (first | exact trivial | refine ⟨.rfl, ?_⟩ | refine ⟨.any, ?_⟩)) rfl) (N.now ?_)
  repeat' (first
    | refine N.regS fun K hK => ?_
    | refine N.dregS fun K hK => ?_
    | refine N.regN fun K hK => ?_
    | refine N.dregN fun K hK => ?_
    | simp only [T.mv, sm, AO.ev, put, lk, enter, reduceIte, Nat.reduceEqDiff, Nat.reduceAdd, Nat.reduceMul, Nat.reduceSub, Int.reduceNeg, Int.reduceToNat, upto, renB, setAll]
    | (refine T.nil ?_; (first | refine hK _ _ _ (by rfl) ?_ | refine hK _ _ _ ?_); (try simp only [keep, List.map, lk, reduceIte, Nat.reduceEqDiff, enter]); clear hK K)
    | (show WOpsT _ (⟨_, .ld _ _, none⟩ :: _) _ _ _ _; first | refine L.ld ?_ | refine L.ldd ?_ | refine L.ldn ?_ | refine L.lddn ?_)
    | (show WOpsT _ (⟨_, .idx _ _ _ _, none⟩ :: _) _ _ _ _; first | refine L.idx ?_ | refine L.idxs ?_)
    | (show WOpsT _ (⟨_, .bin _ _ _, none⟩ :: _) _ _ _ _; first | refine L.add ?_ | refine L.bin ?_)
    | (show AK _ _ (.cond _ _ _) _ _ _ _; first | refine N.c1 ?_ | refine N.c2 ?_ | refine N.c3 ?_ | refine N.c4 ?_ | refine N.condD rfl (fun hcd => ?_) (fun hcd => ?_) | refine N.condB rfl (fun hcd => ?_) (fun hcd => ?_) | refine N.condU rfl ?_ ?_)
    | (show AK _ _ _ _ _ _ _; first | refine N.seq ?_ | refine N.block ?_ | refine N.skip ?_ | refine N.exit ?_ | refine N.ret ?_)
    | (show RK _ _ _ _ _ _ _; simp only [rk, rk0, reduceIte, Nat.reduceEqDiff])
    | (show WOpsT _ _ _ _ _ _; first | refine L.fad ?_ | refine L.fadd ?_ | refine L.st ?_ | refine L.zero ?_ | refine L.build ?_ | refine L.len ?_ | refine L.lenS ?_ | refine L.lenN ?_ | refine L.bsl ?_)
    | refine hQ _ _ _ rfl ?_
    | refine hQN _ _ _ rfl ?_)
  refine N.loop (σ := Nat) (fun i => [(0, .ptr 0 1 0 0), (9, .psl 2 1 0 5), (10, I 5), (11, I i)]) (fun i => [mA (20 + i), mB (20 + i), ⟨1, 3, tabA.map row3⟩]) (fun i => i ≤ 5) (fun i => 5 - i) 0 (by omega) (Weaks.sel (by repeat (first | exact trivial | refine ⟨.rfl, ?_⟩ | refine ⟨.any, ?_⟩)) rfl) fun i hi R hC => ?_
  by_cases hil : i < 5
  · have e3 : 0 + (i : Int).toNat = i := by omega
    obtain ⟨p, hp⟩ : ∃ p, tabA[i]? = some p := ⟨tabA[i]'hil, List.getElem?_eq_getElem hil⟩
    have hrow : (tabA.map row3)[i]? = some (row3 p) := by rw [List.getElem?_map, hp]; rfl
    have hst : stdL[20 + i]? = some [(p.1, 0, [noM [twoM 1 p.2.1 p.2.2, oneM 3 p.2.1]])] := by
      have : ∀ j, j < 5 → ∀ q, tabA[j]? = some q → stdL[20 + j]? = some [(q.1, 0, [noM [twoM 1 q.2.1 q.2.2, oneM 3 q.2.1]])] := by
        intro j hj q hq
        match j, hj with
        | 0, _ => cases hq; rfl
        | 1, _ => cases hq; rfl
        | 2, _ => cases hq; rfl
        | 3, _ => cases hq; rfl
        | 4, _ => cases hq; rfl
      exact this i hil p hp
    have hj := addS1 (20 + i) (by omega) p.1 0 0 0 0 [twoM 1 p.2.1 p.2.2, oneM 3 p.2.1] 2
    repeat' (first
      | rw [e3]
      | (show WOpsT _ (⟨_, .ld _ _, none⟩ :: _) _ _ _ _; refine T.ldn rfl rfl rfl hrow (Nat.le_of_ble_eq_true rfl) ?_)
      | rw [rows_renA]
      | refine N.regS fun K hK => ?_
      | refine N.dregS fun K hK => ?_
      | refine N.regN fun K hK => ?_
      | refine N.dregN fun K hK => ?_
      | simp only [T.mv, sm, AO.ev, put, lk, enter, reduceIte, Nat.reduceEqDiff, Nat.reduceAdd, Nat.reduceMul, Nat.reduceSub, Int.reduceNeg, Int.reduceToNat, upto, renB, setAll]
      | (refine T.nil ?_; (first | refine hK _ _ _ (by rfl) ?_ | refine hK _ _ _ ?_); (try simp only [keep, List.map, lk, reduceIte, Nat.reduceEqDiff, enter]); clear hK K)
      | (show WOpsT _ (⟨_, .call _ _, none⟩ :: _) _ _ _ _; first | refine T.call0 e185 rfl ((two_ok 1 p.2.1 p.2.2)) ?_ | refine T.call0 e186 rfl ((one_ok 3 p.2.1)) ?_ | refine T.cP [4] e184 ((noP_ok [twoM 1 p.2.1 p.2.2, oneM 3 p.2.1] 2)) ?_ | refine T.cP [0, 1, 5, 4] e183 (hj) ?_)
      | (show WOpsT _ (⟨_, .ld _ _, none⟩ :: _) _ _ _ _; first | refine L.ld ?_ | refine L.ldd ?_ | refine L.ldn ?_ | refine L.lddn ?_)
      | (show WOpsT _ (⟨_, .idx _ _ _ _, none⟩ :: _) _ _ _ _; first | refine L.idx ?_ | refine L.idxs ?_)
      | (show WOpsT _ (⟨_, .bin _ _ _, none⟩ :: _) _ _ _ _; first | refine L.add ?_ | refine L.bin ?_)
      | (show AKW _ _ _ _ _ _ _; first | refine N.now ?_)
      | (show AK _ _ (.cond _ _ _) _ _ _ _; first | refine N.c1 ?_ | refine N.c2 ?_ | refine N.c3 ?_ | refine N.c4 ?_ | refine N.condD rfl (fun hcd => ?_) (fun hcd => ?_) | refine N.condB rfl (fun hcd => ?_) (fun hcd => ?_) | refine N.condU rfl ?_ ?_)
      | (show AK _ _ _ _ _ _ _; first | refine N.seq ?_ | refine N.block ?_ | refine N.skip ?_ | refine N.exit ?_ | refine N.ret ?_)
      | (show RK _ _ _ _ _ _ _; simp only [rk, rk0, reduceIte, Nat.reduceEqDiff])
      | (show WOpsT _ _ _ _ _ _; first | refine L.fad ?_ | refine L.fadd ?_ | refine L.st ?_ | refine L.zero ?_ | refine L.build ?_ | refine L.len ?_ | refine L.lenS ?_ | refine L.lenN ?_ | refine L.bsl ?_)
      | refine hQ _ _ _ rfl ?_
      | refine hQN _ _ _ rfl ?_)
    exact hC _ _ (i + 1) (by omega) (by omega) (Weaks.gc [0, 1, 2] 2 rfl (by repeat (first | exact trivial | refine ⟨.rfl, ?_⟩ | refine ⟨.any, ?_⟩)) (by rw [show 20 + (i + 1) = 20 + i + 1 from rfl, mA_succ hst, mB_succ hst]; show [_, _, _] = [_, outB _ [0, 1, 2] 2 ⟨_, 4, (number 0 (memR (20 + i))).map inC ++ [_]⟩, _]; rw [outB_in (x := insN (number 0 (memR (20 + i))) p.1 0 ([noM [twoM 1 p.2.1 p.2.2, oneM 3 p.2.1]])) rfl]; rfl))
  · obtain rfl : i = 5 := by omega
    repeat' (first
      | (show AKW _ _ (.seq (.cond _ _ _) _) _ _ _ _; refine N.now ?_)
      | refine N.regS fun K hK => ?_
      | refine N.dregS fun K hK => ?_
      | refine N.regN fun K hK => ?_
      | refine N.dregN fun K hK => ?_
      | simp only [T.mv, sm, AO.ev, put, lk, enter, reduceIte, Nat.reduceEqDiff, Nat.reduceAdd, Nat.reduceMul, Nat.reduceSub, Int.reduceNeg, Int.reduceToNat, upto, renB, setAll]
      | (refine T.nil ?_; (first | refine hK _ _ _ (by rfl) ?_ | refine hK _ _ _ ?_); (try simp only [keep, List.map, lk, reduceIte, Nat.reduceEqDiff, enter]); clear hK K)
      | (show WOpsT _ (⟨_, .ld _ _, none⟩ :: _) _ _ _ _; first | refine L.ld ?_ | refine L.ldd ?_ | refine L.ldn ?_ | refine L.lddn ?_)
      | (show WOpsT _ (⟨_, .idx _ _ _ _, none⟩ :: _) _ _ _ _; first | refine L.idx ?_ | refine L.idxs ?_)
      | (show WOpsT _ (⟨_, .bin _ _ _, none⟩ :: _) _ _ _ _; first | refine L.add ?_ | refine L.bin ?_)
      | (show AK _ _ (.cond _ _ _) _ _ _ _; first | refine N.c1 ?_ | refine N.c2 ?_ | refine N.c3 ?_ | refine N.c4 ?_ | refine N.condD rfl (fun hcd => ?_) (fun hcd => ?_) | refine N.condB rfl (fun hcd => ?_) (fun hcd => ?_) | refine N.condU rfl ?_ ?_)
      | (show AK _ _ _ _ _ _ _; first | refine N.seq ?_ | refine N.block ?_ | refine N.skip ?_ | refine N.exit ?_ | refine N.ret ?_)
      | (show RK _ _ _ _ _ _ _; simp only [rk, rk0, reduceIte, Nat.reduceEqDiff])
      | (show WOpsT _ _ _ _ _ _; first | refine L.fad ?_ | refine L.fadd ?_ | refine L.st ?_ | refine L.zero ?_ | refine L.build ?_ | refine L.len ?_ | refine L.lenS ?_ | refine L.lenN ?_ | refine L.bsl ?_)
      | refine hQ _ _ _ rfl ?_
      | refine hQN _ _ _ rfl ?_)
    refine N.weak (fr1 := [(0, .ptr 0 1 0 0)]) (h1 := [mA 25, mB 25]) (Weaks.gc [0, 1] 0 rfl ⟨.rfl, trivial⟩ (by show [mA 25, mB 25] = [outB _ [0, 1] 0 (mA 25), outB _ _ _ (mB 25)]; rw [outB_mB]; rfl)) (N.now ?_)
    repeat' (first
      | (show AK _ _ (.seq (.reg (⟨some 31, _, _⟩ :: _) _) _) _ _ _ _; refine N.cut 5 fun K hK => ?_)
      | (show AKW _ _ (.seq (.reg (⟨some 36, _, _⟩ :: _) _) _) _ _ _ _; refine wA 25 [(0, .ptr 0 1 0 0), (31, .ptr 0 1 0 0), (35, .sl 4 (([noM [twoM 1 3 1]]).map cyC))] ?_)
      | (show AK _ _ (.seq (.reg (⟨some 37, _, _⟩ :: _) _) _) _ _ _ _; refine N.cut 5 fun K hK => ?_)
      | (show AKW _ _ (.seq (.reg (⟨some 42, _, _⟩ :: _) _) _) _ _ _ _; refine wA 26 [(0, .ptr 0 1 0 0), (37, .ptr 0 1 0 0), (41, .sl 4 (([noM [oneM 10 1]]).map cyC))] ?_)
      | (show AKW _ _ (.seq (.reg (⟨some 37, _, _⟩ :: _) _) _) _ _ _ _; refine wB 26 ?_)
      | (show AK _ _ (.seq (.reg (⟨some 43, _, _⟩ :: _) _) _) _ _ _ _; refine N.cut 5 fun K hK => ?_)
      | (show AKW _ _ (.seq (.reg (⟨some 48, _, _⟩ :: _) _) _) _ _ _ _; refine wA 27 [(0, .ptr 0 1 0 0), (43, .ptr 0 1 0 0), (47, .sl 4 (([noM [oneM 10 2]]).map cyC))] ?_)
      | (show AKW _ _ (.seq (.reg (⟨some 43, _, _⟩ :: _) _) _) _ _ _ _; refine wB 27 ?_)
      | (show AK _ _ (.seq (.reg (⟨some 49, _, _⟩ :: _) _) _) _ _ _ _; refine N.cut 5 fun K hK => ?_)
      | (show AKW _ _ (.seq (.reg (⟨some 54, _, _⟩ :: _) _) _) _ _ _ _; refine wA 28 [(0, .ptr 0 1 0 0), (49, .ptr 0 1 0 0), (53, .sl 4 (([noM [oneM 11 1]]).map cyC))] ?_)
      | (show AKW _ _ (.seq (.reg (⟨some 49, _, _⟩ :: _) _) _) _ _ _ _; refine wB 28 ?_)
      | (show AK _ _ (.seq (.reg (⟨some 55, _, _⟩ :: _) _) _) _ _ _ _; refine N.cut 5 fun K hK => ?_)
      | (show AKW _ _ (.seq (.reg (⟨some 60, _, _⟩ :: _) _) _) _ _ _ _; refine wA 29 [(0, .ptr 0 1 0 0), (55, .ptr 0 1 0 0), (59, .sl 4 (([noM [oneM 11 2]]).map cyC))] ?_)
      | (show AKW _ _ (.seq (.reg (⟨some 55, _, _⟩ :: _) _) _) _ _ _ _; refine wB 29 ?_)
      | (show AK _ _ (.seq (.reg (⟨some 61, _, _⟩ :: _) _) _) _ _ _ _; refine N.cut 5 fun K hK => ?_)
      | (show AKW _ _ (.seq (.reg (⟨some 66, _, _⟩ :: _) _) _) _ _ _ _; refine wA 30 [(0, .ptr 0 1 0 0), (61, .ptr 0 1 0 0), (65, .sl 4 (([noM [⟨17, 0, 0, 1⟩]]).map cyC))] ?_)
      | (show AKW _ _ (.seq (.reg (⟨some 61, _, _⟩ :: _) _) _) _ _ _ _; refine wB 30 ?_)
      | (show AK _ _ (.seq (.reg (⟨some 67, _, _⟩ :: _) _) _) _ _ _ _; refine N.cut 5 fun K hK => ?_)
      | (show AKW _ _ (.seq (.reg (⟨some 72, _, _⟩ :: _) _) _) _ _ _ _; refine wA 31 [(0, .ptr 0 1 0 0), (67, .ptr 0 1 0 0), (71, .sl 4 (([noM [⟨16, 0, 0, 1⟩]]).map cyC))] ?_)
      | (show AKW _ _ (.seq (.reg (⟨some 67, _, _⟩ :: _) _) _) _ _ _ _; refine wB 31 ?_)
      | (show AK _ _ (.seq (.reg (⟨some 73, _, _⟩ :: _) _) _) _ _ _ _; refine N.cut 5 fun K hK => ?_)
      | (show AKW _ _ (.seq (.reg (⟨some 78, _, _⟩ :: _) _) _) _ _ _ _; refine wA 32 [(0, .ptr 0 1 0 0), (73, .ptr 0 1 0 0), (77, .sl 4 (([noM [⟨17, 0, 0, 4⟩]]).map cyC))] ?_)
      | (show AKW _ _ (.seq (.reg (⟨some 73, _, _⟩ :: _) _) _) _ _ _ _; refine wB 32 ?_)
      | (show AK _ _ (.seq (.reg (⟨some 79, _, _⟩ :: _) _) _) _ _ _ _; refine N.cut 5 fun K hK => ?_)
      | (show AKW _ _ (.seq (.reg (⟨some 84, _, _⟩ :: _) _) _) _ _ _ _; refine wA 33 [(0, .ptr 0 1 0 0), (79, .ptr 0 1 0 0), (83, .sl 4 (([noM [⟨16, 0, 0, 4⟩]]).map cyC))] ?_)
      | (show AKW _ _ (.seq (.reg (⟨some 79, _, _⟩ :: _) _) _) _ _ _ _; refine wB 33 ?_)
      | (show AK _ _ (.seq (.reg (⟨some 85, _, _⟩ :: _) _) _) _ _ _ _; refine N.cut 3 fun K hK => ?_)
      | (show AKW _ _ (.seq (.reg (⟨some 88, _, _⟩ :: _) _) _) _ _ _ _; refine wA 34 [(0, .ptr 0 1 0 0), (85, .ptr 0 1 0 0), (87, .sl 4 (([noM []]).map cyC))] ?_)
      | (show AKW _ _ (.seq (.reg (⟨some 85, _, _⟩ :: _) _) _) _ _ _ _; refine wB 34 ?_)
      | (show AK _ _ (.seq (.reg (⟨some 89, _, _⟩ :: _) _) _) _ _ _ _; refine N.cut 3 fun K hK => ?_)
      | (show AKW _ _ (.seq (.reg (⟨some 92, _, _⟩ :: _) _) _) _ _ _ _; refine wA 35 [(0, .ptr 0 1 0 0), (89, .ptr 0 1 0 0), (91, .sl 4 (([wrM 4 0 []]).map cyC))] ?_)
      | (show AKW _ _ (.seq (.reg (⟨some 89, _, _⟩ :: _) _) _) _ _ _ _; refine wB 35 ?_)
      | (show AK _ _ (.seq (.reg (⟨some 93, _, _⟩ :: _) _) _) _ _ _ _; refine N.cut 5 fun K hK => ?_)
      | (show AKW _ _ (.seq (.reg (⟨some 98, _, _⟩ :: _) _) _) _ _ _ _; refine wA 36 [(0, .ptr 0 1 0 0), (93, .ptr 0 1 0 0), (97, .sl 4 (([rdM 5 0 [oneM 3 0]]).map cyC))] ?_)
      | (show AKW _ _ (.seq (.reg (⟨some 93, _, _⟩ :: _) _) _) _ _ _ _; refine wB 36 ?_)
      | (show AK _ _ (.seq (.reg (⟨some 99, _, _⟩ :: _) _) _) _ _ _ _; refine N.cut 3 fun K hK => ?_)
      | (show AKW _ _ (.seq (.reg (⟨some 102, _, _⟩ :: _) _) _) _ _ _ _; refine wA 37 [(0, .ptr 0 1 0 0), (99, .ptr 0 1 0 0), (101, .sl 4 (([wrM 4 4 []]).map cyC))] ?_)
      | (show AKW _ _ (.seq (.reg (⟨some 99, _, _⟩ :: _) _) _) _ _ _ _; refine wB 37 ?_)
      | (show AK _ _ (.reg (⟨some 103, _, _⟩ :: _) _) _ _ _ _; refine N.cutN 3 fun K hK => ?_)
      | (show AKW _ _ (.reg (⟨some 106, _, _⟩ :: _) _) _ _ _ _; refine wA 38 [(0, .ptr 0 1 0 0), (103, .ptr 0 1 0 0), (105, .sl 4 (([rdM 5 4 []]).map cyC))] ?_)
      | (show AKW _ _ (.reg (⟨some 103, _, _⟩ :: _) _) _ _ _ _; refine wB 38 ?_)
      | refine N.regS fun K hK => ?_
      | refine N.dregS fun K hK => ?_
      | refine N.regN fun K hK => ?_
      | refine N.dregN fun K hK => ?_
      | simp only [T.mv, sm, AO.ev, put, lk, enter, reduceIte, Nat.reduceEqDiff, Nat.reduceAdd, Nat.reduceMul, Nat.reduceSub, Int.reduceNeg, Int.reduceToNat, upto, renB, setAll]
      | (refine T.nil ?_; (first | refine hK _ _ _ (by rfl) ?_ | refine hK _ _ _ ?_); (try simp only [keep, List.map, lk, reduceIte, Nat.reduceEqDiff, enter]); clear hK K)
      | (show WOpsT _ (⟨_, .call _ _, none⟩ :: _) _ _ _ _; first | refine T.call0 e185 rfl ((two_ok 1 3 1)) ?_ | refine T.cP [2] e184 ((noP_ok [twoM 1 3 1] 1)) ?_ rfl rfl | refine T.cP [0, 1] e183 ((addK 25 (by decide) ⟨#[116, 120, 115]⟩ 0 [noM [twoM 1 3 1]] rfl)) ?_ | refine T.call0 e186 rfl ((one_ok 10 1)) ?_ | refine T.cP [2] e184 ((noP_ok [oneM 10 1] 1)) ?_ rfl rfl | refine T.cP [0, 1] e183 ((addK 26 (by decide) ⟨#[105, 110, 120]⟩ 0 [noM [oneM 10 1]] rfl)) ?_ | refine T.call0 e186 rfl ((one_ok 10 2)) ?_ | refine T.cP [2] e184 ((noP_ok [oneM 10 2] 1)) ?_ rfl rfl | refine T.cP [0, 1] e183 ((addK 27 (by decide) ⟨#[105, 110, 121]⟩ 0 [noM [oneM 10 2]] rfl)) ?_ | refine T.call0 e186 rfl ((one_ok 11 1)) ?_ | refine T.cP [2] e184 ((noP_ok [oneM 11 1] 1)) ?_ rfl rfl | refine T.cP [0, 1] e183 ((addK 28 (by decide) ⟨#[100, 101, 120]⟩ 0 [noM [oneM 11 1]] rfl)) ?_ | refine T.call0 e186 rfl ((one_ok 11 2)) ?_ | refine T.cP [2] e184 ((noP_ok [oneM 11 2] 1)) ?_ rfl rfl | refine T.cP [0, 1] e183 ((addK 29 (by decide) ⟨#[100, 101, 121]⟩ 0 [noM [oneM 11 2]] rfl)) ?_ | refine T.cP [2] e184 ((noP_ok [⟨17, 0, 0, 1⟩] 1)) ?_ rfl rfl | refine T.cP [0, 1] e183 ((addK 30 (by decide) ⟨#[99, 108, 99]⟩ 0 [noM [⟨17, 0, 0, 1⟩]] rfl)) ?_ | refine T.cP [2] e184 ((noP_ok [⟨16, 0, 0, 1⟩] 1)) ?_ rfl rfl | refine T.cP [0, 1] e183 ((addK 31 (by decide) ⟨#[115, 101, 99]⟩ 0 [noM [⟨16, 0, 0, 1⟩]] rfl)) ?_ | refine T.cP [2] e184 ((noP_ok [⟨17, 0, 0, 4⟩] 1)) ?_ rfl rfl | refine T.cP [0, 1] e183 ((addK 32 (by decide) ⟨#[99, 108, 105]⟩ 0 [noM [⟨17, 0, 0, 4⟩]] rfl)) ?_ | refine T.cP [2] e184 ((noP_ok [⟨16, 0, 0, 4⟩] 1)) ?_ rfl rfl | refine T.cP [0, 1] e183 ((addK 33 (by decide) ⟨#[115, 101, 105]⟩ 0 [noM [⟨16, 0, 0, 4⟩]] rfl)) ?_ | refine T.call0 e184 rfl (noN_ok) ?_ | refine T.cP [0, 1] e183 ((addK 34 (by decide) ⟨#[110, 111, 112]⟩ 0 [noM []] rfl)) ?_ | refine T.call0 e187 rfl ((wrN_ok 4 0)) ?_ | refine T.cP [0, 1] e183 ((addK 35 (by decide) ⟨#[112, 104, 97]⟩ 0 [wrM 4 0 []] rfl)) ?_ | refine T.call0 e186 rfl ((one_ok 3 0)) ?_ | refine T.cP [2] e148 ((rdP_ok 5 0 [oneM 3 0] 1)) ?_ rfl rfl | refine T.cP [0, 1] e183 ((addK 36 (by decide) ⟨#[112, 108, 97]⟩ 0 [rdM 5 0 [oneM 3 0]] rfl)) ?_ | refine T.call0 e187 rfl ((wrN_ok 4 4)) ?_ | refine T.cP [0, 1] e183 ((addK 37 (by decide) ⟨#[112, 104, 112]⟩ 0 [wrM 4 4 []] rfl)) ?_ | refine T.call0 e148 rfl ((rdN_ok 5 4)) ?_ | refine T.cP [0, 1] e183 ((addK 38 (by decide) ⟨#[112, 108, 112]⟩ 0 [rdM 5 4 []] rfl)) ?_)
      | (show WOpsT _ (⟨_, .ld _ _, none⟩ :: _) _ _ _ _; first | refine L.ld ?_ | refine L.ldd ?_ | refine L.ldn ?_ | refine L.lddn ?_)
      | (show WOpsT _ (⟨_, .idx _ _ _ _, none⟩ :: _) _ _ _ _; first | refine L.idx ?_ | refine L.idxs ?_)
      | (show WOpsT _ (⟨_, .bin _ _ _, none⟩ :: _) _ _ _ _; first | refine L.add ?_ | refine L.bin ?_)
      | (show AKW _ _ _ _ _ _ _; first | refine N.now ?_)
      | (show AK _ _ (.cond _ _ _) _ _ _ _; first | refine N.c1 ?_ | refine N.c2 ?_ | refine N.c3 ?_ | refine N.c4 ?_ | refine N.condD rfl (fun hcd => ?_) (fun hcd => ?_) | refine N.condB rfl (fun hcd => ?_) (fun hcd => ?_) | refine N.condU rfl ?_ ?_)
      | (show AK _ _ _ _ _ _ _; first | refine N.seq ?_ | refine N.block ?_ | refine N.skip ?_ | refine N.exit ?_ | refine N.ret ?_)
      | (show RK _ _ _ _ _ _ _; simp only [rk, rk0, reduceIte, Nat.reduceEqDiff])
      | (show WOpsT _ _ _ _ _ _; first | refine L.fad ?_ | refine L.fadd ?_ | refine L.st ?_ | refine L.zero ?_ | refine L.build ?_ | refine L.len ?_ | refine L.lenS ?_ | refine L.lenN ?_ | refine L.bsl ?_)
      | refine hQ _ _ _ rfl ?_
      | refine hQN _ _ _ rfl ?_)
    exact WS.gc [0, 1] 0 rfl (by show [mA 39, mB 39] = [outB _ [0, 1] 0 (renB [0, 1] (mA 39)), outB _ _ _ (renB _ (mB 39))]; rw [renB_mB, outB_mB]; rfl) .rfl
theorem ways_ok : FnE Try.prog 147 [.ptr 0 1 0 0] [mA 39, mB 39] (.tup []) [mA 49, mB 49] := by
  refine N.fn Try.func147 k147 lb q147 fun Q hQ hQN => ?_
  rw [c147]
  repeat' (first
    | (show AK _ _ (.seq (.reg (⟨some 4, _, _⟩ :: _) _) _) _ _ _ _; refine N.cut 5 fun K hK => ?_)
    | (show AKW _ _ (.seq (.reg (⟨some 9, _, _⟩ :: _) _) _) _ _ _ _; refine wA 39 [(0, .ptr 0 1 0 0), (4, .ptr 0 1 0 0), (8, .sl 4 (([rdM 0 5 [], rdM 0 6 (jumpM 7)]).map cyC))] ?_)
    | (show AK _ _ (.seq (.reg (⟨some 10, _, _⟩ :: _) _) _) _ _ _ _; refine N.cut 15 fun K hK => ?_)
    | (show AKW _ _ (.seq (.reg (⟨some 25, _, _⟩ :: _) _) _) _ _ _ _; refine wA 40 [(0, .ptr 0 1 0 0), (10, .ptr 0 1 0 0), (24, .sl 4 (([rdM 0 5 [twoM 18 8 5], rdM 0 5 [twoM 19 8 5, twoM 21 5 7], wrM 4 5 [twoM 20 5 7], wrM 4 5 [twoM 1 7 8]]).map cyC))] ?_)
    | (show AKW _ _ (.seq (.reg (⟨some 10, _, _⟩ :: _) _) _) _ _ _ _; refine wB 40 ?_)
    | (show AK _ _ (.seq (.reg (⟨some 26, _, _⟩ :: _) _) _) _ _ _ _; refine N.cut 5 fun K hK => ?_)
    | (show AKW _ _ (.seq (.reg (⟨some 31, _, _⟩ :: _) _) _) _ _ _ _; refine wA 41 [(0, .ptr 0 1 0 0), (26, .ptr 0 1 0 0), (30, .sl 4 (([rdM 5 5 [], rdM 5 6 (jumpM 7)]).map cyC))] ?_)
    | (show AKW _ _ (.seq (.reg (⟨some 26, _, _⟩ :: _) _) _) _ _ _ _; refine wB 41 ?_)
    | (show AK _ _ (.seq (.reg (⟨some 32, _, _⟩ :: _) _) _) _ _ _ _; refine N.cut 6 fun K hK => ?_)
    | (show AKW _ _ (.seq (.reg (⟨some 38, _, _⟩ :: _) _) _) _ _ _ _; refine wA 42 [(0, .ptr 0 1 0 0), (32, .ptr 0 1 0 0), (37, .sl 4 (([rdM 5 4 [], rdM 5 5 [], rdM 5 6 (jumpM 7)]).map cyC))] ?_)
    | (show AKW _ _ (.seq (.reg (⟨some 32, _, _⟩ :: _) _) _) _ _ _ _; refine wB 42 ?_)
    | refine N.regS fun K hK => ?_
    | refine N.dregS fun K hK => ?_
    | refine N.regN fun K hK => ?_
    | refine N.dregN fun K hK => ?_
    | simp only [T.mv, sm, AO.ev, put, lk, enter, reduceIte, Nat.reduceEqDiff, Nat.reduceAdd, Nat.reduceMul, Nat.reduceSub, Int.reduceNeg, Int.reduceToNat, upto, renB, setAll]
    | (refine T.nil ?_; (first | refine hK _ _ _ (by rfl) ?_ | refine hK _ _ _ ?_); (try simp only [keep, List.map, lk, reduceIte, Nat.reduceEqDiff, enter]); clear hK K)
    | (show WOpsT _ (⟨_, .call _ _, none⟩ :: _) _ _ _ _; first | refine T.call0 e148 rfl ((rdN_ok 5 5)) ?_ | refine T.call0 e148 rfl ((rdN_ok 0 5)) ?_ | refine T.call0 e148 rfl ((rdN_ok 5 4)) ?_ | refine T.callN e149 rfl ((jump_ok 7)) (by simp) ?_ | refine T.cP [2] e148 ((rdP_ok 0 6 (jumpM 7) 2)) ?_ rfl rfl | refine T.cP [0, 1] e183 ((addK 39 (by decide) ⟨#[106, 109, 112]⟩ 4 [rdM 0 5 [], rdM 0 6 (jumpM 7)] rfl)) ?_ | refine T.call0 e185 rfl ((two_ok 18 8 5)) ?_ | refine T.call0 e185 rfl ((two_ok 19 8 5)) ?_ | refine T.call0 e185 rfl ((two_ok 21 5 7)) ?_ | refine T.call0 e185 rfl ((two_ok 20 5 7)) ?_ | refine T.call0 e185 rfl ((two_ok 1 7 8)) ?_ | refine T.cP [2] e148 ((rdP_ok 0 5 [twoM 18 8 5] 1)) ?_ rfl rfl | refine T.cP [3] e148 ((rdP_ok 0 5 [twoM 19 8 5, twoM 21 5 7] 2)) ?_ rfl rfl | refine T.cP [4] e187 ((wrP_ok 4 5 [twoM 20 5 7] 1)) ?_ rfl rfl | refine T.cP [5] e187 ((wrP_ok 4 5 [twoM 1 7 8] 1)) ?_ rfl rfl | refine T.cP [0, 1] e183 ((addK 40 (by decide) ⟨#[106, 115, 114]⟩ 4 [rdM 0 5 [twoM 18 8 5], rdM 0 5 [twoM 19 8 5, twoM 21 5 7], wrM 4 5 [twoM 20 5 7], wrM 4 5 [twoM 1 7 8]] rfl)) ?_ | refine T.cP [2] e148 ((rdP_ok 5 6 (jumpM 7) 2)) ?_ rfl rfl | refine T.cP [0, 1] e183 ((addK 41 (by decide) ⟨#[114, 116, 115]⟩ 0 [rdM 5 5 [], rdM 5 6 (jumpM 7)] rfl)) ?_ | refine T.cP [0, 1] e183 ((addK 42 (by decide) ⟨#[114, 116, 105]⟩ 0 [rdM 5 4 [], rdM 5 5 [], rdM 5 6 (jumpM 7)] rfl)) ?_)
    | (show WOpsT _ (⟨_, .ld _ _, none⟩ :: _) _ _ _ _; first | refine L.ld ?_ | refine L.ldd ?_ | refine L.ldn ?_ | refine L.lddn ?_)
    | (show WOpsT _ (⟨_, .idx _ _ _ _, none⟩ :: _) _ _ _ _; first | refine L.idx ?_ | refine L.idxs ?_)
    | (show WOpsT _ (⟨_, .bin _ _ _, none⟩ :: _) _ _ _ _; first | refine L.add ?_ | refine L.bin ?_)
    | (show AK _ _ (.cond _ _ _) _ _ _ _; first | refine N.c1 ?_ | refine N.c2 ?_ | refine N.c3 ?_ | refine N.c4 ?_ | refine N.condD rfl (fun hcd => ?_) (fun hcd => ?_) | refine N.condB rfl (fun hcd => ?_) (fun hcd => ?_) | refine N.condU rfl ?_ ?_)
    | (show AK _ _ _ _ _ _ _; first | refine N.seq ?_ | refine N.block ?_ | refine N.skip ?_ | refine N.exit ?_ | refine N.ret ?_)
    | (show RK _ _ _ _ _ _ _; simp only [rk, rk0, reduceIte, Nat.reduceEqDiff])
    | (show WOpsT _ _ _ _ _ _; first | refine L.fad ?_ | refine L.fadd ?_ | refine L.st ?_ | refine L.zero ?_ | refine L.build ?_ | refine L.len ?_ | refine L.lenS ?_ | refine L.lenN ?_ | refine L.bsl ?_)
    | refine hQ _ _ _ rfl ?_
    | refine hQN _ _ _ rfl ?_)
  refine wB 43 ?_
  repeat' (first
    | refine N.regS fun K hK => ?_
    | refine N.dregS fun K hK => ?_
    | refine N.regN fun K hK => ?_
    | refine N.dregN fun K hK => ?_
    | simp only [T.mv, sm, AO.ev, put, lk, enter, reduceIte, Nat.reduceEqDiff, Nat.reduceAdd, Nat.reduceMul, Nat.reduceSub, Int.reduceNeg, Int.reduceToNat, upto, renB, setAll]
    | (refine T.nil ?_; (first | refine hK _ _ _ (by rfl) ?_ | refine hK _ _ _ ?_); (try simp only [keep, List.map, lk, reduceIte, Nat.reduceEqDiff, enter]); clear hK K)
    | (show WOpsT _ (⟨_, .ld _ _, none⟩ :: _) _ _ _ _; first | refine L.ld ?_ | refine L.ldd ?_ | refine L.ldn ?_ | refine L.lddn ?_)
    | (show WOpsT _ (⟨_, .idx _ _ _ _, none⟩ :: _) _ _ _ _; first | refine L.idx ?_ | refine L.idxs ?_)
    | (show WOpsT _ (⟨_, .bin _ _ _, none⟩ :: _) _ _ _ _; first | refine L.add ?_ | refine L.bin ?_)
    | (show AK _ _ (.cond _ _ _) _ _ _ _; first | refine N.c1 ?_ | refine N.c2 ?_ | refine N.c3 ?_ | refine N.c4 ?_ | refine N.condD rfl (fun hcd => ?_) (fun hcd => ?_) | refine N.condB rfl (fun hcd => ?_) (fun hcd => ?_) | refine N.condU rfl ?_ ?_)
    | (show AK _ _ _ _ _ _ _; first | refine N.seq ?_ | refine N.block ?_ | refine N.skip ?_ | refine N.exit ?_ | refine N.ret ?_)
    | (show RK _ _ _ _ _ _ _; simp only [rk, rk0, reduceIte, Nat.reduceEqDiff])
    | (show WOpsT _ _ _ _ _ _; first | refine L.fad ?_ | refine L.fadd ?_ | refine L.st ?_ | refine L.zero ?_ | refine L.build ?_ | refine L.len ?_ | refine L.lenS ?_ | refine L.lenN ?_ | refine L.bsl ?_)
    | refine hQ _ _ _ rfl ?_
    | refine hQN _ _ _ rfl ?_)
  refine N.weak (fr1 := [(0, .ptr 0 1 0 0), (45, .psl 2 1 0 6), (46, I 6), (47, I 0)]) (h1 := [mA 43, mB 43, ⟨1, 3, tabW.map row3⟩]) (Weaks.sel (by repeat (first | exact trivial | refine ⟨.rfl, ?_⟩ | refine ⟨.any, ?_⟩)) rfl) (N.now ?_)
  repeat' (first
    | refine N.regS fun K hK => ?_
    | refine N.dregS fun K hK => ?_
    | refine N.regN fun K hK => ?_
    | refine N.dregN fun K hK => ?_
    | simp only [T.mv, sm, AO.ev, put, lk, enter, reduceIte, Nat.reduceEqDiff, Nat.reduceAdd, Nat.reduceMul, Nat.reduceSub, Int.reduceNeg, Int.reduceToNat, upto, renB, setAll]
    | (refine T.nil ?_; (first | refine hK _ _ _ (by rfl) ?_ | refine hK _ _ _ ?_); (try simp only [keep, List.map, lk, reduceIte, Nat.reduceEqDiff, enter]); clear hK K)
    | (show WOpsT _ (⟨_, .ld _ _, none⟩ :: _) _ _ _ _; first | refine L.ld ?_ | refine L.ldd ?_ | refine L.ldn ?_ | refine L.lddn ?_)
    | (show WOpsT _ (⟨_, .idx _ _ _ _, none⟩ :: _) _ _ _ _; first | refine L.idx ?_ | refine L.idxs ?_)
    | (show WOpsT _ (⟨_, .bin _ _ _, none⟩ :: _) _ _ _ _; first | refine L.add ?_ | refine L.bin ?_)
    | (show AK _ _ (.cond _ _ _) _ _ _ _; first | refine N.c1 ?_ | refine N.c2 ?_ | refine N.c3 ?_ | refine N.c4 ?_ | refine N.condD rfl (fun hcd => ?_) (fun hcd => ?_) | refine N.condB rfl (fun hcd => ?_) (fun hcd => ?_) | refine N.condU rfl ?_ ?_)
    | (show AK _ _ _ _ _ _ _; first | refine N.seq ?_ | refine N.block ?_ | refine N.skip ?_ | refine N.exit ?_ | refine N.ret ?_)
    | (show RK _ _ _ _ _ _ _; simp only [rk, rk0, reduceIte, Nat.reduceEqDiff])
    | (show WOpsT _ _ _ _ _ _; first | refine L.fad ?_ | refine L.fadd ?_ | refine L.st ?_ | refine L.zero ?_ | refine L.build ?_ | refine L.len ?_ | refine L.lenS ?_ | refine L.lenN ?_ | refine L.bsl ?_)
    | refine hQ _ _ _ rfl ?_
    | refine hQN _ _ _ rfl ?_)
  refine N.loop (σ := Nat) (fun i => [(0, .ptr 0 1 0 0), (45, .psl 2 1 0 6), (46, I 6), (47, I i)]) (fun i => [mA (43 + i), mB (43 + i), ⟨1, 3, tabW.map row3⟩]) (fun i => i ≤ 6) (fun i => 6 - i) 0 (by omega) (Weaks.sel (by repeat (first | exact trivial | refine ⟨.rfl, ?_⟩ | refine ⟨.any, ?_⟩)) rfl) fun i hi R hC => ?_
  by_cases hil : i < 6
  · have e3 : 0 + (i : Int).toNat = i := by omega
    obtain ⟨p, hp⟩ : ∃ p, tabW[i]? = some p := ⟨tabW[i]'hil, List.getElem?_eq_getElem hil⟩
    have hrow : (tabW.map row3)[i]? = some (row3 p) := by rw [List.getElem?_map, hp]; rfl
    have hst : stdL[43 + i]? = some [(p.1, 7, [rdM 0 5 [⟨24, 0, p.2.2, p.2.1⟩], noM [twoM 23 7 5]])] := by
      have : ∀ j, j < 6 → ∀ q, tabW[j]? = some q → stdL[43 + j]? = some [(q.1, 7, [rdM 0 5 [⟨24, 0, q.2.2, q.2.1⟩], noM [twoM 23 7 5]])] := by
        intro j hj q hq
        match j, hj with
        | 0, _ => cases hq; rfl
        | 1, _ => cases hq; rfl
        | 2, _ => cases hq; rfl
        | 3, _ => cases hq; rfl
        | 4, _ => cases hq; rfl
        | 5, _ => cases hq; rfl
      exact this i hil p hp
    have hj := addS2 (43 + i) (by omega) p.1 7 1 0 5 0 0 0 [⟨24, 0, p.2.2, p.2.1⟩] [twoM 23 7 5] 1 1
    repeat' (first
      | rw [e3]
      | (show WOpsT _ (⟨_, .ld _ _, none⟩ :: _) _ _ _ _; refine T.ldn rfl rfl rfl hrow (Nat.le_of_ble_eq_true rfl) ?_)
      | rw [rows_renA]
      | refine N.regS fun K hK => ?_
      | refine N.dregS fun K hK => ?_
      | refine N.regN fun K hK => ?_
      | refine N.dregN fun K hK => ?_
      | simp only [T.mv, sm, AO.ev, put, lk, enter, reduceIte, Nat.reduceEqDiff, Nat.reduceAdd, Nat.reduceMul, Nat.reduceSub, Int.reduceNeg, Int.reduceToNat, upto, renB, setAll]
      | (refine T.nil ?_; (first | refine hK _ _ _ (by rfl) ?_ | refine hK _ _ _ ?_); (try simp only [keep, List.map, lk, reduceIte, Nat.reduceEqDiff, enter]); clear hK K)
      | (show WOpsT _ (⟨_, .call _ _, none⟩ :: _) _ _ _ _; first | refine T.cP [4] e148 ((rdP_ok 0 5 [⟨24, 0, p.2.2, p.2.1⟩] 1)) ?_ | refine T.call0 e185 rfl ((two_ok 23 7 5)) ?_ | refine T.cP [5] e184 ((noP_ok [twoM 23 7 5] 1)) ?_ | refine T.cP [0, 1, 6, 4, 5] e183 (hj) ?_)
      | (show WOpsT _ (⟨_, .ld _ _, none⟩ :: _) _ _ _ _; first | refine L.ld ?_ | refine L.ldd ?_ | refine L.ldn ?_ | refine L.lddn ?_)
      | (show WOpsT _ (⟨_, .idx _ _ _ _, none⟩ :: _) _ _ _ _; first | refine L.idx ?_ | refine L.idxs ?_)
      | (show WOpsT _ (⟨_, .bin _ _ _, none⟩ :: _) _ _ _ _; first | refine L.add ?_ | refine L.bin ?_)
      | (show AKW _ _ _ _ _ _ _; first | refine N.now ?_)
      | (show AK _ _ (.cond _ _ _) _ _ _ _; first | refine N.c1 ?_ | refine N.c2 ?_ | refine N.c3 ?_ | refine N.c4 ?_ | refine N.condD rfl (fun hcd => ?_) (fun hcd => ?_) | refine N.condB rfl (fun hcd => ?_) (fun hcd => ?_) | refine N.condU rfl ?_ ?_)
      | (show AK _ _ _ _ _ _ _; first | refine N.seq ?_ | refine N.block ?_ | refine N.skip ?_ | refine N.exit ?_ | refine N.ret ?_)
      | (show RK _ _ _ _ _ _ _; simp only [rk, rk0, reduceIte, Nat.reduceEqDiff])
      | (show WOpsT _ _ _ _ _ _; first | refine L.fad ?_ | refine L.fadd ?_ | refine L.st ?_ | refine L.zero ?_ | refine L.build ?_ | refine L.len ?_ | refine L.lenS ?_ | refine L.lenN ?_ | refine L.bsl ?_)
      | refine hQ _ _ _ rfl ?_
      | refine hQN _ _ _ rfl ?_)
    exact hC _ _ (i + 1) (by omega) (by omega) (Weaks.gc [0, 1, 2] 2 rfl (by repeat (first | exact trivial | refine ⟨.rfl, ?_⟩ | refine ⟨.any, ?_⟩)) (by rw [show 43 + (i + 1) = 43 + i + 1 from rfl, mA_succ hst, mB_succ hst]; show [_, _, _] = [_, outB _ [0, 1, 2] 2 ⟨_, 4, (number 0 (memR (43 + i))).map inC ++ [_]⟩, _]; rw [outB_in (x := insN (number 0 (memR (43 + i))) p.1 7 ([rdM 0 5 [⟨24, 0, p.2.2, p.2.1⟩], noM [twoM 23 7 5]])) rfl]; rfl))
  · obtain rfl : i = 6 := by omega
    repeat' (first
      | refine N.regS fun K hK => ?_
      | refine N.dregS fun K hK => ?_
      | refine N.regN fun K hK => ?_
      | refine N.dregN fun K hK => ?_
      | simp only [T.mv, sm, AO.ev, put, lk, enter, reduceIte, Nat.reduceEqDiff, Nat.reduceAdd, Nat.reduceMul, Nat.reduceSub, Int.reduceNeg, Int.reduceToNat, upto, renB, setAll]
      | (refine T.nil ?_; (first | refine hK _ _ _ (by rfl) ?_ | refine hK _ _ _ ?_); (try simp only [keep, List.map, lk, reduceIte, Nat.reduceEqDiff, enter]); clear hK K)
      | (show WOpsT _ (⟨_, .ld _ _, none⟩ :: _) _ _ _ _; first | refine L.ld ?_ | refine L.ldd ?_ | refine L.ldn ?_ | refine L.lddn ?_)
      | (show WOpsT _ (⟨_, .idx _ _ _ _, none⟩ :: _) _ _ _ _; first | refine L.idx ?_ | refine L.idxs ?_)
      | (show WOpsT _ (⟨_, .bin _ _ _, none⟩ :: _) _ _ _ _; first | refine L.add ?_ | refine L.bin ?_)
      | (show AKW _ _ _ _ _ _ _; first | refine N.now ?_)
      | (show AK _ _ (.cond _ _ _) _ _ _ _; first | refine N.c1 ?_ | refine N.c2 ?_ | refine N.c3 ?_ | refine N.c4 ?_ | refine N.condD rfl (fun hcd => ?_) (fun hcd => ?_) | refine N.condB rfl (fun hcd => ?_) (fun hcd => ?_) | refine N.condU rfl ?_ ?_)
      | (show AK _ _ _ _ _ _ _; first | refine N.seq ?_ | refine N.block ?_ | refine N.skip ?_ | refine N.exit ?_ | refine N.ret ?_)
      | (show RK _ _ _ _ _ _ _; simp only [rk, rk0, reduceIte, Nat.reduceEqDiff])
      | (show WOpsT _ _ _ _ _ _; first | refine L.fad ?_ | refine L.fadd ?_ | refine L.st ?_ | refine L.zero ?_ | refine L.build ?_ | refine L.len ?_ | refine L.lenS ?_ | refine L.lenN ?_ | refine L.bsl ?_)
      | refine hQ _ _ _ rfl ?_
      | refine hQN _ _ _ rfl ?_)
    exact WS.gc [0, 1] 0 rfl (by show [mA 49, mB 49] = [outB _ [0, 1] 0 (mA 49), outB _ _ _ (mB 49)]; rw [outB_mB]; rfl) .rfl
end Go.Proofs.Ytjmmompbmjhkpaa.Calc

namespace Go.Proofs.Ytjmmompbmjhkpaa.Calc
open Go Code
set_option linter.unusedSimpArgs false
set_option linter.unusedVariables false
set_option maxRecDepth 20000
set_option maxHeartbeats 4000000
attribute [local irreducible] WOpsT AW AK RK AKW UK UC
theorem answers_ok (lo hi : Int) : FnE Try.prog 150 [I lo, I hi] [] (.sl 4 ((answersM lo hi).map cyC)) [] := by
  refine N.fn Try.func150 k150 lb q150 fun Q hQ hQN => ?_
  rw [c150]
  repeat' (first
    | refine N.regS fun K hK => ?_
    | refine N.dregS fun K hK => ?_
    | refine N.regN fun K hK => ?_
    | refine N.dregN fun K hK => ?_
    | simp only [T.mv, sm, AO.ev, put, lk, enter, reduceIte, Nat.reduceEqDiff, Nat.reduceAdd, Nat.reduceMul, Nat.reduceSub, Int.reduceNeg, Int.reduceToNat, upto, renB, setAll]
    | (refine T.nil ?_; (first | refine hK _ _ _ (by rfl) ?_ | refine hK _ _ _ ?_); (try simp only [keep, List.map, lk, reduceIte, Nat.reduceEqDiff, enter]); clear hK K)
    | (show WOpsT _ (⟨_, .call _ _, none⟩ :: _) _ _ _ _; first | refine T.call0 e185 rfl ((two_ok 21 5 7)) ?_ | refine T.call0 e185 rfl ((two_ok 20 5 7)) ?_ | refine T.cP [0] e184 ((noP_ok [twoM 21 5 7] 1)) ?_ | refine T.cP [1] e187 ((wrP_ok 4 5 [twoM 20 5 7] 1)) ?_ | refine T.call0 e187 rfl ((wrN_ok 4 5)) ?_ | refine T.cP [2] e187 ((wrP_ok 4 4 [⟨16, 0, 0, 4⟩] 1)) ?_ | refine T.call0 e148 rfl ((rdN_ok lo 5)) ?_ | refine T.callN e149 rfl ((jump_ok 7)) (by simp) ?_ | refine T.cP [3] e148 ((rdP_ok hi 6 (jumpM 7) 2)) ?_)
    | (show AKW _ _ _ _ _ _ _; first | refine N.now ?_)
    | (show AK _ _ _ _ _ _ _; first | refine N.seq ?_ | refine N.ret ?_)
    | (show RK _ _ _ _ _ _ _; simp only [rk, rk0, reduceIte, Nat.reduceEqDiff])
    | (show WOpsT _ _ _ _ _ _; first | refine L.build ?_ | refine L.bsl ?_)
    | refine hQ _ _ _ rfl ?_
    | refine hQN _ _ _ rfl ?_)
  exact WS.drop (n := 2) rfl rfl
def resM : List Cyc := [rdM 10 5 [], rdM 11 6 [twoM 18 7 5, twoM 19 7 6, ⟨2, 3, 0, 255⟩]]
theorem stdCpu_ok : FnE Try.prog 78 [] [] (.agg (cpC stdM)) [] := by
  refine N.fn Try.func78 k78 lb q78 fun Q hQ hQN => ?_
  rw [c78]
  repeat' (first
    | (show AKW _ _ (.seq (.reg (⟨some 3, _, _⟩ :: _) _) _) _ _ _ _; refine N.now ?_)
    | (show AKW _ _ (.seq (.reg (⟨some 5, _, _⟩ :: _) _) _) _ _ _ _; refine N.now ?_)
    | simp only [renB_mB]
    | refine N.regS fun K hK => ?_
    | refine N.dregS fun K hK => ?_
    | refine N.regN fun K hK => ?_
    | refine N.dregN fun K hK => ?_
    | simp only [T.mv, sm, AO.ev, put, lk, enter, reduceIte, Nat.reduceEqDiff, Nat.reduceAdd, Nat.reduceMul, Nat.reduceSub, Int.reduceNeg, Int.reduceToNat, upto, renB, setAll]
    | (refine T.nil ?_; (first | refine hK _ _ _ (by rfl) ?_ | refine hK _ _ _ ?_); (try simp only [keep, List.map, lk, reduceIte, Nat.reduceEqDiff, enter]); clear hK K)
    | (show WOpsT _ (⟨_, .call _ _, none⟩ :: _) _ _ _ _; first | refine T.cP [1] e145 (memory_ok) ?_)
    | (show WOpsT _ (⟨_, .ld _ _, none⟩ :: _) _ _ _ _; first | refine L.ld ?_ | refine L.ldd ?_)
    | (show AK _ _ _ _ _ _ _; first | refine N.seq ?_ | refine N.ret ?_)
    | (show RK _ _ _ _ _ _ _; simp only [rk, rk0, reduceIte, Nat.reduceEqDiff])
    | (show WOpsT _ _ _ _ _ _; first | refine L.fad ?_ | refine L.fadd ?_ | refine L.nilc ?_ | refine L.nilcd ?_ | refine T.nilcf rfl ?_ | refine T.nilci rfl ?_ | refine L.st ?_ | refine L.new ?_ | refine L.zero ?_ | refine L.build ?_ | refine L.bsl ?_)
    | refine hQ _ _ _ rfl ?_
    | refine hQN _ _ _ rfl ?_)
  refine N.weak (fr1 := [(0, .ptr 0 1 0 0), (1, .ptr 1 1 0 0)]) (h1 := [_, mkA 2 (number 0 (memR 20)), mB 20]) (Weaks.sel ⟨.rfl, .rfl, trivial⟩ (by show [_, _, _] = [_, renB [1, 2] (mA 20), renB [1, 2] (mB 20)]; rw [renB_mB]; rfl)) (N.now ?_)
  repeat' (first
    | simp only [renB_mB]
    | refine N.regS fun K hK => ?_
    | refine N.dregS fun K hK => ?_
    | refine N.regN fun K hK => ?_
    | refine N.dregN fun K hK => ?_
    | simp only [T.mv, sm, AO.ev, put, lk, enter, reduceIte, Nat.reduceEqDiff, Nat.reduceAdd, Nat.reduceMul, Nat.reduceSub, Int.reduceNeg, Int.reduceToNat, upto, renB, setAll]
    | (refine T.nil ?_; (first | refine hK _ _ _ (by rfl) ?_ | refine hK _ _ _ ?_); (try simp only [keep, List.map, lk, reduceIte, Nat.reduceEqDiff, enter]); clear hK K)
    | (show WOpsT _ (⟨_, .call _ _, none⟩ :: _) _ _ _ _; first | refine T.cP [1, 2] e146 (alone_ok) ?_)
    | (show WOpsT _ (⟨_, .ld _ _, none⟩ :: _) _ _ _ _; first | refine L.ld ?_ | refine L.ldd ?_)
    | (show AK _ _ _ _ _ _ _; first | refine N.seq ?_ | refine N.ret ?_)
    | (show RK _ _ _ _ _ _ _; simp only [rk, rk0, reduceIte, Nat.reduceEqDiff])
    | (show WOpsT _ _ _ _ _ _; first | refine L.fad ?_ | refine L.fadd ?_ | refine L.nilc ?_ | refine L.nilcd ?_ | refine T.nilcf rfl ?_ | refine T.nilci rfl ?_ | refine L.st ?_ | refine L.new ?_ | refine L.zero ?_ | refine L.build ?_ | refine L.bsl ?_)
    | refine hQ _ _ _ rfl ?_
    | refine hQN _ _ _ rfl ?_)
  refine N.weak (fr1 := [(0, .ptr 0 1 0 0), (1, .ptr 1 1 0 0)]) (h1 := [_, mkA 2 (number 0 (memR 39)), mB 39]) (Weaks.sel ⟨.rfl, .rfl, trivial⟩ (by show [_, _, _] = [_, renB [1, 2] (mA 39), renB [1, 2] (mB 39)]; rw [renB_mB]; rfl)) (N.now ?_)
  repeat' (first
    | simp only [renB_mB]
    | refine N.regS fun K hK => ?_
    | refine N.dregS fun K hK => ?_
    | refine N.regN fun K hK => ?_
    | refine N.dregN fun K hK => ?_
    | simp only [T.mv, sm, AO.ev, put, lk, enter, reduceIte, Nat.reduceEqDiff, Nat.reduceAdd, Nat.reduceMul, Nat.reduceSub, Int.reduceNeg, Int.reduceToNat, upto, renB, setAll]
    | (refine T.nil ?_; (first | refine hK _ _ _ (by rfl) ?_ | refine hK _ _ _ ?_); (try simp only [keep, List.map, lk, reduceIte, Nat.reduceEqDiff, enter]); clear hK K)
    | (show WOpsT _ (⟨_, .call _ _, none⟩ :: _) _ _ _ _; first | refine T.cP [1, 2] e147 (ways_ok) ?_)
    | (show WOpsT _ (⟨_, .ld _ _, none⟩ :: _) _ _ _ _; first | refine L.ld ?_ | refine L.ldd ?_)
    | (show AK _ _ _ _ _ _ _; first | refine N.seq ?_ | refine N.ret ?_)
    | (show RK _ _ _ _ _ _ _; simp only [rk, rk0, reduceIte, Nat.reduceEqDiff])
    | (show WOpsT _ _ _ _ _ _; first | refine L.fad ?_ | refine L.fadd ?_ | refine L.nilc ?_ | refine L.nilcd ?_ | refine T.nilcf rfl ?_ | refine T.nilci rfl ?_ | refine L.st ?_ | refine L.new ?_ | refine L.zero ?_ | refine L.build ?_ | refine L.bsl ?_)
    | refine hQ _ _ _ rfl ?_
    | refine hQN _ _ _ rfl ?_)
  refine N.weak (fr1 := [(0, .ptr 0 1 0 0), (1, .ptr 1 1 0 0)]) (h1 := [_, mkA 2 (number 0 (memR 49)), mB 49]) (Weaks.sel ⟨.rfl, .rfl, trivial⟩ (by show [_, _, _] = [_, renB [1, 2] (mA 49), renB [1, 2] (mB 49)]; rw [renB_mB]; rfl)) (N.now ?_)
  repeat' (first
    | (show WOpsT _ (⟨_, .app _ _ _ _, none⟩ :: _) _ _ _ _; refine T.app rfl rfl rfl ⟨by decide, by decide⟩ ⟨rfl, rfl, rfl, by decide⟩ ?_)
    | refine N.regS fun K hK => ?_
    | refine N.dregS fun K hK => ?_
    | refine N.regN fun K hK => ?_
    | refine N.dregN fun K hK => ?_
    | simp only [T.mv, sm, AO.ev, put, lk, enter, reduceIte, Nat.reduceEqDiff, Nat.reduceAdd, Nat.reduceMul, Nat.reduceSub, Int.reduceNeg, Int.reduceToNat, upto, renB, setAll]
    | (refine T.nil ?_; (first | refine hK _ _ _ (by rfl) ?_ | refine hK _ _ _ ?_); (try simp only [keep, List.map, lk, reduceIte, Nat.reduceEqDiff, enter]); clear hK K)
    | (show WOpsT _ (⟨_, .call _ _, none⟩ :: _) _ _ _ _; first | refine T.call0 e148 rfl ((rdN_ok 10 5)) ?_ | refine T.callN e149 rfl ((jump_ok 7)) (by simp) ?_ | refine T.cP [3] e148 ((rdQ_ok 11 6 [twoM 18 7 5, twoM 19 7 6, ⟨2, 3, 0, 255⟩] 3)) ?_)
    | (show WOpsT _ (⟨_, .ld _ _, none⟩ :: _) _ _ _ _; first | refine L.ld ?_ | refine L.ldd ?_)
    | (show AK _ _ _ _ _ _ _; first | refine N.seq ?_ | refine N.ret ?_)
    | (show RK _ _ _ _ _ _ _; simp only [rk, rk0, reduceIte, Nat.reduceEqDiff])
    | (show WOpsT _ _ _ _ _ _; first | refine L.fad ?_ | refine L.fadd ?_ | refine L.nilc ?_ | refine L.nilcd ?_ | refine T.nilcf rfl ?_ | refine T.nilci rfl ?_ | refine L.st ?_ | refine L.new ?_ | refine L.zero ?_ | refine L.build ?_ | refine L.bsl ?_)
    | refine hQ _ _ _ rfl ?_
    | refine hQN _ _ _ rfl ?_)
  refine N.weak (fr1 := [(0, .ptr 0 1 0 0), (1, .ptr 1 1 0 0), (2, .sl 4 (resM.map cyC))]) (h1 := [⟨1, 5, [[.c (.string ⟨#[]⟩), .c (.slice none 0 0), .c (.slice none 0 0), .c (.slice none 0 0), .c (.slice none 0 0)]]⟩, ⟨1, 1, [[.sl 4 ((number 0 (memR 49)).map inC)]]⟩]) (Weaks.gc [0, 1] 2 rfl ⟨.rfl, .rfl, .rfl, trivial⟩ ?_) (N.now ?_)
  · show [_, _] = [_, (⟨1, 1, [[out _ [0, 1] 2 (.psl 2 (number 0 (memR 49)).length 0 (number 0 (memR 49)).length)]]⟩ : Blk)]
    rw [out_rowsK (f := inC) (l := number 0 (memR 49)) rfl rfl (Nat.le_refl _)]; rfl
  repeat' (first
    | refine N.regS fun K hK => ?_
    | refine N.dregS fun K hK => ?_
    | refine N.regN fun K hK => ?_
    | refine N.dregN fun K hK => ?_
    | simp only [T.mv, sm, AO.ev, put, lk, enter, reduceIte, Nat.reduceEqDiff, Nat.reduceAdd, Nat.reduceMul, Nat.reduceSub, Int.reduceNeg, Int.reduceToNat, upto, renB, setAll]
    | (refine T.nil ?_; (first | refine hK _ _ _ (by rfl) ?_ | refine hK _ _ _ ?_); (try simp only [keep, List.map, lk, reduceIte, Nat.reduceEqDiff, enter]); clear hK K)
    | (show WOpsT _ (⟨_, .call _ _, none⟩ :: _) _ _ _ _; first | refine T.call0 e150 rfl ((answers_ok 6 7)) ?_ | refine T.call0 e150 rfl ((answers_ok 8 9)) ?_)
    | (show WOpsT _ (⟨_, .ld _ _, none⟩ :: _) _ _ _ _; first | refine L.ld ?_ | refine L.ldd ?_)
    | (show AKW _ _ _ _ _ _ _; first | refine N.now ?_)
    | (show AK _ _ _ _ _ _ _; first | refine N.seq ?_ | refine N.ret ?_)
    | (show RK _ _ _ _ _ _ _; simp only [rk, rk0, reduceIte, Nat.reduceEqDiff])
    | (show WOpsT _ _ _ _ _ _; first | refine L.fad ?_ | refine L.fadd ?_ | refine L.nilc ?_ | refine L.nilcd ?_ | refine T.nilcf rfl ?_ | refine T.nilci rfl ?_ | refine L.st ?_ | refine L.new ?_ | refine L.zero ?_ | refine L.build ?_ | refine L.bsl ?_)
    | refine hQ _ _ _ rfl ?_
    | refine hQN _ _ _ rfl ?_)
  exact WS.drop (n := 0) rfl rfl
end Go.Proofs.Ytjmmompbmjhkpaa.Calc

namespace Go.Proofs.Ytjmmompbmjhkpaa.Calc
open Go Code
set_option linter.unusedSimpArgs false
set_option linter.unusedVariables false
set_option maxRecDepth 20000
set_option maxHeartbeats 4000000
attribute [local irreducible] WOpsT AW AK RK AKW UK UC
theorem stdM_sml : SmlP stdM := by
  unfold SmlP SmlC
  decide +kernel
theorem cores_ok : FnE Try.prog 70 [] [] (.c (.bool true)) [] := by
  refine N.fn Try.func70 k70 lb q70 fun Q hQ hQN => ?_
  rw [c70]
  repeat' (first
    | refine N.regS fun K hK => ?_
    | refine N.dregS fun K hK => ?_
    | refine N.regN fun K hK => ?_
    | refine N.dregN fun K hK => ?_
    | simp only [T.mv, sm, AO.ev, put, lk, enter, reduceIte, Nat.reduceEqDiff, Nat.reduceAdd, Nat.reduceMul, Nat.reduceSub, Int.reduceNeg, Int.reduceToNat, upto, renB, setAll]
    | (refine T.nil ?_; (first | refine hK _ _ _ (by rfl) ?_ | refine hK _ _ _ ?_); (try simp only [keep, List.map, lk, reduceIte, Nat.reduceEqDiff, enter]); clear hK K)
    | (show WOpsT _ (⟨_, .call _ _, none⟩ :: _) _ _ _ _; first | refine T.call0 e81 rfl (coreNew_ok) ?_)
    | (show WOpsT _ (⟨_, .ld _ _, none⟩ :: _) _ _ _ _; first | refine L.ld ?_ | refine L.ldd ?_)
    | (show WOpsT _ (⟨_, .idx _ _ _ _, none⟩ :: _) _ _ _ _; first | refine L.idxa ?_ | refine L.idxd ?_)
    | (show WOpsT _ (⟨_, .bin _ _ _, none⟩ :: _) _ _ _ _; first | refine L.bin ?_)
    | (show WOpsT _ (⟨_, _, some (_, true)⟩ :: _) _ _ _ _; first | refine L.goT ?_ | refine L.paT ?_ | refine L.go ?_ | refine L.pass ?_ | refine T.pU rfl ?_ | refine T.gT rfl (fun hgd => ?_) (fun hgd => ?_))
    | (show WOpsT _ (⟨_, .pick _ _ _, none⟩ :: _) _ _ _ _; first | refine L.pkT ?_ | refine L.pkF ?_ | refine L.pickT ?_ | refine L.pickF ?_ | refine L.pickB ?_ | refine T.pkD rfl (fun hgd => ?_) (fun hgd => ?_))
    | (show AKW _ _ _ _ _ _ _; first | refine N.now ?_)
    | (show AK _ _ _ _ _ _ _; first | refine N.seq ?_ | refine N.ret ?_)
    | (show RK _ _ _ _ _ _ _; simp only [rk, rk0, reduceIte, Nat.reduceEqDiff])
    | (show WOpsT _ _ _ _ _ _; first | refine L.fad ?_ | refine L.fadd ?_ | refine L.st ?_ | refine L.zero ?_)
    | refine hQ _ _ _ rfl ?_
    | refine hQN _ _ _ rfl ?_)
  exact WS.bool rfl (by decide)
section
variable {P : Program} {rest : List AOper} {tr : Tr} {fr : Fr} {h : List Blk} {K : KT} {d : Option Nat}
end
theorem co_b (r : Nat → Int) (v : Int) : spl (spl [I 0, I 0, I 0, I 0, I 0, I 0, I 0, I 0, I 0, I 0, I 0, .c (.bool false)] 9 [I v]) 0 (ri r) = coA r v 0 false := rfl
theorem cp_mren (c : Cpu) (ks : List Nat) : (cpC c).map (ren ks) = cpC c := rfl
theorem cp_z (c : Cpu) : spl [.c (.string ⟨#[]⟩), .c (.slice none 0 0), .c (.slice none 0 0), .c (.slice none 0 0), .c (.slice none 0 0)] 0 (cpC c) = cpC c := rfl
end Go.Proofs.Ytjmmompbmjhkpaa.Calc

namespace Go.Proofs.Ytjmmompbmjhkpaa.Calc
open Go Code
set_option linter.unusedSimpArgs false
set_option linter.unusedVariables false
set_option maxRecDepth 20000
set_option maxHeartbeats 4000000
attribute [local irreducible] WOpsT AW AK RK AKW UK UC memF
def runsM : Nat → Core → (Nat → Int) → Core × (Nat → Int)
  | 0, k, f => (k, f)
  | n + 1, k, f => runsM n (runM stdM k f).1 (runM stdM k f).2.2
theorem runs_c (n : Nat) (hn : n ≤ 1000) (k0 : Core) (f0 : Nat → Int) (hf0 : FB f0) : FnE Try.prog 85 [.agg (coC k0), .ifc 98 (.ptr 0 1 0 0), I n] [fA, fB f0] (.agg (coC (runsM n k0 f0).1)) [fA, fB (runsM n k0 f0).2] := by
  have hcpu := stdCpu_ok
  have hrun : ∀ k f, FB f → FnE Try.prog 80 [.agg (cpC stdM), .agg (coC k), .ifc 98 (.ptr 0 1 0 0)] [fA, fB f] (.tup [.agg (coC (runM stdM k f).1), .sl 3 ((runM stdM k f).2.1.map buC)]) [fA, fB (runM stdM k f).2.2] := fun k f hf => run_c stdM stdM_sml k f hf
  have hfb : ∀ k f, FB f → FB (runM stdM k f).2.2 := fun k f hf => runFrom_fb stdM 20 k [] f hf
  generalize hfin : runsM n k0 f0 = F
  have hstep : ∀ m k f, runsM (m + 1) k f = runsM m (runM stdM k f).1 (runM stdM k f).2.2 := fun _ _ _ => rfl
  have hz : ∀ k f, runsM 0 k f = (k, f) := fun _ _ => rfl
  generalize runsM = RS at *
  generalize runM stdM = RN at *
  generalize stdM = c at *
  refine N.fn Try.func85 k85 lb q85 fun Q hQ hQN => ?_
  rw [c85]
  obtain ⟨r0, op0, a0, n0⟩ := k0
  rw [show coC ⟨r0, op0, a0, n0⟩ = coA r0 op0 a0 n0 from rfl]
  repeat' (first
    | rw [co_mren]
    | rw [co_co]
    | rw [co_t12]
    | rw [co_t9]
    | rw [cp_t5]
    | rw [co_z]
    | rw [bu_mren]
    | rw [bu_t3]
    | rw [bu_z]
    | rw [bu_data]
    | simp only [renB_fA, renB_fB]
    | rw [cp_mren]
    | rw [cp_z]
    | rw [ri_t9]
    | rw [ri_mren]
    | rw [co_r]
    | rw [co_b]
    | refine N.regS fun K hK => ?_
    | refine N.dregS fun K hK => ?_
    | refine N.regN fun K hK => ?_
    | refine N.dregN fun K hK => ?_
    | simp only [T.mv, sm, AO.ev, put, lk, enter, reduceIte, Nat.reduceEqDiff, Nat.reduceAdd, Nat.reduceMul, Nat.reduceSub, Int.reduceNeg, Int.reduceToNat, upto, renB, setAll]
    | (refine T.nil ?_; (first | refine hK _ _ _ (by rfl) ?_ | refine hK _ _ _ ?_); (try simp only [keep, List.map, lk, reduceIte, Nat.reduceEqDiff, enter]); clear hK K)
    | (show WOpsT _ (⟨_, .call _ _, none⟩ :: _) _ _ _ _; first | refine T.call0 e78 rfl (hcpu) ?_)
    | (show WOpsT _ (⟨_, .ld _ _, none⟩ :: _) _ _ _ _; first | refine L.ldn ?_ | refine L.lddn ?_)
    | (show WOpsT _ (⟨_, .bin _ _ _, none⟩ :: _) _ _ _ _; first | refine L.add ?_ | refine L.bin ?_)
    | (show AKW _ _ _ _ _ _ _; first | refine N.now ?_)
    | (show AK _ _ (.cond _ _ _) _ _ _ _; first | refine N.c1 ?_ | refine N.c2 ?_ | refine N.c3 ?_ | refine N.c4 ?_ | refine N.condD rfl (fun hcd => ?_) (fun hcd => ?_) | refine N.condB rfl (fun hcd => ?_) (fun hcd => ?_) | refine N.condU rfl ?_ ?_)
    | (show AK _ _ _ _ _ _ _; first | refine N.seq ?_ | refine N.block ?_ | refine N.skip ?_ | refine N.exit ?_ | refine N.ret ?_)
    | (show RK _ _ _ _ _ _ _; simp only [rk, rk0, reduceIte, Nat.reduceEqDiff])
    | (show WOpsT _ _ _ _ _ _; first | refine L.ext ?_ | refine L.st ?_ | refine L.new ?_ | refine L.zero ?_)
    | refine hQ _ _ _ rfl ?_
    | refine hQN _ _ _ rfl ?_)
  refine N.loop (σ := Nat × Core × (Nat → Int)) (fun s => [(1, .ifc 98 (.ptr 0 1 0 0)), (3, .ptr 2 1 0 0), (6, .ptr 3 1 0 0), (7, .ptr 4 1 0 0), (9, I n), (10, I s.1)]) (fun s => [fA, fB s.2.2, ⟨1, 12, [coC s.2.1]⟩, ⟨1, 12, [[I 0, I 0, I 0, I 0, I 0, I 0, I 0, I 0, I 0, I 0, I 0, .c (.bool false)]]⟩, ⟨1, 5, [cpC c]⟩]) (fun s => s.1 ≤ n ∧ FB s.2.2 ∧ RS (n - s.1) s.2.1 s.2.2 = F) (fun s => n - s.1) (0, ⟨r0, op0, a0, n0⟩, f0) ⟨Nat.zero_le _, hf0, hfin⟩ (Weaks.sel (by repeat (first | exact trivial | refine ⟨.rfl, ?_⟩ | refine ⟨.any, ?_⟩)) rfl) fun w hi R hC => ?_
  obtain ⟨i, k, f⟩ := w
  obtain ⟨hi, hf, hst⟩ := hi
  dsimp only at hi hf hst hC ⊢
  by_cases hil : i < n
  · have hr := hrun k f hf
    have hfb := hfb k f hf
    rw [show n - i = n - (i + 1) + 1 by omega, hstep] at hst
    generalize RN k f = q at *
    obtain ⟨k2, bs, f2⟩ := q
    obtain ⟨r1, op1, a1, n1⟩ := k
    obtain ⟨r2, op2, a2, n2⟩ := k2
    dsimp only [coC] at hr hst hfb
    rw [show coC ⟨r1, op1, a1, n1⟩ = coA r1 op1 a1 n1 from rfl]
    repeat' (first
      | rw [co_mren]
      | rw [co_co]
      | rw [co_t12]
      | rw [co_t9]
      | rw [cp_t5]
      | rw [co_z]
      | rw [bu_mren]
      | rw [bu_t3]
      | rw [bu_z]
      | rw [bu_data]
      | simp only [renB_fA, renB_fB]
      | rw [cp_mren]
      | rw [cp_z]
      | rw [ri_t9]
      | rw [ri_mren]
      | rw [co_r]
      | rw [co_b]
      | refine N.regS fun K hK => ?_
      | refine N.dregS fun K hK => ?_
      | refine N.regN fun K hK => ?_
      | refine N.dregN fun K hK => ?_
      | simp only [T.mv, sm, AO.ev, put, lk, enter, reduceIte, Nat.reduceEqDiff, Nat.reduceAdd, Nat.reduceMul, Nat.reduceSub, Int.reduceNeg, Int.reduceToNat, upto, renB, setAll]
      | (refine T.nil ?_; (first | refine hK _ _ _ (by rfl) ?_ | refine hK _ _ _ ?_); (try simp only [keep, List.map, lk, reduceIte, Nat.reduceEqDiff, enter]); clear hK K)
      | (show WOpsT _ (⟨_, .call _ _, none⟩ :: _) _ _ _ _; first | refine T.cP [0, 1] e80 (hr) ?_)
      | (show WOpsT _ (⟨_, .ld _ _, none⟩ :: _) _ _ _ _; first | refine L.ldn ?_ | refine L.lddn ?_)
      | (show WOpsT _ (⟨_, .bin _ _ _, none⟩ :: _) _ _ _ _; first | refine L.add ?_ | refine L.bin ?_)
      | (show AKW _ _ _ _ _ _ _; first | refine N.now ?_)
      | (show AK _ _ (.cond _ _ _) _ _ _ _; first | refine N.c1 ?_ | refine N.c2 ?_ | refine N.c3 ?_ | refine N.c4 ?_ | refine N.condD rfl (fun hcd => ?_) (fun hcd => ?_) | refine N.condB rfl (fun hcd => ?_) (fun hcd => ?_) | refine N.condU rfl ?_ ?_)
      | (show AK _ _ _ _ _ _ _; first | refine N.seq ?_ | refine N.block ?_ | refine N.skip ?_ | refine N.exit ?_ | refine N.ret ?_)
      | (show RK _ _ _ _ _ _ _; simp only [rk, rk0, reduceIte, Nat.reduceEqDiff])
      | (show WOpsT _ _ _ _ _ _; first | refine L.ext ?_ | refine L.st ?_ | refine L.new ?_ | refine L.zero ?_)
      | refine hQ _ _ _ rfl ?_
      | refine hQN _ _ _ rfl ?_)
    exact hC _ _ (i + 1, ⟨r2, op2, a2, n2⟩, f2) ⟨by dsimp only; omega, hfb, hst⟩ (by dsimp only; omega) (Weaks.gc [0, 1, 2, 3, 4] 1 rfl (by repeat (first | exact trivial | refine ⟨.rfl, ?_⟩ | refine ⟨.any, ?_⟩)) (by show [_, _, _, _, _] = [outB _ _ _ (renB [0, 1] fA), outB _ _ _ (renB [0, 1] (fB f2)), _, _, _]; rw [renB_fB, outB_fB]; rfl))
  · obtain rfl : i = n := by omega
    rw [Nat.sub_self, hz] at hst
    subst hst
    obtain ⟨r1, op1, a1, n1⟩ := k
    dsimp only at hQ hQN
    rw [show coC ⟨r1, op1, a1, n1⟩ = coA r1 op1 a1 n1 from rfl]
    repeat' (first
      | rw [co_mren]
      | rw [co_co]
      | rw [co_t12]
      | rw [co_t9]
      | rw [cp_t5]
      | rw [co_z]
      | rw [bu_mren]
      | rw [bu_t3]
      | rw [bu_z]
      | rw [bu_data]
      | simp only [renB_fA, renB_fB]
      | rw [cp_mren]
      | rw [cp_z]
      | rw [ri_t9]
      | rw [ri_mren]
      | rw [co_r]
      | rw [co_b]
      | refine N.regS fun K hK => ?_
      | refine N.dregS fun K hK => ?_
      | refine N.regN fun K hK => ?_
      | refine N.dregN fun K hK => ?_
      | simp only [T.mv, sm, AO.ev, put, lk, enter, reduceIte, Nat.reduceEqDiff, Nat.reduceAdd, Nat.reduceMul, Nat.reduceSub, Int.reduceNeg, Int.reduceToNat, upto, renB, setAll]
      | (refine T.nil ?_; (first | refine hK _ _ _ (by rfl) ?_ | refine hK _ _ _ ?_); (try simp only [keep, List.map, lk, reduceIte, Nat.reduceEqDiff, enter]); clear hK K)
      | (show WOpsT _ (⟨_, .ld _ _, none⟩ :: _) _ _ _ _; first | refine L.ldn ?_ | refine L.lddn ?_)
      | (show WOpsT _ (⟨_, .bin _ _ _, none⟩ :: _) _ _ _ _; first | refine L.add ?_ | refine L.bin ?_)
      | (show AKW _ _ _ _ _ _ _; first | refine N.now ?_)
      | (show AK _ _ (.cond _ _ _) _ _ _ _; first | refine N.c1 ?_ | refine N.c2 ?_ | refine N.c3 ?_ | refine N.c4 ?_ | refine N.condD rfl (fun hcd => ?_) (fun hcd => ?_) | refine N.condB rfl (fun hcd => ?_) (fun hcd => ?_) | refine N.condU rfl ?_ ?_)
      | (show AK _ _ _ _ _ _ _; first | refine N.seq ?_ | refine N.block ?_ | refine N.skip ?_ | refine N.exit ?_ | refine N.ret ?_)
      | (show RK _ _ _ _ _ _ _; simp only [rk, rk0, reduceIte, Nat.reduceEqDiff])
      | (show WOpsT _ _ _ _ _ _; first | refine L.ext ?_ | refine L.st ?_ | refine L.new ?_ | refine L.zero ?_)
      | refine hQ _ _ _ rfl ?_
      | refine hQN _ _ _ rfl ?_)
    exact WS.gc [0, 1] 1 rfl (by show [_, _] = [_, outB _ _ _ (fB f)]; rw [outB_fB]; rfl) .rfl
def progF (p : List Int) : Nat → Int := fun i => if 1024 ≤ i ∧ i < 1024 + p.length then p.getD (i - 1024) 0 else 0
def zeroF : Nat → Int := fun _ => 0
theorem zero_mem : List.replicate 65536 [V.c (.int .u8 0)] = bcells (memF zeroF) := by
  apply List.ext_getElem?
  intro j
  rw [List.getElem?_replicate, bcells_get]
  unfold memF zeroF
  by_cases hj : j < 65536
  · rw [if_pos hj, List.getElem?_map, List.getElem?_range hj]; rfl
  · rw [if_neg hj, List.getElem?_map, List.getElem?_eq_none (l := List.range 65536) (by simp; omega)]; rfl
theorem memF_getD (f : Nat → Int) (j : Nat) : (bcells (memF f))[j]? = if j < 65536 then some [.c (.int .u8 (f j))] else none := by
  rw [bcells_get]; unfold memF
  by_cases hj : j < 65536
  · rw [if_pos hj, List.getElem?_map, List.getElem?_range hj]; rfl
  · rw [if_neg hj, List.getElem?_map, List.getElem?_eq_none (l := List.range 65536) (by simp; omega)]; rfl
theorem copy_mem (p : List Int) (hp : p.length ≤ 1000) (n : Nat) (hn : n = 64512) : (bcells (memF zeroF)).take 1024 ++ ((bcells p).take p.length).take n ++ (bcells (memF zeroF)).drop (1024 + min ((bcells p).take p.length).length n) = bcells (memF (progF p)) := by
  subst hn
  have e1 : (bcells p).take p.length = bcells p := List.take_of_length_le (by rw [bcells_len]; omega)
  have e2 : (bcells p).take 64512 = bcells p := List.take_of_length_le (by rw [bcells_len]; omega)
  have e3 : (bcells (memF zeroF)).length = 65536 := by rw [bcells_len]; unfold memF; simp
  rw [e1, e2, bcells_len, Nat.min_eq_left (by omega)]
  apply List.ext_getElem?
  intro j
  rw [memF_getD]
  unfold progF
  by_cases h1 : j < 1024
  · rw [List.append_assoc, List.getElem?_append_left (by rw [List.length_take, e3]; omega), List.getElem?_take_of_lt h1, memF_getD, if_pos (by omega), if_pos (by omega), if_neg (by omega)]; rfl
  · have e4 : ((bcells (memF zeroF)).take 1024).length = 1024 := by rw [List.length_take, e3]; decide
    by_cases h2 : j < 1024 + p.length
    · rw [List.append_assoc, List.getElem?_append_right (by omega), e4, List.getElem?_append_left (by rw [bcells_len]; omega), bcells_get, if_pos (by omega), if_pos (by omega), List.getD_eq_getElem?_getD, List.getElem?_eq_getElem (by omega)]; rfl
    · rw [List.getElem?_append_right (by rw [List.length_append, e4, bcells_len]; omega), List.length_append, e4, bcells_len, List.getElem?_drop, memF_getD, if_neg (show ¬ (1024 ≤ j ∧ j < 1024 + p.length) by omega)]
      rw [show 1024 + p.length + (j - (1024 + p.length)) = j by omega]
      rfl
theorem co_b2 (r : Nat → Int) (v : Int) : spl (spl [I 0, I 0, I 0, I 0, I 0, I 0, I 0, I 0, I 0, I 0, I 0, .c (.bool false)] 0 (ri r)) 9 [I v] = coA r v 0 false := rfl
theorem ready0_c (p : List Int) (hp : p.length ≤ 1000) : FnE Try.prog 83 [.c (.slice none 0 0), .psl 0 1 0 p.length] [⟨1, 1, bcells p⟩] (.tup [.agg (coA (upd (regsOf []) 7 1024) (-1) 0 false), .ptr 1 1 0 0])
    [⟨1, 1, bcells p⟩, ⟨1, 1, [[.psl 2 1 0 65536]]⟩, fB (progF p)] := by
  have hg := registers_ok []
  generalize regsOf [] = r at *
  refine N.fn Try.func83 k83 lb q83 fun Q hQ hQN => ?_
  rw [c83]
  repeat' (first
    | refine N.regS fun K hK => ?_
    | refine N.dregS fun K hK => ?_
    | refine N.regN fun K hK => ?_
    | refine N.dregN fun K hK => ?_
    | simp only [T.mv, sm, AO.ev, put, lk, enter, reduceIte, Nat.reduceEqDiff, Nat.reduceAdd, Nat.reduceMul, Nat.reduceSub, Int.reduceNeg, Int.reduceToNat, upto, renB, setAll]
    | (refine T.nil ?_; (first | refine hK _ _ _ (by rfl) ?_ | refine hK _ _ _ ?_); (try simp only [keep, List.map, lk, reduceIte, Nat.reduceEqDiff, enter]); clear hK K)
    | (show WOpsT _ (⟨_, .ld _ _, none⟩ :: _) _ _ _ _; first | refine L.ld ?_ | refine L.ldd ?_ | refine L.ldn ?_ | refine L.lddn ?_)
    | (show WOpsT _ (⟨_, .idx _ _ _ _, none⟩ :: _) _ _ _ _; first | refine L.idxa ?_ | refine L.idxd ?_)
    | (show AK _ _ _ _ _ _ _; first | refine N.seq ?_ | refine N.ret ?_)
    | (show RK _ _ _ _ _ _ _; simp only [rk, rk0, reduceIte, Nat.reduceEqDiff])
    | (show WOpsT _ _ _ _ _ _; first | refine T.slcN rfl rfl rfl ?_ | refine L.fad ?_ | refine L.fadd ?_ | refine L.nilc ?_ | refine L.nilcd ?_ | refine T.nilcf rfl ?_ | refine T.nilci rfl ?_ | refine L.st ?_ | refine L.new ?_ | refine L.zero ?_ | refine L.build ?_ | refine T.mksl rfl rfl (by decide) ?_ | refine T.copy rfl rfl rfl ⟨rfl, rfl⟩ ?_ | refine T.slc rfl rfl rfl rfl ⟨rfl, rfl⟩ (by omega) ?_ | refine T.slcS rfl rfl rfl rfl (by omega) ?_)
    | refine hQ _ _ _ rfl ?_
    | refine hQN _ _ _ rfl ?_)
  refine N.weak (fr1 := [(0, .sl 1 (cells [])), (1, .psl 0 1 0 p.length), (4, .ptr 1 1 0 0)]) (Weaks.sel ⟨.nil, .rfl, .rfl, trivial⟩ rfl) (N.now ?_)
  repeat' (first
    | rw [co_mren]
    | rw [co_co]
    | rw [co_t12]
    | rw [co_t9]
    | rw [cp_t5]
    | rw [co_z]
    | rw [bu_mren]
    | rw [bu_t3]
    | rw [bu_z]
    | rw [bu_data]
    | simp only [renB_fA, renB_fB]
    | rw [cp_mren]
    | rw [cp_z]
    | rw [ri_t9]
    | rw [ri_mren]
    | rw [co_r]
    | rw [co_b]
    | rw [zero_mem]
    | (show WOpsT _ (⟨_, .copy _ _ _, none⟩ :: _) _ _ _ _; refine T.copy rfl rfl rfl ⟨rfl, rfl⟩ ?_)
    | rw [co_b2]
    | rw [co_reg _ _ _ _ _ 7 (by decide)]
    | refine N.regS fun K hK => ?_
    | refine N.dregS fun K hK => ?_
    | refine N.regN fun K hK => ?_
    | refine N.dregN fun K hK => ?_
    | simp only [T.mv, sm, AO.ev, put, lk, enter, reduceIte, Nat.reduceEqDiff, Nat.reduceAdd, Nat.reduceMul, Nat.reduceSub, Int.reduceNeg, Int.reduceToNat, upto, renB, setAll]
    | (refine T.nil ?_; (first | refine hK _ _ _ (by rfl) ?_ | refine hK _ _ _ ?_); (try simp only [keep, List.map, lk, reduceIte, Nat.reduceEqDiff, enter]); clear hK K)
    | (show WOpsT _ (⟨_, .call _ _, none⟩ :: _) _ _ _ _; first | refine T.call0 e53 rfl (hg) ?_)
    | (show WOpsT _ (⟨_, .ld _ _, none⟩ :: _) _ _ _ _; first | refine L.ld ?_ | refine L.ldd ?_ | refine L.ldn ?_ | refine L.lddn ?_)
    | (show WOpsT _ (⟨_, .idx _ _ _ _, none⟩ :: _) _ _ _ _; first | refine L.idxa ?_ | refine L.idxd ?_)
    | (show AKW _ _ _ _ _ _ _; first | refine N.now ?_)
    | (show AK _ _ _ _ _ _ _; first | refine N.seq ?_ | refine N.ret ?_)
    | (show RK _ _ _ _ _ _ _; simp only [rk, rk0, reduceIte, Nat.reduceEqDiff])
    | (show WOpsT _ _ _ _ _ _; first | refine T.slcN rfl rfl rfl ?_ | refine L.fad ?_ | refine L.fadd ?_ | refine L.nilc ?_ | refine L.nilcd ?_ | refine T.nilcf rfl ?_ | refine T.nilci rfl ?_ | refine L.st ?_ | refine L.new ?_ | refine L.zero ?_ | refine L.build ?_ | refine T.mksl rfl rfl (by decide) ?_ | refine T.copy rfl rfl rfl ⟨rfl, rfl⟩ ?_ | refine T.slc rfl rfl rfl rfl ⟨rfl, rfl⟩ (by omega) ?_ | refine T.slcS rfl rfl rfl rfl (by omega) ?_)
    | refine hQ _ _ _ rfl ?_
    | refine hQN _ _ _ rfl ?_)
  exact WS.gc [0, 3, 2] 0 rfl (by show [_, _, fB (progF p)] = [outB _ _ _ ⟨1, 1, bcells p⟩, _, outB _ _ _ ⟨1, 1, _⟩]; rw [copy_mem p hp (((65536 : Nat) : Int).toNat - 1024) (by decide), outB_bytes, outB_bytes]; rfl) .rfl
def opM (s : ByteArray) (m : Int) : Int := (gotM (fun x => decide (x.name = s ∧ x.mode = m)) stdM.ins).1.op
end Go.Proofs.Ytjmmompbmjhkpaa.Calc

namespace Go.Proofs.Ytjmmompbmjhkpaa.Calc
open Go
set_option linter.unusedVariables false
set_option linter.unusedSimpArgs false
def rg (a x y s p t u pc ad : Int) : Nat → Int := fun i => match i with
  | 0 => a
  | 1 => x
  | 2 => y
  | 3 => s
  | 4 => p
  | 5 => t
  | 6 => u
  | 7 => pc
  | 8 => ad
  | _ => 0
def By (n : Int) : Prop := 0 ≤ n ∧ n < 256
def Wo (n : Int) : Prop := 0 ≤ n ∧ n < 65536
structure Bd (a x y s p t u pc ad : Int) : Prop where
  ha : By a
  hx : By x
  hy : By y
  hs : By s
  hp : By p
  ht : By t
  hu : By u
  hpc : Wo pc
  had : Wo ad
theorem fitN8 {i : Nat} {v : Int} (h7 : i ≠ 7) (h8 : i ≠ 8) (h : By v) : fitN i v = v := by
  unfold fitN By at *; rw [if_neg (by omega)]; omega
theorem fitN16 {i : Nat} {v : Int} (h7 : i = 7 ∨ i = 8) (h : Wo v) : fitN i v = v := by
  unfold fitN Wo at *; rw [if_pos (by omega)]; omega
section
variable {a x y s p t u pc ad : Int}
theorem fit_rg (h : Bd a x y s p t u pc ad) : fitR (rg a x y s p t u pc ad) = rg a x y s p t u pc ad := by
  funext i
  match i with
  | 0 => exact fitN8 (by decide) (by decide) h.ha
  | 1 => exact fitN8 (by decide) (by decide) h.hx
  | 2 => exact fitN8 (by decide) (by decide) h.hy
  | 3 => exact fitN8 (by decide) (by decide) h.hs
  | 4 => exact fitN8 (by decide) (by decide) h.hp
  | 5 => exact fitN8 (by decide) (by decide) h.ht
  | 6 => exact fitN8 (by decide) (by decide) h.hu
  | 7 => exact fitN16 (by decide) h.hpc
  | 8 => exact fitN16 (by decide) h.had
  | i + 9 => show fitN (i + 9) 0 = 0; unfold fitN; split <;> rfl
theorem upd_rg3 (v : Int) : upd (rg a x y s p t u pc ad) 3 v = rg a x y v p t u pc ad := by
  funext i
  match i with
  | 0 => rfl
  | 1 => rfl
  | 2 => rfl
  | 3 => rfl
  | 4 => rfl
  | 5 => rfl
  | 6 => rfl
  | 7 => rfl
  | 8 => rfl
  | i + 9 => show (if i + 9 = 3 then v else 0) = 0; rw [if_neg (by omega)]
theorem upd_rg5 (v : Int) : upd (rg a x y s p t u pc ad) 5 v = rg a x y s p v u pc ad := by
  funext i
  match i with
  | 0 => rfl
  | 1 => rfl
  | 2 => rfl
  | 3 => rfl
  | 4 => rfl
  | 5 => rfl
  | 6 => rfl
  | 7 => rfl
  | 8 => rfl
  | i + 9 => show (if i + 9 = 5 then v else 0) = 0; rw [if_neg (by omega)]
theorem upd_rg6 (v : Int) : upd (rg a x y s p t u pc ad) 6 v = rg a x y s p t v pc ad := by
  funext i
  match i with
  | 0 => rfl
  | 1 => rfl
  | 2 => rfl
  | 3 => rfl
  | 4 => rfl
  | 5 => rfl
  | 6 => rfl
  | 7 => rfl
  | 8 => rfl
  | i + 9 => show (if i + 9 = 6 then v else 0) = 0; rw [if_neg (by omega)]
theorem upd_rg7 (v : Int) : upd (rg a x y s p t u pc ad) 7 v = rg a x y s p t u v ad := by
  funext i
  match i with
  | 0 => rfl
  | 1 => rfl
  | 2 => rfl
  | 3 => rfl
  | 4 => rfl
  | 5 => rfl
  | 6 => rfl
  | 7 => rfl
  | 8 => rfl
  | i + 9 => show (if i + 9 = 7 then v else 0) = 0; rw [if_neg (by omega)]
theorem do_18_7_5 (h : Bd a x y s p t u pc ad) : doR 18 7 5 0 (rg a x y s p t u pc ad) = ((rg a x y s p t u (pc / 256 * 256 + t) ad), false) := by
  obtain ⟨hv, e⟩ : Wo (pc / 256 * 256 + t) ∧ putv pc 0 8 t = pc / 256 * 256 + t := by
    have h0 := h.ha; have h1 := h.hx; have h2 := h.hy; have h3 := h.hs; have h4 := h.hp; have h5 := h.ht; have h6 := h.hu; have h7 := h.hpc; have h8 := h.had
    unfold By at h0 h1 h2 h3 h4 h5 h6; unfold Wo at h7 h8; unfold Wo
    simp only [putv]; constructor <;> omega
  show (fitR (midR 18 7 5 0 (fitR (rg a x y s p t u pc ad))), false) = _
  rw [fit_rg h, show midR 18 7 5 0 (rg a x y s p t u pc ad) = upd (rg a x y s p t u pc ad) 7 (putv pc 0 8 t) from rfl, upd_rg7, e, fit_rg ⟨h.ha, h.hx, h.hy, h.hs, h.hp, h.ht, h.hu, hv, h.had⟩]
theorem do_19_7_6 (h : Bd a x y s p t u pc ad) : doR 19 7 6 0 (rg a x y s p t u pc ad) = ((rg a x y s p t u (pc % 256 + u * 256) ad), false) := by
  obtain ⟨hv, e⟩ : Wo (pc % 256 + u * 256) ∧ putv pc 8 8 u = pc % 256 + u * 256 := by
    have h0 := h.ha; have h1 := h.hx; have h2 := h.hy; have h3 := h.hs; have h4 := h.hp; have h5 := h.ht; have h6 := h.hu; have h7 := h.hpc; have h8 := h.had
    unfold By at h0 h1 h2 h3 h4 h5 h6; unfold Wo at h7 h8; unfold Wo
    simp only [putv]; constructor <;> omega
  show (fitR (midR 19 7 6 0 (fitR (rg a x y s p t u pc ad))), false) = _
  rw [fit_rg h, show midR 19 7 6 0 (rg a x y s p t u pc ad) = upd (rg a x y s p t u pc ad) 7 (putv pc 8 8 u) from rfl, upd_rg7, e, fit_rg ⟨h.ha, h.hx, h.hy, h.hs, h.hp, h.ht, h.hu, hv, h.had⟩]
theorem do_lit3 (h : Bd a x y s p t u pc ad) : doR 2 3 0 255 (rg a x y s p t u pc ad) = ((rg a x y (255) p t u pc ad), false) := by
  obtain ⟨hv, e⟩ : By (255) ∧ 255 = 255 := by
    have h0 := h.ha; have h1 := h.hx; have h2 := h.hy; have h3 := h.hs; have h4 := h.hp; have h5 := h.ht; have h6 := h.hu; have h7 := h.hpc; have h8 := h.had
    unfold By at h0 h1 h2 h3 h4 h5 h6; unfold Wo at h7 h8; unfold By
    constructor <;> omega
  show (fitR (midR 2 3 0 255 (fitR (rg a x y s p t u pc ad))), false) = _
  rw [fit_rg h, show midR 2 3 0 255 (rg a x y s p t u pc ad) = upd (rg a x y s p t u pc ad) 3 (255) from rfl, upd_rg3, fit_rg ⟨h.ha, h.hx, h.hy, hv, h.hp, h.ht, h.hu, h.hpc, h.had⟩]
end
end Go.Proofs.Ytjmmompbmjhkpaa.Calc

namespace Go.Proofs.Ytjmmompbmjhkpaa.Calc
open Go Code
set_option linter.unusedSimpArgs false
set_option linter.unusedVariables false
set_option maxRecDepth 20000
set_option maxHeartbeats 4000000
attribute [local irreducible] WOpsT AW AK RK AKW UK UC memF
theorem wholes_k : (runsM 1 ⟨upd (regsOf []) 7 1024, -1, 0, false⟩ (progF [1, 77])).1.r 0 = 77 ∧ (runsM 1 ⟨upd (regsOf []) 7 1024, -1, 0, false⟩ (progF [1, 77])).1.r 7 = 1026 := by decide +kernel
theorem progF_fb (p : List Int) (hp : Bytes p) : FB (progF p) := by
  intro i; unfold progF; split
  · exact hp _
  · exact ⟨by decide, by decide⟩
theorem bytes2 (a b : Int) (ha : 0 ≤ a ∧ a < 256) (hb : 0 ≤ b ∧ b < 256) : Bytes [a, b] := by
  intro i
  match i with
  | 0 => exact ha
  | 1 => exact hb
  | i + 2 => exact ⟨Int.le_refl 0, by show (0 : Int) < 256; decide⟩
theorem wholes_ok : FnE Try.prog 82 [] [] (.c (.bool true)) [] := by
  have hy := ready0_c [1, 77] (by decide)
  have hw := runs_c 1 (by decide) ⟨upd (regsOf []) 7 1024, -1, 0, false⟩ (progF [1, 77]) (progF_fb _ (bytes2 1 77 (by decide) (by decide)))
  have hk := wholes_k
  generalize hf : progF [1, 77] = f at *
  generalize hr : upd (regsOf []) 7 1024 = r at *
  generalize runsM 1 ⟨r, -1, 0, false⟩ f = w at *
  obtain ⟨⟨r2, op2, a2, n2⟩, f2⟩ := w
  dsimp only [coC] at hw hk
  obtain ⟨k1, k2⟩ := hk
  clear hf hr
  refine N.fn Try.func82 k82 lb q82 fun Q hQ hQN => ?_
  rw [c82]
  repeat' (first
    | rw [co_mren]
    | rw [co_co]
    | rw [co_t12]
    | rw [co_t9]
    | rw [cp_t5]
    | rw [co_z]
    | simp only [renB_fA, renB_fB]
    | rw [cp_mren]
    | rw [cp_z]
    | rw [ri_t9]
    | rw [ri_mren]
    | rw [co_r]
    | rw [co_b]
    | (show AKW _ _ (.seq (.dreg _ _ _) _) _ _ _ _; refine N.now ?_)
    | (show AKW _ _ (.seq (.reg (⟨some 4, _, _⟩ :: _) _) _) _ _ _ _; refine N.now ?_)
    | refine N.regS fun K hK => ?_
    | refine N.dregS fun K hK => ?_
    | refine N.regN fun K hK => ?_
    | refine N.dregN fun K hK => ?_
    | simp only [T.mv, sm, AO.ev, put, lk, enter, reduceIte, Nat.reduceEqDiff, Nat.reduceAdd, Nat.reduceMul, Nat.reduceSub, Int.reduceNeg, Int.reduceToNat, upto, renB, setAll]
    | (refine T.nil ?_; (first | refine hK _ _ _ (by rfl) ?_ | refine hK _ _ _ ?_); (try simp only [keep, List.map, lk, reduceIte, Nat.reduceEqDiff, enter]); clear hK K)
    | (show WOpsT _ (⟨_, .call _ _, none⟩ :: _) _ _ _ _; first | refine T.cP [0] e83 (hy) ?_)
    | (show WOpsT _ (⟨_, .ld _ _, none⟩ :: _) _ _ _ _; first | refine L.ld ?_ | refine L.ldd ?_ | refine L.ldn ?_ | refine L.lddn ?_)
    | (show WOpsT _ (⟨_, .idx _ _ _ _, none⟩ :: _) _ _ _ _; first | refine L.idxa ?_ | refine L.idxd ?_)
    | (show WOpsT _ (⟨_, .bin _ _ _, none⟩ :: _) _ _ _ _; first | refine L.bin ?_)
    | (show WOpsT _ (⟨_, _, some (_, true)⟩ :: _) _ _ _ _; first | refine L.goT ?_ | refine L.paT ?_ | refine L.go ?_ | refine L.pass ?_ | refine T.pU rfl ?_ | refine T.gT rfl (fun hgd => ?_) (fun hgd => ?_))
    | (show WOpsT _ (⟨_, .pick _ _ _, none⟩ :: _) _ _ _ _; first | refine L.pkT ?_ | refine L.pkF ?_ | refine L.pickT ?_ | refine L.pickF ?_ | refine L.pickB ?_ | refine T.pkD rfl (fun hgd => ?_) (fun hgd => ?_))
    | (show AK _ _ _ _ _ _ _; first | refine N.seq ?_ | refine N.ret ?_)
    | (show RK _ _ _ _ _ _ _; simp only [rk, rk0, reduceIte, Nat.reduceEqDiff])
    | (show WOpsT _ _ _ _ _ _; first | refine L.ext ?_ | refine L.fad ?_ | refine L.fadd ?_ | refine L.st ?_ | refine L.zero ?_ | refine T.mki ?_ | refine L.bsl ?_)
    | refine hQ _ _ _ rfl ?_
    | refine hQN _ _ _ rfl ?_)
  refine N.weak (fr1 := [(1, .ptr 2 1 0 0), (2, .ptr 0 1 0 0)]) (h1 := [fA, fB f, ⟨1, 12, [coA r (-1) 0 false]⟩]) (Weaks.gc [1, 2, 3] 0 rfl ⟨.rfl, .rfl, trivial⟩ (by show [_, fB f, _] = [_, outB _ _ _ (renB _ (fB f)), _]; rw [renB_fB, outB_fB]; rfl)) (N.now ?_)
  repeat' (first
    | rw [co_mren]
    | rw [co_co]
    | rw [co_t12]
    | rw [co_t9]
    | rw [cp_t5]
    | rw [co_z]
    | simp only [renB_fA, renB_fB]
    | rw [cp_mren]
    | rw [cp_z]
    | rw [ri_t9]
    | rw [ri_mren]
    | rw [co_r]
    | rw [co_b]
    | refine N.regS fun K hK => ?_
    | refine N.dregS fun K hK => ?_
    | refine N.regN fun K hK => ?_
    | refine N.dregN fun K hK => ?_
    | simp only [T.mv, sm, AO.ev, put, lk, enter, reduceIte, Nat.reduceEqDiff, Nat.reduceAdd, Nat.reduceMul, Nat.reduceSub, Int.reduceNeg, Int.reduceToNat, upto, renB, setAll]
    | (refine T.nil ?_; (first | refine hK _ _ _ (by rfl) ?_ | refine hK _ _ _ ?_); (try simp only [keep, List.map, lk, reduceIte, Nat.reduceEqDiff, enter]); clear hK K)
    | (show WOpsT _ (⟨_, .call _ _, none⟩ :: _) _ _ _ _; first | refine T.cP [0, 1] e85 (hw) ?_)
    | (show WOpsT _ (⟨_, .ld _ _, none⟩ :: _) _ _ _ _; first | refine L.ld ?_ | refine L.ldd ?_ | refine L.ldn ?_ | refine L.lddn ?_)
    | (show WOpsT _ (⟨_, .idx _ _ _ _, none⟩ :: _) _ _ _ _; first | refine L.idxa ?_ | refine L.idxd ?_)
    | (show WOpsT _ (⟨_, .bin _ _ _, none⟩ :: _) _ _ _ _; first | refine L.bin ?_)
    | (show WOpsT _ (⟨_, _, some (_, true)⟩ :: _) _ _ _ _; first | refine L.goT ?_ | refine L.paT ?_ | refine L.go ?_ | refine L.pass ?_ | refine T.pU rfl ?_ | refine T.gT rfl (fun hgd => ?_) (fun hgd => ?_))
    | (show WOpsT _ (⟨_, .pick _ _ _, none⟩ :: _) _ _ _ _; first | refine L.pkT ?_ | refine L.pkF ?_ | refine L.pickT ?_ | refine L.pickF ?_ | refine L.pickB ?_ | refine T.pkD rfl (fun hgd => ?_) (fun hgd => ?_))
    | (show AKW _ _ _ _ _ _ _; first | refine N.now ?_)
    | (show AK _ _ _ _ _ _ _; first | refine N.seq ?_ | refine N.ret ?_)
    | (show RK _ _ _ _ _ _ _; simp only [rk, rk0, reduceIte, Nat.reduceEqDiff])
    | (show WOpsT _ _ _ _ _ _; first | refine L.ext ?_ | refine L.fad ?_ | refine L.fadd ?_ | refine L.st ?_ | refine L.zero ?_ | refine T.mki ?_ | refine L.bsl ?_)
    | refine hQ _ _ _ rfl ?_
    | refine hQN _ _ _ rfl ?_)
  all_goals exact WS.bool rfl (by simp [k1, k2])
theorem wrap_u8m (n : Int) : IntKind.wrap .u8 n = n % 256 := by
  simp only [IntKind.wrap, IntKind.signed, IntKind.bits]; simp
theorem memF_st (f : Nat → Int) (a : Nat) (x v : Int) : (bcells (memF f)).set a (spl [V.c (.int .u8 x)] 0 [V.c (.int .u8 v)]) = bcells (memF (upd f a v)) := by
  rw [← memF_set, ← bcells_set]; rfl
def rstK : Core := ⟨upd zeroR 4 4, 258, 0, false⟩
theorem reset_k (f : Nat → Int) (hf : FB f) : ∃ r bs, runM stdM rstK f = (⟨r, -1, 0, false⟩, bs, f) ∧ bs.length = 2 ∧ r 7 = f 65532 + 256 * f 65533 ∧ r 3 = 255 ∧ bits .and .i64 (r 4) 4 ≠ 0 := by
  have h0 := hf 65532
  have h1 := hf 65533
  have e1 : cycleM stdM rstK false f = (⟨upd (fitR (fitR (upd zeroR 4 4))) 5 (f 65532 % 256), 258, 1, false⟩, ⟨1, 65532, f 65532⟩, f) := by kernel_rfl
  have e2 : ∀ r, cycleM stdM ⟨r, 258, 1, false⟩ false f = (⟨(doR 2 3 0 255 (doR 19 7 6 0 (doR 18 7 5 0 (upd (fitR (fitR r)) 6 (f 65533 % 256))).1).1).1, -1, 0, false⟩, ⟨1, 65533, f 65533⟩, f) := by intro r; kernel_rfl
  generalize f 65532 = lo at *
  generalize f 65533 = hi at *
  rw [show lo % 256 = lo by omega] at e1
  rw [show hi % 256 = hi by omega] at e2
  have z : upd zeroR 4 4 = rg 0 0 0 0 4 0 0 0 0 := by
    funext i
    match i with
    | 0 => rfl
    | 1 => rfl
    | 2 => rfl
    | 3 => rfl
    | 4 => rfl
    | 5 => rfl
    | 6 => rfl
    | 7 => rfl
    | 8 => rfl
    | i + 9 => show (if i + 9 = 4 then (4 : Int) else 0) = 0; rw [if_neg (by omega)]
  have b0 : By 0 := ⟨by decide, by decide⟩
  have b4 : By 4 := ⟨by decide, by decide⟩
  have w0 : Wo 0 := ⟨by decide, by decide⟩
  have b255 : By 255 := ⟨by decide, by decide⟩
  have B1 : Bd 0 0 0 0 4 0 0 0 0 := ⟨b0, b0, b0, b0, b4, b0, b0, w0, w0⟩
  have B2 : Bd 0 0 0 0 4 lo 0 0 0 := ⟨b0, b0, b0, b0, b4, h0, b0, w0, w0⟩
  have B3 : Bd 0 0 0 0 4 lo hi 0 0 := ⟨b0, b0, b0, b0, b4, h0, h1, w0, w0⟩
  have B4 : Bd 0 0 0 0 4 lo hi (0 / 256 * 256 + lo) 0 := ⟨b0, b0, b0, b0, b4, h0, h1, ⟨by omega, by omega⟩, w0⟩
  have B5 : Bd 0 0 0 0 4 lo hi ((0 / 256 * 256 + lo) % 256 + hi * 256) 0 := ⟨b0, b0, b0, b0, b4, h0, h1, ⟨by omega, by omega⟩, w0⟩
  rw [z, fit_rg B1, fit_rg B1, upd_rg5] at e1
  have e3 := e2 (rg 0 0 0 0 4 lo 0 0 0)
  rw [fit_rg B2, fit_rg B2, upd_rg6, do_18_7_5 B3] at e3
  dsimp only at e3
  rw [do_19_7_6 B4] at e3
  dsimp only at e3
  rw [do_lit3 B5] at e3
  dsimp only at e3
  unfold runM runFrom
  rw [e1]
  dsimp only
  rw [if_neg (by decide)]
  unfold runFrom
  rw [e3]
  dsimp only
  rw [if_pos (.inl rfl)]
  refine ⟨_, _, rfl, rfl, ?_, rfl, ?_⟩
  · show (0 / 256 * 256 + lo) % 256 + hi * 256 = _
    omega
  · show bits .and .i64 4 4 ≠ 0
    decide
theorem coreresets_ok (lo hi : Int) : FnE Try.prog 20 [I lo, I hi] [] (.c (.bool true)) [] := by
  obtain ⟨f, hf⟩ : ∃ f, upd (upd zeroF 65532 (lo % 256)) 65533 (hi % 256) = f := ⟨_, rfl⟩
  have hfb : FB f := by
    rw [← hf]
    exact FB.upd (FB.upd (fun i => ⟨Int.le_refl 0, by show (0 : Int) < 256; decide⟩) ⟨by omega, by omega⟩ _) ⟨by omega, by omega⟩ _
  have hr := run_c stdM stdM_sml rstK f hfb
  obtain ⟨r, bs, e, e1, e2, e3, e4⟩ := reset_k f hfb
  rw [e] at hr
  dsimp only [coC, rstK] at hr
  have f1 : f 65532 = lo % 256 := by rw [← hf]; rfl
  have f2 : f 65533 = hi % 256 := by rw [← hf]; rfl
  rw [f1, f2] at e2
  have hcpu := stdCpu_ok
  have l1 := low8 lo
  have l2 := low8 hi
  have hw1 := wrap_u8m lo
  have hw2 := wrap_u8m hi
  have hl : ((bs.map buC).length : Int) = 2 := by rw [List.length_map, e1]; rfl
  generalize stdM = c at *
  clear e
  refine N.fn Try.func20 k20 lb q20 fun Q hQ hQN => ?_
  rw [c20]
  repeat' (first
    | rw [co_mren]
    | rw [co_co]
    | rw [co_t12]
    | rw [co_t9]
    | rw [cp_t5]
    | rw [co_z]
    | simp only [renB_fA, renB_fB]
    | rw [cp_mren]
    | rw [cp_z]
    | rw [ri_t9]
    | rw [ri_mren]
    | rw [co_r]
    | rw [co_b]
    | rw [zero_mem]
    | rw [hw1]
    | rw [hw2]
    | (show WOpsT _ (⟨_, .st _ _ _, none⟩ :: _) _ _ _ _; refine T.st rfl rfl rfl ⟨rfl, rfl⟩ (memF_get _ 65532 (by decide)) lb ?_)
    | (show WOpsT _ (⟨_, .st _ _ _, none⟩ :: _) _ _ _ _; refine T.st rfl rfl rfl ⟨rfl, rfl⟩ (memF_get _ 65533 (by decide)) lb ?_)
    | rw [memF_st]
    | (show AKW _ _ (.seq (.reg (⟨some 9, _, _⟩ :: _) _) _) _ _ _ _; refine N.now ?_)
    | (show AKW _ _ (.seq (.dreg (⟨some 12, _, _⟩ :: _) _ _) _) _ _ _ _; refine N.now ?_)
    | refine N.regS fun K hK => ?_
    | refine N.dregS fun K hK => ?_
    | refine N.regN fun K hK => ?_
    | refine N.dregN fun K hK => ?_
    | simp only [T.mv, sm, AO.ev, put, lk, enter, reduceIte, Nat.reduceEqDiff, Nat.reduceAdd, Nat.reduceMul, Nat.reduceSub, Int.reduceNeg, Int.reduceToNat, upto, renB, setAll]
    | (refine T.nil ?_; (first | refine hK _ _ _ (by rfl) ?_ | refine hK _ _ _ ?_); (try simp only [keep, List.map, lk, reduceIte, Nat.reduceEqDiff, enter]); clear hK K)
    | (show WOpsT _ (⟨_, .ld _ _, none⟩ :: _) _ _ _ _; first | refine L.ld ?_ | refine L.ldd ?_)
    | (show WOpsT _ (⟨_, .idx _ _ _ _, none⟩ :: _) _ _ _ _; first | refine L.idx ?_ | refine L.idxs ?_ | refine L.idxa ?_ | refine L.idxd ?_)
    | (show WOpsT _ (⟨_, .bin _ _ _, none⟩ :: _) _ _ _ _; first | refine L.add ?_ | refine T.mul rfl rfl (by omega) (by omega) ?_ | refine L.bin ?_)
    | (show WOpsT _ (⟨_, _, some (_, true)⟩ :: _) _ _ _ _; first | refine L.goT ?_ | refine L.paT ?_ | refine L.go ?_ | refine L.pass ?_ | refine T.pU rfl ?_ | refine T.gT rfl (fun hgd => ?_) (fun hgd => ?_))
    | (show WOpsT _ (⟨_, .pick _ _ _, none⟩ :: _) _ _ _ _; first | refine L.pkT ?_ | refine L.pkF ?_ | refine L.pickT ?_ | refine L.pickF ?_ | refine L.pickB ?_ | refine T.pkD rfl (fun hgd => ?_) (fun hgd => ?_))
    | (show AK _ _ _ _ _ _ _; first | refine N.seq ?_ | refine N.ret ?_)
    | (show RK _ _ _ _ _ _ _; simp only [rk, rk0, reduceIte, Nat.reduceEqDiff])
    | (show WOpsT _ _ _ _ _ _; first | refine L.ext ?_ | refine T.cvt rfl ?_ | refine L.fad ?_ | refine L.fadd ?_ | refine L.nilc ?_ | refine L.nilcd ?_ | refine T.nilcf rfl ?_ | refine T.nilci rfl ?_ | refine L.st ?_ | refine L.new ?_ | refine L.zero ?_ | refine L.build ?_ | refine L.len ?_ | refine L.lenS ?_ | refine L.lenN ?_ | refine T.mki ?_ | refine T.mksl rfl rfl (by decide) ?_)
    | refine hQ _ _ _ rfl ?_
    | refine hQN _ _ _ rfl ?_)
  refine N.weak (fr1 := [(0, I lo), (1, I hi), (5, .ptr 0 1 0 0)]) (h1 := [fA, fB f]) (Weaks.gc [1, 0] 0 rfl ⟨.rfl, .rfl, .rfl, trivial⟩ (by show [_, fB f] = [_, outB _ _ _ ⟨1, 1, bcells (memF (upd (upd zeroF 65532 (lo % 256)) 65533 (hi % 256)))⟩]; rw [hf, outB_bytes]; rfl)) (N.now ?_)
  repeat' (first
    | rw [co_mren]
    | rw [co_co]
    | rw [co_t12]
    | rw [co_t9]
    | rw [cp_t5]
    | rw [co_z]
    | simp only [renB_fA, renB_fB]
    | rw [cp_mren]
    | rw [cp_z]
    | rw [ri_t9]
    | rw [ri_mren]
    | rw [co_r]
    | rw [co_b]
    | refine N.regS fun K hK => ?_
    | refine N.dregS fun K hK => ?_
    | refine N.regN fun K hK => ?_
    | refine N.dregN fun K hK => ?_
    | simp only [T.mv, sm, AO.ev, put, lk, enter, reduceIte, Nat.reduceEqDiff, Nat.reduceAdd, Nat.reduceMul, Nat.reduceSub, Int.reduceNeg, Int.reduceToNat, upto, renB, setAll]
    | (refine T.nil ?_; (first | refine hK _ _ _ (by rfl) ?_ | refine hK _ _ _ ?_); (try simp only [keep, List.map, lk, reduceIte, Nat.reduceEqDiff, enter]); clear hK K)
    | (show WOpsT _ (⟨_, .call _ _, none⟩ :: _) _ _ _ _; first | refine T.call0 e78 rfl (hcpu) ?_ | refine T.call0 e81 rfl (coreNew_ok) ?_ | refine T.cP [0, 1] e80 (hr) ?_ | refine T.call0 e35 rfl (l1) ?_ | refine T.call0 e35 rfl (l2) ?_ | refine T.call0 e82 rfl (wholes_ok) ?_ | refine T.call0 e70 rfl (cores_ok) ?_)
    | (show WOpsT _ (⟨_, .ld _ _, none⟩ :: _) _ _ _ _; first | refine L.ld ?_ | refine L.ldd ?_)
    | (show WOpsT _ (⟨_, .idx _ _ _ _, none⟩ :: _) _ _ _ _; first | refine L.idx ?_ | refine L.idxs ?_ | refine L.idxa ?_ | refine L.idxd ?_)
    | (show WOpsT _ (⟨_, .bin _ _ _, none⟩ :: _) _ _ _ _; first | refine L.add ?_ | refine T.mul rfl rfl (by omega) (by omega) ?_ | refine L.bin ?_)
    | (show WOpsT _ (⟨_, _, some (_, true)⟩ :: _) _ _ _ _; first | refine L.goT ?_ | refine L.paT ?_ | refine L.go ?_ | refine L.pass ?_ | refine T.pU rfl ?_ | refine T.gT rfl (fun hgd => ?_) (fun hgd => ?_))
    | (show WOpsT _ (⟨_, .pick _ _ _, none⟩ :: _) _ _ _ _; first | refine L.pkT ?_ | refine L.pkF ?_ | refine L.pickT ?_ | refine L.pickF ?_ | refine L.pickB ?_ | refine T.pkD rfl (fun hgd => ?_) (fun hgd => ?_))
    | (show AKW _ _ _ _ _ _ _; first | refine N.now ?_)
    | (show AK _ _ _ _ _ _ _; first | refine N.seq ?_ | refine N.ret ?_)
    | (show RK _ _ _ _ _ _ _; simp only [rk, rk0, reduceIte, Nat.reduceEqDiff])
    | (show WOpsT _ _ _ _ _ _; first | refine L.ext ?_ | refine T.cvt rfl ?_ | refine L.fad ?_ | refine L.fadd ?_ | refine L.nilc ?_ | refine L.nilcd ?_ | refine T.nilcf rfl ?_ | refine T.nilci rfl ?_ | refine L.st ?_ | refine L.new ?_ | refine L.zero ?_ | refine L.build ?_ | refine L.len ?_ | refine L.lenS ?_ | refine L.lenN ?_ | refine T.mki ?_ | refine T.mksl rfl rfl (by decide) ?_)
    | refine hQ _ _ _ rfl ?_
    | refine hQN _ _ _ rfl ?_)
  all_goals first
    | exact WS.bool rfl (by simp; omega)
    | (exfalso; omega)
    | trace_state
end Go.Proofs.Ytjmmompbmjhkpaa.Calc

