/- Several texts in one (FnStdE, FnStdF, FnStdG, FnStdH, FnBytes), for the proof of LawMachPokes. No condition beyond those in each lemma. -/
import Derived.Test.YtpfagchhmfigfaaGreatPLawMachPokesF
namespace Go.Proofs.YtpfagchhmfigfaaGreat.Calc
open Go Code
set_option linter.unusedSimpArgs false
set_option linter.unusedVariables false
set_option maxRecDepth 20000
set_option maxHeartbeats 4000000
attribute [local irreducible] WOpsT AW AK RK AKW UK UC
def mkH (ms : List Int) (g : Nat → List Ins) : Nat → List Blk
  | 0 => [⟨1, 1, [[.c (.slice none 0 0)]]⟩, ⟨1, 1, cells ms⟩]
  | i + 1 => [mkA 2 (g (i + 1)), ⟨1, 1, cells ms⟩, mkB (g (i + 1))]
theorem loads0_ok (s : ByteArray) (r : Int) (ms : List Int) (h0 : 0 < ms.length) (hb : ms.length ≤ 250) (hms : ∀ m ∈ ms, m = 1 ∨ Adr m) :
    FnE Tryz.prog 174 [.ptr 0 1 0 0, .c (.string s), I r, .psl 1 1 0 ms.length] [⟨1, 1, [[.c (.slice none 0 0)]]⟩, ⟨1, 1, cells ms⟩] (.tup [])
      [mkA 2 (number 0 (loadsM s r ms)), ⟨1, 1, cells ms⟩, mkB (number 0 (loadsM s r ms))] := by
  obtain ⟨F, hF⟩ : ∃ F : Int → Row, F = fun m => (s, m, readsM m [twoM 1 r 5, oneM 3 r]) := ⟨_, rfl⟩
  have hfin : number 0 (loadsM s r ms) = grow [] F ms ms.length := by rw [grow_all, hF]; rfl
  rw [hfin]
  obtain ⟨g, hg⟩ : ∃ g, grow [] F ms = g := ⟨_, rfl⟩
  have hg0 : g 0 = [] := by rw [← hg, grow_zero]
  have hgl : ∀ i, i ≤ ms.length → (g i).length = i := fun i hi => by rw [← hg, grow_len [] F ms i hi]; exact Nat.zero_add _
  have hgs : ∀ (i : Nat) (hi : i < ms.length), g (i + 1) = g i ++ [insN (g i) s ms[i] (readsM ms[i] [twoM 1 r 5, oneM 3 r])] := fun i hi => by rw [← hg, grow_succ [] F ms i hi, hF]
  rw [hg]
  clear hfin hg hF
  refine N.fn Tryz.func174 k174 lb q174 fun Q hQ hQN => ?_
  rw [c174]
  repeat' (first
  | exact True.intro
  | refine fun (K : KT) hK => ?_
  | intro hcd
  | (refine go1 ?_ ?_ <;> try clear hK K)
  | fail)
  refine N.loop (σ := Nat) (fun i => [(0, .ptr 0 1 0 0), (1, .c (.string s)), (2, I r), (10, .psl 1 1 0 ms.length), (11, I ms.length), (12, I i)]) (mkH ms g) (fun i => i ≤ ms.length) (fun i => ms.length - i) 0 (by omega) (Weaks.sel (by repeat (first | exact trivial | refine ⟨.rfl, ?_⟩ | refine ⟨.any, ?_⟩)) rfl) fun i hi R hC => ?_
  by_cases hil : i < ms.length
  · have e3 : 0 + (i : Int).toNat = i := by omega
    have hgt := cget ms i hil
    have hmi := hms _ (List.getElem_mem hil)
    have hn := hgs i hil
    have hlen := hgl i hi
    obtain ⟨m, hm⟩ : ∃ m, ms[i] = m := ⟨_, rfl⟩
    rw [hm] at hgt hmi hn
    have hr := reads_ok m hmi [twoM 1 r 5, oneM 3 r] 2
    rcases i with _ | i
    · rw [hg0] at hn
      have ha := add0_ok s m (readsM m [twoM 1 r 5, oneM 3 r])
      repeat' (first
      | rw [e3]
      | (show WOpsT _ (⟨_, .ld _ _, none⟩ :: _) _ _ _ _; refine T.ld rfl rfl rfl hgt rfl ?_)
      | rw [rows_renA]
      | (show AK _ _ (.reg (⟨some 16, _, _⟩ :: _) _) _ _ _ _; refine N.cutN 10 fun K hK => ?_)
      | (show AKW _ _ (.seq _ _) _ _ _ _; refine N.now ?_)
      | (show AKW _ _ (.block _ _) _ _ _ _; refine N.now ?_)
      | (show AKW _ _ (.cond _ _ _) _ _ _ _; refine N.now ?_)
      | (show AKW _ _ (.reg (⟨some 16, _, _⟩ :: _) _) _ _ _ _; refine N.now ?_)
      | (show WOpsT _ (⟨_, .call _ _, none⟩ :: _) _ _ _ _; first | refine T.call0 e180 rfl ((two_ok 1 r 5)) ?_ | refine T.call0 e181 rfl ((one_ok 3 r)) ?_ | refine T.cP [2] e233 (hr) ?_)
      | exact True.intro
      | refine fun (K : KT) hK => ?_
      | intro hcd
      | (refine goW ?_ ?_ <;> try clear hK K)
      | fail)
      refine N.weak (fr1 := [(0, .ptr 0 1 0 0), (1, .c (.string s)), (2, I r), (10, .psl 1 1 0 ms.length), (11, I ms.length), (12, I ((0 : Nat) : Int)), (16, .ptr 0 1 0 0), (17, .c (.string s)), (18, I m), (25, .sl 4 ((readsM m [twoM 1 r 5, oneM 3 r]).map cyC))]) (h1 := [⟨1, 1, [[.c (.slice none 0 0)]]⟩, ⟨1, 1, cells ms⟩]) (Weaks.gc [0, 1] 2 rfl ⟨.rfl, .rfl, .rfl, .rfl, .rfl, .rfl, .rfl, .rfl, .rfl, ?_, trivial⟩ ?_) (N.now ?_)
      · exact Sub.of_eq (out_cyc (x := rdM (if m = 1 then 0 else 2) 5 [twoM 1 r 5, oneM 3 r]) rfl rfl rfl rfl (Nat.le_refl _) (Nat.le_refl _))
      · show [_, _] = [_, outB _ _ _ ⟨1, 1, cells ms⟩]; rw [outB_ints]; rfl
      repeat' (first
      | simp only [renB_mkB]
      | refine T.cP [0] e178 (ha) ?_
      | exact True.intro
      | refine fun (K : KT) hK => ?_
      | intro hcd
      | (refine go1 ?_ ?_ <;> try clear hK K)
      | fail)
      exact hC _ _ (0 + 1) (by omega) (by omega) (Weaks.sel (by repeat (first | exact trivial | refine ⟨.rfl, ?_⟩ | refine ⟨.any, ?_⟩)) (by show [mkA 2 (g (0 + 1)), _, mkB (g (0 + 1))] = [renB [0, 2] (mkA 1 [_]), _, renB [0, 2] (mkB [_])]; rw [renB_mkB, hn]; rfl))
    · have ha := add_ok (g (i + 1)) (by omega) s m (readsM m [twoM 1 r 5, oneM 3 r])
      rw [← hn] at ha
      repeat' (first
      | rw [e3]
      | (show WOpsT _ (⟨_, .ld _ _, none⟩ :: _) _ _ _ _; refine T.ld rfl rfl rfl hgt rfl ?_)
      | rw [rows_renA]
      | (show AK _ _ (.reg (⟨some 16, _, _⟩ :: _) _) _ _ _ _; refine N.cutN 10 fun K hK => ?_)
      | (show AKW _ _ (.seq _ _) _ _ _ _; refine N.now ?_)
      | (show AKW _ _ (.block _ _) _ _ _ _; refine N.now ?_)
      | (show AKW _ _ (.cond _ _ _) _ _ _ _; refine N.now ?_)
      | (show AKW _ _ (.reg (⟨some 16, _, _⟩ :: _) _) _ _ _ _; refine N.now ?_)
      | (show WOpsT _ (⟨_, .call _ _, none⟩ :: _) _ _ _ _; first | refine T.call0 e180 rfl ((two_ok 1 r 5)) ?_ | refine T.call0 e181 rfl ((one_ok 3 r)) ?_ | refine T.cP [3] e233 (hr) ?_)
      | exact True.intro
      | refine fun (K : KT) hK => ?_
      | intro hcd
      | (refine goW ?_ ?_ <;> try clear hK K)
      | fail)
      refine N.weak (fr1 := [(0, .ptr 0 1 0 0), (1, .c (.string s)), (2, I r), (10, .psl 1 1 0 ms.length), (11, I ms.length), (12, I ((i + 1 : Nat) : Int)), (16, .ptr 0 1 0 0), (17, .c (.string s)), (18, I m), (25, .sl 4 ((readsM m [twoM 1 r 5, oneM 3 r]).map cyC))]) (h1 := [mkA 2 (g (i + 1)), ⟨1, 1, cells ms⟩, mkB (g (i + 1))]) (Weaks.gc [0, 1, 2] 2 rfl ⟨.rfl, .rfl, .rfl, .rfl, .rfl, .rfl, .rfl, .rfl, .rfl, ?_, trivial⟩ ?_) (N.now ?_)
      · exact Sub.of_eq (out_cyc (x := rdM (if m = 1 then 0 else 2) 5 [twoM 1 r 5, oneM 3 r]) rfl rfl rfl rfl (Nat.le_refl _) (Nat.le_refl _))
      · show [_, _, _] = [_, outB _ _ _ ⟨1, 1, cells ms⟩, outB _ _ _ (mkB _)]; rw [outB_mkB, outB_ints]; rfl
      repeat' (first
      | simp only [renB_mkB]
      | refine T.cP [0, 2] e178 (ha) ?_
      | exact True.intro
      | refine fun (K : KT) hK => ?_
      | intro hcd
      | (refine go1 ?_ ?_ <;> try clear hK K)
      | fail)
      exact hC _ _ (i + 1 + 1) (by omega) (by omega) (Weaks.sel (by repeat (first | exact trivial | refine ⟨.rfl, ?_⟩ | refine ⟨.any, ?_⟩)) (by show [_, _, _] = [renB [0, 2] (mkA 1 (g (i + 1 + 1))), _, renB [0, 2] (mkB (g (i + 1 + 1)))]; rw [renB_mkB]; rfl))
  · obtain rfl : i = ms.length := by omega
    obtain ⟨j, hj⟩ : ∃ j, ms.length = j + 1 := ⟨ms.length - 1, by omega⟩
    rw [show mkH ms g ms.length = [mkA 2 (g ms.length), ⟨1, 1, cells ms⟩, mkB (g ms.length)] by rw [hj]; rfl]
    repeat' (first
    | exact True.intro
    | refine fun (K : KT) hK => ?_
    | intro hcd
    | (refine go1 ?_ ?_ <;> try clear hK K)
    | fail)
    exact WS.gc [0, 1, 2] 0 rfl (by show [_, _, _] = [_, outB _ _ _ ⟨1, 1, cells ms⟩, outB _ _ _ (mkB _)]; rw [outB_mkB, outB_ints]; rfl) .rfl
end Go.Proofs.YtpfagchhmfigfaaGreat.Calc

namespace Go.Proofs.YtpfagchhmfigfaaGreat.Calc
open Go Code
set_option linter.unusedSimpArgs false
set_option linter.unusedVariables false
set_option maxRecDepth 20000
set_option maxHeartbeats 4000000
attribute [local irreducible] WOpsT AW AK RK AKW UK UC
def mA (k : Nat) : Blk := mkA 1 (number 0 (memR k))
def mB (k : Nat) : Blk := mkB (number 0 (memR k))
theorem renB_mB {ids : List Nat} {k : Nat} : renB ids (mB k) = mB k := renB_flat
theorem outB_mB {h : List Blk} {ids : List Nat} {n k : Nat} : outB h ids n (mB k) = mB k := outB_flat
theorem num_succ {k : Nat} {c : List Row} (hc : stdL[k]? = some c) : number 0 (memR k) ++ number (number 0 (memR k)).length c = number 0 (memR (k + 1)) := by
  rw [memR_succ k c hc, number_app, number_len, Nat.zero_add]
theorem num_len (k : Nat) (hk : k < 50 ∧ 1 ≤ k) : 0 < (number 0 (memR k)).length ∧ (number 0 (memR k)).length ≤ 92 := by
  rw [number_len]; exact memR_len k hk.1 hk.2
theorem loadsK (k : Nat) (hk : k < 50 ∧ 1 ≤ k) (s : ByteArray) (r : Int) (ms : List Int) (hc : stdL[k]? = some (loadsM s r ms)) (hn : ms.length ≤ 7) (hms : ∀ m ∈ ms, m = 1 ∨ Adr m) :
    FnE Tryz.prog 174 [.ptr 0 1 0 0, .c (.string s), I r, .psl 2 1 0 ms.length] [mA k, mB k, ⟨1, 1, cells ms⟩] (.tup []) [mA (k + 1), mB (k + 1), ⟨1, 1, cells ms⟩] := by
  have hl := num_len k hk
  have h := loads_ok (number 0 (memR k)) s r ms hl.1 (by omega) hms
  rw [num_succ hc] at h; exact h
theorem storesK (k : Nat) (hk : k < 50 ∧ 1 ≤ k) (s : ByteArray) (r : Int) (ms : List Int) (hc : stdL[k]? = some (storesM s r ms)) (hn : ms.length ≤ 7) (hms : ∀ m ∈ ms, Adr m) :
    FnE Tryz.prog 175 [.ptr 0 1 0 0, .c (.string s), I r, .psl 2 1 0 ms.length] [mA k, mB k, ⟨1, 1, cells ms⟩] (.tup []) [mA (k + 1), mB (k + 1), ⟨1, 1, cells ms⟩] := by
  have hl := num_len k hk
  have h := stores_ok (number 0 (memR k)) s r ms hl.1 (by omega) hms
  rw [num_succ hc] at h; exact h
theorem joinsK (k : Nat) (hk : k < 50 ∧ 1 ≤ k) (s : ByteArray) (d r : Int) (ms : List Int) (hc : stdL[k]? = some (joinsM s d r ms)) (hn : ms.length ≤ 7) (hms : ∀ m ∈ ms, m = 1 ∨ Adr m) :
    FnE Tryz.prog 176 [.ptr 0 1 0 0, .c (.string s), I d, I r, .psl 2 1 0 ms.length] [mA k, mB k, ⟨1, 1, cells ms⟩] (.tup []) [mA (k + 1), mB (k + 1), ⟨1, 1, cells ms⟩] := by
  have hl := num_len k hk
  have h := joins_ok (number 0 (memR k)) s d r ms hl.1 (by omega) hms
  rw [num_succ hc] at h; exact h
theorem turnsK (k : Nat) (hk : k < 50 ∧ 1 ≤ k) (s : ByteArray) (d : Int) (ms : List Int) (hc : stdL[k]? = some (turnsM s d ms)) (hn : ms.length ≤ 7) (hms : ∀ m ∈ ms, m = 0 ∨ Adr m) :
    FnE Tryz.prog 177 [.ptr 0 1 0 0, .c (.string s), I d, .psl 2 1 0 ms.length] [mA k, mB k, ⟨1, 1, cells ms⟩] (.tup []) [mA (k + 1), mB (k + 1), ⟨1, 1, cells ms⟩] := by
  have hl := num_len k hk
  have h := turns_ok (number 0 (memR k)) s d ms hl.1 (by omega) hms
  rw [num_succ hc] at h; exact h
theorem addK (k : Nat) (hk : k < 50 ∧ 1 ≤ k) (s : ByteArray) (m : Int) (cy : List Cyc) (hc : stdL[k]? = some [(s, m, cy)]) :
    FnE Tryz.prog 178 [.ptr 0 1 0 0, .c (.string s), I m, .sl 4 (cy.map cyC)] [mA k, mB k] (.tup []) [mA (k + 1), mB (k + 1)] := by
  have hl := num_len k hk
  have h := add_ok (number 0 (memR k)) ⟨hl.1, by omega⟩ s m cy
  rw [show number 0 (memR k) ++ [insN (number 0 (memR k)) s m cy] = number 0 (memR (k + 1)) from num_succ hc] at h; exact h
def joinL : List (ByteArray × Int) := [(⟨#[97, 100, 99]⟩, 4), (⟨#[115, 98, 99]⟩, 5), (⟨#[97, 110, 100]⟩, 7), (⟨#[111, 114, 97]⟩, 8), (⟨#[101, 111, 114]⟩, 9), (⟨#[99, 109, 112]⟩, 6)]
section
variable {P : Program} {q : Nat} {st : List KF} {Q : Exit → Fr → List Blk → Prop} {fr : Fr} {h : List Blk} {c : AC}
theorem wC (k : Nat) (hA : AK P q c st Q [(0, .ptr 0 1 0 0)] [mA k, mB k]) (hids : gcOk q h.length [0, 1] = true := by rfl) (hs : selO h [0, 1] 0 fr [(0, .ptr 0 1 0 0)] := by exact ⟨.rfl, trivial⟩) (h0 : h.getD 0 default = renB [0, 1, 2] (mA k) := by rfl) (h1 : h.getD 1 default = renB [0, 1, 2] (mB k) := by rfl) : AKW P q c st Q fr h :=
  N.weak (Weaks.gc [0, 1] 0 hids hs (by
    show [_, _] = [outB h [0, 1] 0 (h.getD 0 default), outB h [0, 1] 0 (h.getD 1 default)]
    rw [h0, h1, renB_mB, outB_mB]; rfl)) (N.now hA)
end
theorem memory_ok : FnE Tryz.prog 99 [.ptr 0 1 0 0] [⟨1, 1, [[.c (.slice none 0 0)]]⟩] (.tup []) [mA 20, mB 20] := by
  refine N.fn Tryz.func99 k99 lb q99 fun Q hQ hQN => ?_
  rw [c99]
  repeat' (first
  | refine T.cP [0, 1] e174 ((loads0_ok ⟨#[108, 100, 97]⟩ 0 [1, 2, 3, 4, 5, 6, 8] (by decide) (by decide) (by unfold Adr; decide))) ?_
  | exact True.intro
  | refine fun (K : KT) hK => ?_
  | intro hcd
  | (refine goW ?_ ?_ <;> try clear hK K)
  | fail)
  refine N.weak (fr1 := [(0, .ptr 0 1 0 0)]) (h1 := [mA 1, mB 1]) (Weaks.gc [0, 2] 0 rfl ⟨.rfl, trivial⟩ (by show [mA 1, mB 1] = [outB _ [0, 2] 0 (renB [0, 1, 2] (mkA 2 (number 0 (memR 1)))), outB _ _ _ (renB _ (mB 1))]; rw [renB_mB, outB_mB]; rfl)) (N.now ?_)
  repeat' (first
  | (show AKW _ _ (.seq (.reg (⟨some 10, _, _⟩ :: _) _) _) _ _ _ _; refine wC 2 ?_)
  | (show AKW _ _ (.seq (.reg (⟨some 13, _, _⟩ :: _) _) _) _ _ _ _; refine wC 3 ?_)
  | (show AKW _ _ (.seq (.reg (⟨some 16, _, _⟩ :: _) _) _) _ _ _ _; refine wC 4 ?_)
  | (show AKW _ _ (.seq (.reg (⟨some 19, _, _⟩ :: _) _) _) _ _ _ _; refine wC 5 ?_)
  | (show WOpsT _ (⟨_, .call _ _, none⟩ :: _) _ _ _ _; first | refine T.cP [0, 1, 2] e174 ((loadsK 1 (by decide) ⟨#[108, 100, 120]⟩ 1 [1, 2, 4] rfl (by decide) (by unfold Adr; decide))) ?_ | refine T.cP [0, 1, 2] e174 ((loadsK 2 (by decide) ⟨#[108, 100, 121]⟩ 2 [1, 2, 4] rfl (by decide) (by unfold Adr; decide))) ?_ | refine T.cP [0, 1, 2] e175 ((storesK 3 (by decide) ⟨#[115, 116, 97]⟩ 0 [2, 3, 4, 5, 6, 8] rfl (by decide) (by unfold Adr; decide))) ?_ | refine T.cP [0, 1, 2] e175 ((storesK 4 (by decide) ⟨#[115, 116, 120]⟩ 1 [2, 4] rfl (by decide) (by unfold Adr; decide))) ?_ | refine T.cP [0, 1, 2] e175 ((storesK 5 (by decide) ⟨#[115, 116, 121]⟩ 2 [2, 4] rfl (by decide) (by unfold Adr; decide))) ?_)
  | exact True.intro
  | refine fun (K : KT) hK => ?_
  | intro hcd
  | (refine goW ?_ ?_ <;> try clear hK K)
  | fail)
  refine wC 6 ?_
  repeat' (first
  | exact True.intro
  | refine fun (K : KT) hK => ?_
  | intro hcd
  | (refine goW ?_ ?_ <;> try clear hK K)
  | fail)
  refine N.weak (fr1 := [(0, .ptr 0 1 0 0), (28, .psl 2 1 0 6), (29, I 6), (30, I 0)]) (h1 := [mA 6, mB 6, ⟨1, 2, joinL.map fun p => [.c (.string p.1), I p.2]⟩]) (Weaks.sel (by repeat (first | exact trivial | refine ⟨.rfl, ?_⟩ | refine ⟨.any, ?_⟩)) rfl) (N.now ?_)
  repeat' (first
  | exact True.intro
  | refine fun (K : KT) hK => ?_
  | intro hcd
  | (refine goW ?_ ?_ <;> try clear hK K)
  | fail)
  refine N.loop (σ := Nat) (fun i => [(0, .ptr 0 1 0 0), (28, .psl 2 1 0 6), (29, I 6), (30, I i)]) (fun i => [mA (6 + i), mB (6 + i), ⟨1, 2, joinL.map fun p => [.c (.string p.1), I p.2]⟩]) (fun i => i ≤ 6) (fun i => 6 - i) 0 (by omega) (Weaks.sel (by repeat (first | exact trivial | refine ⟨.rfl, ?_⟩ | refine ⟨.any, ?_⟩)) rfl) fun i hi R hC => ?_
  by_cases hil : i < 6
  · have e3 : 0 + (i : Int).toNat = i := by omega
    obtain ⟨p, hp⟩ : ∃ p, joinL[i]? = some p := ⟨joinL[i]'hil, List.getElem?_eq_getElem hil⟩
    have hrow : (joinL.map fun p => [.c (.string p.1), I p.2])[i]? = some [V.c (.string p.1), I p.2] := by rw [List.getElem?_map, hp]; rfl
    have hst : stdL[6 + i]? = some (joinsM p.1 p.2 0 [1, 2, 4, 5]) := by
      have : ∀ j, j < 6 → ∀ q, joinL[j]? = some q → stdL[6 + j]? = some (joinsM q.1 q.2 0 [1, 2, 4, 5]) := by
        intro j hj q hq
        match j, hj with
        | 0, _ => cases hq; rfl
        | 1, _ => cases hq; rfl
        | 2, _ => cases hq; rfl
        | 3, _ => cases hq; rfl
        | 4, _ => cases hq; rfl
        | 5, _ => cases hq; rfl
      exact this i hil p hp
    have hj := joinsK (6 + i) (by omega) p.1 p.2 0 [1, 2, 4, 5] hst (by decide) (by unfold Adr; decide)
    repeat' (first
    | rw [e3]
    | (show WOpsT _ (⟨_, .ld _ _, none⟩ :: _) _ _ _ _; refine T.ldn rfl rfl rfl hrow (Nat.le_of_ble_eq_true rfl) ?_)
    | simp only [renB_mB]
    | refine T.cP [0, 1, 4] e176 (hj) ?_
    | exact True.intro
    | refine fun (K : KT) hK => ?_
    | intro hcd
    | (refine go1 ?_ ?_ <;> try clear hK K)
    | fail)
    exact hC _ _ (i + 1) (by omega) (by omega) (Weaks.gc [0, 1, 2] 0 rfl (by repeat (first | exact trivial | refine ⟨.rfl, ?_⟩ | refine ⟨.any, ?_⟩)) (by show [mA (6 + i + 1), mB (6 + i + 1), _] = [outB _ [0, 1, 2] 0 (renB [0, 1, 4] (mA (6 + i + 1))), outB _ _ _ (renB _ (mB (6 + i + 1))), outB _ _ _ ⟨1, 2, joinL.map fun p => [.c (.string p.1), I p.2]⟩]; rw [renB_mB, outB_mB]; rfl))
  · obtain rfl : i = 6 := by omega
    repeat' (first
    | (show AKW _ _ (.seq (.cond _ _ _) _) _ _ _ _; refine N.now ?_)
    | exact True.intro
    | refine fun (K : KT) hK => ?_
    | intro hcd
    | (refine goW ?_ ?_ <;> try clear hK K)
    | fail)
    refine N.weak (fr1 := [(0, .ptr 0 1 0 0)]) (h1 := [mA 12, mB 12]) (Weaks.gc [0, 1] 0 rfl ⟨.rfl, trivial⟩ (by show [mA 12, mB 12] = [outB _ [0, 1] 0 (mA 12), outB _ _ _ (mB 12)]; rw [outB_mB]; rfl)) (N.now ?_)
    repeat' (first
    | (show AKW _ _ (.seq (.reg (⟨some 45, _, _⟩ :: _) _) _) _ _ _ _; refine wC 13 ?_)
    | (show AKW _ _ (.seq (.reg (⟨some 48, _, _⟩ :: _) _) _) _ _ _ _; refine wC 14 ?_)
    | (show AKW _ _ (.seq (.reg (⟨some 51, _, _⟩ :: _) _) _) _ _ _ _; refine wC 15 ?_)
    | (show AKW _ _ (.seq (.reg (⟨some 54, _, _⟩ :: _) _) _) _ _ _ _; refine wC 16 ?_)
    | (show AKW _ _ (.seq (.reg (⟨some 57, _, _⟩ :: _) _) _) _ _ _ _; refine wC 17 ?_)
    | (show AKW _ _ (.seq (.reg (⟨some 60, _, _⟩ :: _) _) _) _ _ _ _; refine wC 18 ?_)
    | (show AKW _ _ (.reg (⟨some 63, _, _⟩ :: _) _) _ _ _ _; refine wC 19 ?_)
    | (show WOpsT _ (⟨_, .call _ _, none⟩ :: _) _ _ _ _; first | refine T.cP [0, 1, 2] e176 ((joinsK 12 (by decide) ⟨#[99, 112, 120]⟩ 6 1 [1, 2] rfl (by decide) (by unfold Adr; decide))) ?_ | refine T.cP [0, 1, 2] e176 ((joinsK 13 (by decide) ⟨#[99, 112, 121]⟩ 6 2 [1, 2] rfl (by decide) (by unfold Adr; decide))) ?_ | refine T.cP [0, 1, 2] e177 ((turnsK 14 (by decide) ⟨#[105, 110, 99]⟩ 10 [2, 4] rfl (by decide) (by unfold Adr; decide))) ?_ | refine T.cP [0, 1, 2] e177 ((turnsK 15 (by decide) ⟨#[100, 101, 99]⟩ 11 [2, 4] rfl (by decide) (by unfold Adr; decide))) ?_ | refine T.cP [0, 1, 2] e177 ((turnsK 16 (by decide) ⟨#[97, 115, 108]⟩ 12 [0, 2] rfl (by decide) (by unfold Adr; decide))) ?_ | refine T.cP [0, 1, 2] e177 ((turnsK 17 (by decide) ⟨#[108, 115, 114]⟩ 13 [0, 2] rfl (by decide) (by unfold Adr; decide))) ?_ | refine T.cP [0, 1, 2] e177 ((turnsK 18 (by decide) ⟨#[114, 111, 108]⟩ 14 [0, 2] rfl (by decide) (by unfold Adr; decide))) ?_ | refine T.cP [0, 1, 2] e177 ((turnsK 19 (by decide) ⟨#[114, 111, 114]⟩ 15 [0, 2] rfl (by decide) (by unfold Adr; decide))) ?_)
    | exact True.intro
    | refine fun (K : KT) hK => ?_
    | intro hcd
    | (refine go1 ?_ ?_ <;> try clear hK K)
    | fail)
    exact WS.gc [0, 1] 0 rfl (by show [mA 20, mB 20] = [outB _ [0, 1] 0 (renB [0, 1, 2] (mA 20)), outB _ _ _ (renB _ (mB 20))]; rw [renB_mB, outB_mB]; rfl) .rfl
end Go.Proofs.YtpfagchhmfigfaaGreat.Calc

namespace Go.Proofs.YtpfagchhmfigfaaGreat.Calc
open Go Code
set_option linter.unusedSimpArgs false
set_option linter.unusedVariables false
set_option maxRecDepth 20000
set_option maxHeartbeats 4000000
attribute [local irreducible] WOpsT AW AK RK AKW UK UC
theorem outB_in {h : List Blk} {ids : List Nat} {n v : Nat} {l : List Ins} {x : Ins} {row : List V} (hx : row.map (out h ids n) = inC x) : outB h ids n ⟨v, 4, l.map inC ++ [row]⟩ = ⟨v, 4, l.map inC ++ [inC x]⟩ := by
  rw [outB_flatA, List.map_cons, List.map_nil, hx]
section
variable {P : Program} {q : Nat} {st : List KF} {Q : Exit → Fr → List Blk → Prop} {fr : Fr} {h : List Blk} {c : AC}
theorem wA (k : Nat) (fr1 : Fr) (hA : AK P q c st Q fr1 [mA k, mB k]) (hids : gcOk q h.length [0, 1] = true := by rfl) (hs : selO h [0, 1] 2 fr fr1 := by exact ⟨.rfl, .rfl, .rfl, trivial⟩) (h0 : mA k = outB h [0, 1] 2 (h.getD 0 default) := by rfl) (h1 : mB k = h.getD 1 default := by rfl) : AKW P q c st Q fr h :=
  N.weak (Weaks.gc [0, 1] 2 hids hs (by
    show [_, _] = [outB h [0, 1] 2 (h.getD 0 default), outB h [0, 1] 2 (h.getD 1 default)]
    rw [← h0, ← h1, outB_mB])) (N.now hA)
theorem wB (k : Nat) (hA : AK P q c st Q [(0, .ptr 0 1 0 0)] [mA k, mB k]) (hids : gcOk q h.length [0, 1] = true := by rfl) (hs : selO h [0, 1] 0 fr [(0, .ptr 0 1 0 0)] := by exact ⟨.rfl, trivial⟩) (h0 : h.getD 0 default = renB [0, 1] (mA k) := by rfl) (h1 : h.getD 1 default = renB [0, 1] (mB k) := by rfl) : AKW P q c st Q fr h :=
  N.weak (Weaks.gc [0, 1] 0 hids hs (by
    show [_, _] = [outB h [0, 1] 0 (h.getD 0 default), outB h [0, 1] 0 (h.getD 1 default)]
    rw [h0, h1, renB_mB, outB_mB]; rfl)) (N.now hA)
end
theorem mB_succ {k : Nat} {s : ByteArray} {m : Int} {cy : List Cyc} (hc : stdL[k]? = some [(s, m, cy)]) : mB (k + 1) = ⟨(number 0 (memR k)).length + 1, 4, (number 0 (memR k)).map inC ++ [inC (insN (number 0 (memR k)) s m cy)]⟩ := by
  rw [← mkB_snoc, show number 0 (memR k) ++ [insN (number 0 (memR k)) s m cy] = number 0 (memR (k + 1)) from num_succ hc]; rfl
theorem mA_succ {k : Nat} {c : Row} (hc : stdL[k]? = some [c]) : mA (k + 1) = ⟨1, 1, [[.psl 1 ((number 0 (memR k)).length + 1) 0 ((number 0 (memR k)).length + 1)]]⟩ := by
  unfold mA mkA
  rw [number_len, number_len, memR_succ k _ hc, List.length_append]; rfl
theorem addS1 (k : Nat) (hk : k < 50 ∧ 1 ≤ k) (s : ByteArray) (m b a r : Int) (ss : List Stp) (n : Nat) :
    FnE Tryz.prog 178 [.ptr 0 1 0 0, .c (.string s), I m, .psl 2 1 0 1] [mA k, mB k, ⟨1, 4, [[I b, I a, I r, .psl 3 1 0 n]]⟩, ⟨1, 4, ss.map stC⟩] (.tup [])
      [⟨1, 1, [[.psl 1 ((number 0 (memR k)).length + 1) 0 ((number 0 (memR k)).length + 1)]]⟩, ⟨(number 0 (memR k)).length + 1, 4, (number 0 (memR k)).map inC ++ [[I ((number 0 (memR k)).length + 1), .c (.string s), I m, .psl 2 1 0 1]]⟩, ⟨1, 4, [[I b, I a, I r, .psl 3 1 0 n]]⟩, ⟨1, 4, ss.map stC⟩] := by
  have hl := num_len k hk
  unfold mA mB
  obtain ⟨l, hle⟩ : ∃ l, number 0 (memR k) = l := ⟨_, rfl⟩
  rw [hle] at hl ⊢
  refine N.fn Tryz.func178 k178 lb q178 fun Q hQ hQN => ?_
  rw [c178]
  repeat' (first
  | (show WOpsT _ (⟨_, .app _ _ _ _, none⟩ :: _) _ _ _ _; refine T.app rfl rfl rfl ⟨by decide, by decide⟩ ⟨rfl, rfl, by rw [Nat.zero_add]; exact (List.length_map _).symm, by simp; omega⟩ ?_)
  | (show WOpsT _ (⟨_, .st _ _ _, none⟩ :: _) _ _ _ _; refine T.st rfl rfl (vcells_psl rfl rfl) ⟨rfl, rfl⟩ rfl (Nat.le_of_ble_eq_true rfl) ?_)
  | exact True.intro
  | refine fun (K : KT) hK => ?_
  | intro hcd
  | (refine go1 ?_ ?_ <;> try clear hK K)
  | fail)
  exact WS.gc [0, 1, 2, 3] 0 rfl (by show [_, ⟨_, _, _⟩, _, ⟨1, 4, ss.map stC⟩] = [_, outB _ _ _ ⟨l.length + 1, 4, l.map inC ++ [[I (l.length + 1), .c (.string s), I m, .psl 2 1 0 1]]⟩, _, outB _ _ _ ⟨1, 4, ss.map stC⟩]; rw [outB_flatA, outB_flat]; rfl) .rfl
theorem addS2 (k : Nat) (hk : k < 50 ∧ 1 ≤ k) (s : ByteArray) (m b a r b' a' r' : Int) (ss ss' : List Stp) (n n' : Nat) :
    FnE Tryz.prog 178 [.ptr 0 1 0 0, .c (.string s), I m, .psl 2 1 0 2] [mA k, mB k, ⟨1, 4, [[I b, I a, I r, .psl 3 1 0 n], [I b', I a', I r', .psl 4 1 0 n']]⟩, ⟨1, 4, ss.map stC⟩, ⟨1, 4, ss'.map stC⟩] (.tup [])
      [⟨1, 1, [[.psl 1 ((number 0 (memR k)).length + 1) 0 ((number 0 (memR k)).length + 1)]]⟩, ⟨(number 0 (memR k)).length + 1, 4, (number 0 (memR k)).map inC ++ [[I ((number 0 (memR k)).length + 1), .c (.string s), I m, .psl 2 1 0 2]]⟩, ⟨1, 4, [[I b, I a, I r, .psl 3 1 0 n], [I b', I a', I r', .psl 4 1 0 n']]⟩, ⟨1, 4, ss.map stC⟩, ⟨1, 4, ss'.map stC⟩] := by
  have hl := num_len k hk
  unfold mA mB
  obtain ⟨l, hle⟩ : ∃ l, number 0 (memR k) = l := ⟨_, rfl⟩
  rw [hle] at hl ⊢
  refine N.fn Tryz.func178 k178 lb q178 fun Q hQ hQN => ?_
  rw [c178]
  repeat' (first
  | (show WOpsT _ (⟨_, .app _ _ _ _, none⟩ :: _) _ _ _ _; refine T.app rfl rfl rfl ⟨by decide, by decide⟩ ⟨rfl, rfl, by rw [Nat.zero_add]; exact (List.length_map _).symm, by simp; omega⟩ ?_)
  | (show WOpsT _ (⟨_, .st _ _ _, none⟩ :: _) _ _ _ _; refine T.st rfl rfl (vcells_psl rfl rfl) ⟨rfl, rfl⟩ rfl (Nat.le_of_ble_eq_true rfl) ?_)
  | exact True.intro
  | refine fun (K : KT) hK => ?_
  | intro hcd
  | (refine go1 ?_ ?_ <;> try clear hK K)
  | fail)
  exact WS.gc [0, 1, 2, 3, 4] 0 rfl (by show [_, ⟨_, _, _⟩, _, ⟨1, 4, ss.map stC⟩, ⟨1, 4, ss'.map stC⟩] = [_, outB _ _ _ ⟨l.length + 1, 4, l.map inC ++ [[I (l.length + 1), .c (.string s), I m, .psl 2 1 0 2]]⟩, _, outB _ _ _ ⟨1, 4, ss.map stC⟩, outB _ _ _ ⟨1, 4, ss'.map stC⟩]; rw [outB_flatA, outB_flat, outB_flat]; rfl) .rfl
def row3 (p : ByteArray × Int × Int) : List V := [.c (.string p.1), I p.2.1, I p.2.2]
def tabA : List (ByteArray × Int × Int) := [(⟨#[116, 97, 120]⟩, 1, 0), (⟨#[116, 97, 121]⟩, 2, 0), (⟨#[116, 120, 97]⟩, 0, 1), (⟨#[116, 121, 97]⟩, 0, 2), (⟨#[116, 115, 120]⟩, 1, 3)]
def tabW : List (ByteArray × Int × Int) := [(⟨#[98, 101, 113]⟩, 2, 1), (⟨#[98, 110, 101]⟩, 2, 0), (⟨#[98, 99, 115]⟩, 1, 1), (⟨#[98, 99, 99]⟩, 1, 0), (⟨#[98, 109, 105]⟩, 128, 1), (⟨#[98, 112, 108]⟩, 128, 0)]
theorem alone_ok : FnE Tryz.prog 100 [.ptr 0 1 0 0] [mA 20, mB 20] (.tup []) [mA 39, mB 39] := by
  refine N.fn Tryz.func100 k100 lb q100 fun Q hQ hQN => ?_
  rw [c100]
  repeat' (first
  | exact True.intro
  | refine fun (K : KT) hK => ?_
  | intro hcd
  | (refine goW ?_ ?_ <;> try clear hK K)
  | fail)
  refine N.weak (fr1 := [(0, .ptr 0 1 0 0), (9, .psl 2 1 0 5), (10, I 5), (11, I 0)]) (h1 := [mA 20, mB 20, ⟨1, 3, tabA.map row3⟩]) (Weaks.sel (by repeat (first | exact trivial | refine ⟨.rfl, ?_⟩ | refine ⟨.any, ?_⟩)) rfl) (N.now ?_)
  repeat' (first
  | exact True.intro
  | refine fun (K : KT) hK => ?_
  | intro hcd
  | (refine goW ?_ ?_ <;> try clear hK K)
  | fail)
  refine N.loop (σ := Nat) (fun i => [(0, .ptr 0 1 0 0), (9, .psl 2 1 0 5), (10, I 5), (11, I i)]) (fun i => [mA (20 + i), mB (20 + i), ⟨1, 3, tabA.map row3⟩]) (fun i => i ≤ 5) (fun i => 5 - i) 0 (by omega) (Weaks.sel (by repeat (first | exact trivial | refine ⟨.rfl, ?_⟩ | refine ⟨.any, ?_⟩)) rfl) fun i hi R hC => ?_
  by_cases hil : i < 5
  · have e3 : 0 + (i : Int).toNat = i := by omega
    obtain ⟨p, hp⟩ : ∃ p, tabA[i]? = some p := ⟨tabA[i]'hil, List.getElem?_eq_getElem hil⟩
    have hrow : (tabA.map row3)[i]? = some (row3 p) := by rw [List.getElem?_map, hp]; rfl
    have hst : stdL[20 + i]? = some [(p.1, 0, [noM [twoM 1 p.2.1 p.2.2, oneM 3 p.2.1]])] := by
      have : ∀ j, j < 5 → ∀ q, tabA[j]? = some q → stdL[20 + j]? = some [(q.1, 0, [noM [twoM 1 q.2.1 q.2.2, oneM 3 q.2.1]])] := by
        intro j hj q hq
        match j, hj with
        | 0, _ => cases hq; rfl
        | 1, _ => cases hq; rfl
        | 2, _ => cases hq; rfl
        | 3, _ => cases hq; rfl
        | 4, _ => cases hq; rfl
      exact this i hil p hp
    have hj := addS1 (20 + i) (by omega) p.1 0 0 0 0 [twoM 1 p.2.1 p.2.2, oneM 3 p.2.1] 2
    repeat' (first
    | rw [e3]
    | (show WOpsT _ (⟨_, .ld _ _, none⟩ :: _) _ _ _ _; refine T.ldn rfl rfl rfl hrow (Nat.le_of_ble_eq_true rfl) ?_)
    | rw [rows_renA]
    | (show WOpsT _ (⟨_, .call _ _, none⟩ :: _) _ _ _ _; first | refine T.call0 e180 rfl ((two_ok 1 p.2.1 p.2.2)) ?_ | refine T.call0 e181 rfl ((one_ok 3 p.2.1)) ?_ | refine T.cP [4] e179 ((noP_ok [twoM 1 p.2.1 p.2.2, oneM 3 p.2.1] 2)) ?_ | refine T.cP [0, 1, 5, 4] e178 (hj) ?_)
    | exact True.intro
    | refine fun (K : KT) hK => ?_
    | intro hcd
    | (refine go1 ?_ ?_ <;> try clear hK K)
    | fail)
    exact hC _ _ (i + 1) (by omega) (by omega) (Weaks.gc [0, 1, 2] 2 rfl (by repeat (first | exact trivial | refine ⟨.rfl, ?_⟩ | refine ⟨.any, ?_⟩)) (by rw [show 20 + (i + 1) = 20 + i + 1 from rfl, mA_succ hst, mB_succ hst]; show [_, _, _] = [_, outB _ [0, 1, 2] 2 ⟨_, 4, (number 0 (memR (20 + i))).map inC ++ [_]⟩, _]; rw [outB_in (x := insN (number 0 (memR (20 + i))) p.1 0 ([noM [twoM 1 p.2.1 p.2.2, oneM 3 p.2.1]])) rfl]; rfl))
  · obtain rfl : i = 5 := by omega
    repeat' (first
    | (show AKW _ _ (.seq (.cond _ _ _) _) _ _ _ _; refine N.now ?_)
    | exact True.intro
    | refine fun (K : KT) hK => ?_
    | intro hcd
    | (refine goW ?_ ?_ <;> try clear hK K)
    | fail)
    refine N.weak (fr1 := [(0, .ptr 0 1 0 0)]) (h1 := [mA 25, mB 25]) (Weaks.gc [0, 1] 0 rfl ⟨.rfl, trivial⟩ (by show [mA 25, mB 25] = [outB _ [0, 1] 0 (mA 25), outB _ _ _ (mB 25)]; rw [outB_mB]; rfl)) (N.now ?_)
    repeat' (first
    | (show AK _ _ (.seq (.reg (⟨some 31, _, _⟩ :: _) _) _) _ _ _ _; refine N.cut 5 fun K hK => ?_)
    | (show AKW _ _ (.seq (.reg (⟨some 36, _, _⟩ :: _) _) _) _ _ _ _; refine wA 25 [(0, .ptr 0 1 0 0), (31, .ptr 0 1 0 0), (35, .sl 4 (([noM [twoM 1 3 1]]).map cyC))] ?_)
    | (show AK _ _ (.seq (.reg (⟨some 37, _, _⟩ :: _) _) _) _ _ _ _; refine N.cut 5 fun K hK => ?_)
    | (show AKW _ _ (.seq (.reg (⟨some 42, _, _⟩ :: _) _) _) _ _ _ _; refine wA 26 [(0, .ptr 0 1 0 0), (37, .ptr 0 1 0 0), (41, .sl 4 (([noM [oneM 10 1]]).map cyC))] ?_)
    | (show AKW _ _ (.seq (.reg (⟨some 37, _, _⟩ :: _) _) _) _ _ _ _; refine wB 26 ?_)
    | (show AK _ _ (.seq (.reg (⟨some 43, _, _⟩ :: _) _) _) _ _ _ _; refine N.cut 5 fun K hK => ?_)
    | (show AKW _ _ (.seq (.reg (⟨some 48, _, _⟩ :: _) _) _) _ _ _ _; refine wA 27 [(0, .ptr 0 1 0 0), (43, .ptr 0 1 0 0), (47, .sl 4 (([noM [oneM 10 2]]).map cyC))] ?_)
    | (show AKW _ _ (.seq (.reg (⟨some 43, _, _⟩ :: _) _) _) _ _ _ _; refine wB 27 ?_)
    | (show AK _ _ (.seq (.reg (⟨some 49, _, _⟩ :: _) _) _) _ _ _ _; refine N.cut 5 fun K hK => ?_)
    | (show AKW _ _ (.seq (.reg (⟨some 54, _, _⟩ :: _) _) _) _ _ _ _; refine wA 28 [(0, .ptr 0 1 0 0), (49, .ptr 0 1 0 0), (53, .sl 4 (([noM [oneM 11 1]]).map cyC))] ?_)
    | (show AKW _ _ (.seq (.reg (⟨some 49, _, _⟩ :: _) _) _) _ _ _ _; refine wB 28 ?_)
    | (show AK _ _ (.seq (.reg (⟨some 55, _, _⟩ :: _) _) _) _ _ _ _; refine N.cut 5 fun K hK => ?_)
    | (show AKW _ _ (.seq (.reg (⟨some 60, _, _⟩ :: _) _) _) _ _ _ _; refine wA 29 [(0, .ptr 0 1 0 0), (55, .ptr 0 1 0 0), (59, .sl 4 (([noM [oneM 11 2]]).map cyC))] ?_)
    | (show AKW _ _ (.seq (.reg (⟨some 55, _, _⟩ :: _) _) _) _ _ _ _; refine wB 29 ?_)
    | (show AK _ _ (.seq (.reg (⟨some 61, _, _⟩ :: _) _) _) _ _ _ _; refine N.cut 5 fun K hK => ?_)
    | (show AKW _ _ (.seq (.reg (⟨some 66, _, _⟩ :: _) _) _) _ _ _ _; refine wA 30 [(0, .ptr 0 1 0 0), (61, .ptr 0 1 0 0), (65, .sl 4 (([noM [⟨17, 0, 0, 1⟩]]).map cyC))] ?_)
    | (show AKW _ _ (.seq (.reg (⟨some 61, _, _⟩ :: _) _) _) _ _ _ _; refine wB 30 ?_)
    | (show AK _ _ (.seq (.reg (⟨some 67, _, _⟩ :: _) _) _) _ _ _ _; refine N.cut 5 fun K hK => ?_)
    | (show AKW _ _ (.seq (.reg (⟨some 72, _, _⟩ :: _) _) _) _ _ _ _; refine wA 31 [(0, .ptr 0 1 0 0), (67, .ptr 0 1 0 0), (71, .sl 4 (([noM [⟨16, 0, 0, 1⟩]]).map cyC))] ?_)
    | (show AKW _ _ (.seq (.reg (⟨some 67, _, _⟩ :: _) _) _) _ _ _ _; refine wB 31 ?_)
    | (show AK _ _ (.seq (.reg (⟨some 73, _, _⟩ :: _) _) _) _ _ _ _; refine N.cut 5 fun K hK => ?_)
    | (show AKW _ _ (.seq (.reg (⟨some 78, _, _⟩ :: _) _) _) _ _ _ _; refine wA 32 [(0, .ptr 0 1 0 0), (73, .ptr 0 1 0 0), (77, .sl 4 (([noM [⟨17, 0, 0, 4⟩]]).map cyC))] ?_)
    | (show AKW _ _ (.seq (.reg (⟨some 73, _, _⟩ :: _) _) _) _ _ _ _; refine wB 32 ?_)
    | (show AK _ _ (.seq (.reg (⟨some 79, _, _⟩ :: _) _) _) _ _ _ _; refine N.cut 5 fun K hK => ?_)
    | (show AKW _ _ (.seq (.reg (⟨some 84, _, _⟩ :: _) _) _) _ _ _ _; refine wA 33 [(0, .ptr 0 1 0 0), (79, .ptr 0 1 0 0), (83, .sl 4 (([noM [⟨16, 0, 0, 4⟩]]).map cyC))] ?_)
    | (show AKW _ _ (.seq (.reg (⟨some 79, _, _⟩ :: _) _) _) _ _ _ _; refine wB 33 ?_)
    | (show AK _ _ (.seq (.reg (⟨some 85, _, _⟩ :: _) _) _) _ _ _ _; refine N.cut 3 fun K hK => ?_)
    | (show AKW _ _ (.seq (.reg (⟨some 88, _, _⟩ :: _) _) _) _ _ _ _; refine wA 34 [(0, .ptr 0 1 0 0), (85, .ptr 0 1 0 0), (87, .sl 4 (([noM []]).map cyC))] ?_)
    | (show AKW _ _ (.seq (.reg (⟨some 85, _, _⟩ :: _) _) _) _ _ _ _; refine wB 34 ?_)
    | (show AK _ _ (.seq (.reg (⟨some 89, _, _⟩ :: _) _) _) _ _ _ _; refine N.cut 3 fun K hK => ?_)
    | (show AKW _ _ (.seq (.reg (⟨some 92, _, _⟩ :: _) _) _) _ _ _ _; refine wA 35 [(0, .ptr 0 1 0 0), (89, .ptr 0 1 0 0), (91, .sl 4 (([wrM 4 0 []]).map cyC))] ?_)
    | (show AKW _ _ (.seq (.reg (⟨some 89, _, _⟩ :: _) _) _) _ _ _ _; refine wB 35 ?_)
    | (show AK _ _ (.seq (.reg (⟨some 93, _, _⟩ :: _) _) _) _ _ _ _; refine N.cut 5 fun K hK => ?_)
    | (show AKW _ _ (.seq (.reg (⟨some 98, _, _⟩ :: _) _) _) _ _ _ _; refine wA 36 [(0, .ptr 0 1 0 0), (93, .ptr 0 1 0 0), (97, .sl 4 (([rdM 5 0 [oneM 3 0]]).map cyC))] ?_)
    | (show AKW _ _ (.seq (.reg (⟨some 93, _, _⟩ :: _) _) _) _ _ _ _; refine wB 36 ?_)
    | (show AK _ _ (.seq (.reg (⟨some 99, _, _⟩ :: _) _) _) _ _ _ _; refine N.cut 3 fun K hK => ?_)
    | (show AKW _ _ (.seq (.reg (⟨some 102, _, _⟩ :: _) _) _) _ _ _ _; refine wA 37 [(0, .ptr 0 1 0 0), (99, .ptr 0 1 0 0), (101, .sl 4 (([wrM 4 4 []]).map cyC))] ?_)
    | (show AKW _ _ (.seq (.reg (⟨some 99, _, _⟩ :: _) _) _) _ _ _ _; refine wB 37 ?_)
    | (show AK _ _ (.reg (⟨some 103, _, _⟩ :: _) _) _ _ _ _; refine N.cutN 3 fun K hK => ?_)
    | (show AKW _ _ (.reg (⟨some 106, _, _⟩ :: _) _) _ _ _ _; refine wA 38 [(0, .ptr 0 1 0 0), (103, .ptr 0 1 0 0), (105, .sl 4 (([rdM 5 4 []]).map cyC))] ?_)
    | (show AKW _ _ (.reg (⟨some 103, _, _⟩ :: _) _) _ _ _ _; refine wB 38 ?_)
    | (show WOpsT _ (⟨_, .call _ _, none⟩ :: _) _ _ _ _; first | refine T.call0 e180 rfl ((two_ok 1 3 1)) ?_ | refine T.cP [2] e179 ((noP_ok [twoM 1 3 1] 1)) ?_ rfl rfl | refine T.cP [0, 1] e178 ((addK 25 (by decide) ⟨#[116, 120, 115]⟩ 0 [noM [twoM 1 3 1]] rfl)) ?_ | refine T.call0 e181 rfl ((one_ok 10 1)) ?_ | refine T.cP [2] e179 ((noP_ok [oneM 10 1] 1)) ?_ rfl rfl | refine T.cP [0, 1] e178 ((addK 26 (by decide) ⟨#[105, 110, 120]⟩ 0 [noM [oneM 10 1]] rfl)) ?_ | refine T.call0 e181 rfl ((one_ok 10 2)) ?_ | refine T.cP [2] e179 ((noP_ok [oneM 10 2] 1)) ?_ rfl rfl | refine T.cP [0, 1] e178 ((addK 27 (by decide) ⟨#[105, 110, 121]⟩ 0 [noM [oneM 10 2]] rfl)) ?_ | refine T.call0 e181 rfl ((one_ok 11 1)) ?_ | refine T.cP [2] e179 ((noP_ok [oneM 11 1] 1)) ?_ rfl rfl | refine T.cP [0, 1] e178 ((addK 28 (by decide) ⟨#[100, 101, 120]⟩ 0 [noM [oneM 11 1]] rfl)) ?_ | refine T.call0 e181 rfl ((one_ok 11 2)) ?_ | refine T.cP [2] e179 ((noP_ok [oneM 11 2] 1)) ?_ rfl rfl | refine T.cP [0, 1] e178 ((addK 29 (by decide) ⟨#[100, 101, 121]⟩ 0 [noM [oneM 11 2]] rfl)) ?_ | refine T.cP [2] e179 ((noP_ok [⟨17, 0, 0, 1⟩] 1)) ?_ rfl rfl | refine T.cP [0, 1] e178 ((addK 30 (by decide) ⟨#[99, 108, 99]⟩ 0 [noM [⟨17, 0, 0, 1⟩]] rfl)) ?_ | refine T.cP [2] e179 ((noP_ok [⟨16, 0, 0, 1⟩] 1)) ?_ rfl rfl | refine T.cP [0, 1] e178 ((addK 31 (by decide) ⟨#[115, 101, 99]⟩ 0 [noM [⟨16, 0, 0, 1⟩]] rfl)) ?_ | refine T.cP [2] e179 ((noP_ok [⟨17, 0, 0, 4⟩] 1)) ?_ rfl rfl | refine T.cP [0, 1] e178 ((addK 32 (by decide) ⟨#[99, 108, 105]⟩ 0 [noM [⟨17, 0, 0, 4⟩]] rfl)) ?_ | refine T.cP [2] e179 ((noP_ok [⟨16, 0, 0, 4⟩] 1)) ?_ rfl rfl | refine T.cP [0, 1] e178 ((addK 33 (by decide) ⟨#[115, 101, 105]⟩ 0 [noM [⟨16, 0, 0, 4⟩]] rfl)) ?_ | refine T.call0 e179 rfl (noN_ok) ?_ | refine T.cP [0, 1] e178 ((addK 34 (by decide) ⟨#[110, 111, 112]⟩ 0 [noM []] rfl)) ?_ | refine T.call0 e182 rfl ((wrN_ok 4 0)) ?_ | refine T.cP [0, 1] e178 ((addK 35 (by decide) ⟨#[112, 104, 97]⟩ 0 [wrM 4 0 []] rfl)) ?_ | refine T.call0 e181 rfl ((one_ok 3 0)) ?_ | refine T.cP [2] e102 ((rdP_ok 5 0 [oneM 3 0] 1)) ?_ rfl rfl | refine T.cP [0, 1] e178 ((addK 36 (by decide) ⟨#[112, 108, 97]⟩ 0 [rdM 5 0 [oneM 3 0]] rfl)) ?_ | refine T.call0 e182 rfl ((wrN_ok 4 4)) ?_ | refine T.cP [0, 1] e178 ((addK 37 (by decide) ⟨#[112, 104, 112]⟩ 0 [wrM 4 4 []] rfl)) ?_ | refine T.call0 e102 rfl ((rdN_ok 5 4)) ?_ | refine T.cP [0, 1] e178 ((addK 38 (by decide) ⟨#[112, 108, 112]⟩ 0 [rdM 5 4 []] rfl)) ?_)
    | exact True.intro
    | refine fun (K : KT) hK => ?_
    | intro hcd
    | (refine go1 ?_ ?_ <;> try clear hK K)
    | fail)
    exact WS.gc [0, 1] 0 rfl (by show [mA 39, mB 39] = [outB _ [0, 1] 0 (renB [0, 1] (mA 39)), outB _ _ _ (renB _ (mB 39))]; rw [renB_mB, outB_mB]; rfl) .rfl
theorem ways_ok : FnE Tryz.prog 101 [.ptr 0 1 0 0] [mA 39, mB 39] (.tup []) [mA 49, mB 49] := by
  refine N.fn Tryz.func101 k101 lb q101 fun Q hQ hQN => ?_
  rw [c101]
  repeat' (first
  | (show AK _ _ (.seq (.reg (⟨some 4, _, _⟩ :: _) _) _) _ _ _ _; refine N.cut 5 fun K hK => ?_)
  | (show AKW _ _ (.seq (.reg (⟨some 9, _, _⟩ :: _) _) _) _ _ _ _; refine wA 39 [(0, .ptr 0 1 0 0), (4, .ptr 0 1 0 0), (8, .sl 4 (([rdM 0 5 [], rdM 0 6 (jumpM 7)]).map cyC))] ?_)
  | (show AK _ _ (.seq (.reg (⟨some 10, _, _⟩ :: _) _) _) _ _ _ _; refine N.cut 15 fun K hK => ?_)
  | (show AKW _ _ (.seq (.reg (⟨some 25, _, _⟩ :: _) _) _) _ _ _ _; refine wA 40 [(0, .ptr 0 1 0 0), (10, .ptr 0 1 0 0), (24, .sl 4 (([rdM 0 5 [twoM 18 8 5], rdM 0 5 [twoM 19 8 5, twoM 21 5 7], wrM 4 5 [twoM 20 5 7], wrM 4 5 [twoM 1 7 8]]).map cyC))] ?_)
  | (show AKW _ _ (.seq (.reg (⟨some 10, _, _⟩ :: _) _) _) _ _ _ _; refine wB 40 ?_)
  | (show AK _ _ (.seq (.reg (⟨some 26, _, _⟩ :: _) _) _) _ _ _ _; refine N.cut 5 fun K hK => ?_)
  | (show AKW _ _ (.seq (.reg (⟨some 31, _, _⟩ :: _) _) _) _ _ _ _; refine wA 41 [(0, .ptr 0 1 0 0), (26, .ptr 0 1 0 0), (30, .sl 4 (([rdM 5 5 [], rdM 5 6 (jumpM 7)]).map cyC))] ?_)
  | (show AKW _ _ (.seq (.reg (⟨some 26, _, _⟩ :: _) _) _) _ _ _ _; refine wB 41 ?_)
  | (show AK _ _ (.seq (.reg (⟨some 32, _, _⟩ :: _) _) _) _ _ _ _; refine N.cut 6 fun K hK => ?_)
  | (show AKW _ _ (.seq (.reg (⟨some 38, _, _⟩ :: _) _) _) _ _ _ _; refine wA 42 [(0, .ptr 0 1 0 0), (32, .ptr 0 1 0 0), (37, .sl 4 (([rdM 5 4 [], rdM 5 5 [], rdM 5 6 (jumpM 7)]).map cyC))] ?_)
  | (show AKW _ _ (.seq (.reg (⟨some 32, _, _⟩ :: _) _) _) _ _ _ _; refine wB 42 ?_)
  | (show WOpsT _ (⟨_, .call _ _, none⟩ :: _) _ _ _ _; first | refine T.call0 e102 rfl ((rdN_ok 5 5)) ?_ | refine T.call0 e102 rfl ((rdN_ok 0 5)) ?_ | refine T.call0 e102 rfl ((rdN_ok 5 4)) ?_ | refine T.callN e103 rfl ((jump_ok 7)) (by simp) ?_ | refine T.cP [2] e102 ((rdP_ok 0 6 (jumpM 7) 2)) ?_ rfl rfl | refine T.cP [0, 1] e178 ((addK 39 (by decide) ⟨#[106, 109, 112]⟩ 4 [rdM 0 5 [], rdM 0 6 (jumpM 7)] rfl)) ?_ | refine T.call0 e180 rfl ((two_ok 18 8 5)) ?_ | refine T.call0 e180 rfl ((two_ok 19 8 5)) ?_ | refine T.call0 e180 rfl ((two_ok 21 5 7)) ?_ | refine T.call0 e180 rfl ((two_ok 20 5 7)) ?_ | refine T.call0 e180 rfl ((two_ok 1 7 8)) ?_ | refine T.cP [2] e102 ((rdP_ok 0 5 [twoM 18 8 5] 1)) ?_ rfl rfl | refine T.cP [3] e102 ((rdP_ok 0 5 [twoM 19 8 5, twoM 21 5 7] 2)) ?_ rfl rfl | refine T.cP [4] e182 ((wrP_ok 4 5 [twoM 20 5 7] 1)) ?_ rfl rfl | refine T.cP [5] e182 ((wrP_ok 4 5 [twoM 1 7 8] 1)) ?_ rfl rfl | refine T.cP [0, 1] e178 ((addK 40 (by decide) ⟨#[106, 115, 114]⟩ 4 [rdM 0 5 [twoM 18 8 5], rdM 0 5 [twoM 19 8 5, twoM 21 5 7], wrM 4 5 [twoM 20 5 7], wrM 4 5 [twoM 1 7 8]] rfl)) ?_ | refine T.cP [2] e102 ((rdP_ok 5 6 (jumpM 7) 2)) ?_ rfl rfl | refine T.cP [0, 1] e178 ((addK 41 (by decide) ⟨#[114, 116, 115]⟩ 0 [rdM 5 5 [], rdM 5 6 (jumpM 7)] rfl)) ?_ | refine T.cP [0, 1] e178 ((addK 42 (by decide) ⟨#[114, 116, 105]⟩ 0 [rdM 5 4 [], rdM 5 5 [], rdM 5 6 (jumpM 7)] rfl)) ?_)
  | exact True.intro
  | refine fun (K : KT) hK => ?_
  | intro hcd
  | (refine goW ?_ ?_ <;> try clear hK K)
  | fail)
  refine wB 43 ?_
  repeat' (first
  | exact True.intro
  | refine fun (K : KT) hK => ?_
  | intro hcd
  | (refine goW ?_ ?_ <;> try clear hK K)
  | fail)
  refine N.weak (fr1 := [(0, .ptr 0 1 0 0), (45, .psl 2 1 0 6), (46, I 6), (47, I 0)]) (h1 := [mA 43, mB 43, ⟨1, 3, tabW.map row3⟩]) (Weaks.sel (by repeat (first | exact trivial | refine ⟨.rfl, ?_⟩ | refine ⟨.any, ?_⟩)) rfl) (N.now ?_)
  repeat' (first
  | exact True.intro
  | refine fun (K : KT) hK => ?_
  | intro hcd
  | (refine goW ?_ ?_ <;> try clear hK K)
  | fail)
  refine N.loop (σ := Nat) (fun i => [(0, .ptr 0 1 0 0), (45, .psl 2 1 0 6), (46, I 6), (47, I i)]) (fun i => [mA (43 + i), mB (43 + i), ⟨1, 3, tabW.map row3⟩]) (fun i => i ≤ 6) (fun i => 6 - i) 0 (by omega) (Weaks.sel (by repeat (first | exact trivial | refine ⟨.rfl, ?_⟩ | refine ⟨.any, ?_⟩)) rfl) fun i hi R hC => ?_
  by_cases hil : i < 6
  · have e3 : 0 + (i : Int).toNat = i := by omega
    obtain ⟨p, hp⟩ : ∃ p, tabW[i]? = some p := ⟨tabW[i]'hil, List.getElem?_eq_getElem hil⟩
    have hrow : (tabW.map row3)[i]? = some (row3 p) := by rw [List.getElem?_map, hp]; rfl
    have hst : stdL[43 + i]? = some [(p.1, 7, [rdM 0 5 [⟨24, 0, p.2.2, p.2.1⟩], noM [twoM 23 7 5]])] := by
      have : ∀ j, j < 6 → ∀ q, tabW[j]? = some q → stdL[43 + j]? = some [(q.1, 7, [rdM 0 5 [⟨24, 0, q.2.2, q.2.1⟩], noM [twoM 23 7 5]])] := by
        intro j hj q hq
        match j, hj with
        | 0, _ => cases hq; rfl
        | 1, _ => cases hq; rfl
        | 2, _ => cases hq; rfl
        | 3, _ => cases hq; rfl
        | 4, _ => cases hq; rfl
        | 5, _ => cases hq; rfl
      exact this i hil p hp
    have hj := addS2 (43 + i) (by omega) p.1 7 1 0 5 0 0 0 [⟨24, 0, p.2.2, p.2.1⟩] [twoM 23 7 5] 1 1
    repeat' (first
    | rw [e3]
    | (show WOpsT _ (⟨_, .ld _ _, none⟩ :: _) _ _ _ _; refine T.ldn rfl rfl rfl hrow (Nat.le_of_ble_eq_true rfl) ?_)
    | rw [rows_renA]
    | (show WOpsT _ (⟨_, .call _ _, none⟩ :: _) _ _ _ _; first | refine T.cP [4] e102 ((rdP_ok 0 5 [⟨24, 0, p.2.2, p.2.1⟩] 1)) ?_ | refine T.call0 e180 rfl ((two_ok 23 7 5)) ?_ | refine T.cP [5] e179 ((noP_ok [twoM 23 7 5] 1)) ?_ | refine T.cP [0, 1, 6, 4, 5] e178 (hj) ?_)
    | exact True.intro
    | refine fun (K : KT) hK => ?_
    | intro hcd
    | (refine go1 ?_ ?_ <;> try clear hK K)
    | fail)
    exact hC _ _ (i + 1) (by omega) (by omega) (Weaks.gc [0, 1, 2] 2 rfl (by repeat (first | exact trivial | refine ⟨.rfl, ?_⟩ | refine ⟨.any, ?_⟩)) (by rw [show 43 + (i + 1) = 43 + i + 1 from rfl, mA_succ hst, mB_succ hst]; show [_, _, _] = [_, outB _ [0, 1, 2] 2 ⟨_, 4, (number 0 (memR (43 + i))).map inC ++ [_]⟩, _]; rw [outB_in (x := insN (number 0 (memR (43 + i))) p.1 7 ([rdM 0 5 [⟨24, 0, p.2.2, p.2.1⟩], noM [twoM 23 7 5]])) rfl]; rfl))
  · obtain rfl : i = 6 := by omega
    repeat' (first
    | exact True.intro
    | refine fun (K : KT) hK => ?_
    | intro hcd
    | (refine go1 ?_ ?_ <;> try clear hK K)
    | fail)
    exact WS.gc [0, 1] 0 rfl (by show [mA 49, mB 49] = [outB _ [0, 1] 0 (mA 49), outB _ _ _ (mB 49)]; rw [outB_mB]; rfl) .rfl
end Go.Proofs.YtpfagchhmfigfaaGreat.Calc

namespace Go.Proofs.YtpfagchhmfigfaaGreat.Calc
open Go Code
set_option linter.unusedSimpArgs false
set_option linter.unusedVariables false
set_option maxRecDepth 20000
set_option maxHeartbeats 4000000
attribute [local irreducible] WOpsT AW AK RK AKW UK UC
theorem answers_ok (lo hi : Int) : FnE Tryz.prog 104 [I lo, I hi] [] (.sl 4 ((answersM lo hi).map cyC)) [] := by
  refine N.fn Tryz.func104 k104 lb q104 fun Q hQ hQN => ?_
  rw [c104]
  repeat' (first
  | (show WOpsT _ (⟨_, .call _ _, none⟩ :: _) _ _ _ _; first | refine T.call0 e180 rfl ((two_ok 21 5 7)) ?_ | refine T.call0 e180 rfl ((two_ok 20 5 7)) ?_ | refine T.cP [0] e179 ((noP_ok [twoM 21 5 7] 1)) ?_ | refine T.cP [1] e182 ((wrP_ok 4 5 [twoM 20 5 7] 1)) ?_ | refine T.call0 e182 rfl ((wrN_ok 4 5)) ?_ | refine T.cP [2] e182 ((wrP_ok 4 4 [⟨16, 0, 0, 4⟩] 1)) ?_ | refine T.call0 e102 rfl ((rdN_ok lo 5)) ?_ | refine T.callN e103 rfl ((jump_ok 7)) (by simp) ?_ | refine T.cP [3] e102 ((rdP_ok hi 6 (jumpM 7) 2)) ?_)
  | exact True.intro
  | refine fun (K : KT) hK => ?_
  | intro hcd
  | (refine go1 ?_ ?_ <;> try clear hK K)
  | fail)
  exact WS.drop (n := 2) rfl rfl
def resM : List Cyc := [rdM 10 5 [], rdM 11 6 [twoM 18 7 5, twoM 19 7 6, ⟨2, 3, 0, 255⟩]]
theorem stdCpu_ok : FnE Tryz.prog 52 [] [] (.agg (cpC stdM)) [] := by
  refine N.fn Tryz.func52 k52 lb q52 fun Q hQ hQN => ?_
  rw [c52]
  repeat' (first
  | (show AKW _ _ (.seq (.reg (⟨some 3, _, _⟩ :: _) _) _) _ _ _ _; refine N.now ?_)
  | (show AKW _ _ (.seq (.reg (⟨some 5, _, _⟩ :: _) _) _) _ _ _ _; refine N.now ?_)
  | simp only [renB_mB]
  | refine T.cP [1] e99 (memory_ok) ?_
  | exact True.intro
  | refine fun (K : KT) hK => ?_
  | intro hcd
  | (refine goW ?_ ?_ <;> try clear hK K)
  | fail)
  refine N.weak (fr1 := [(0, .ptr 0 1 0 0), (1, .ptr 1 1 0 0)]) (h1 := [_, mkA 2 (number 0 (memR 20)), mB 20]) (Weaks.sel ⟨.rfl, .rfl, trivial⟩ (by show [_, _, _] = [_, renB [1, 2] (mA 20), renB [1, 2] (mB 20)]; rw [renB_mB]; rfl)) (N.now ?_)
  repeat' (first
  | simp only [renB_mB]
  | refine T.cP [1, 2] e100 (alone_ok) ?_
  | exact True.intro
  | refine fun (K : KT) hK => ?_
  | intro hcd
  | (refine goW ?_ ?_ <;> try clear hK K)
  | fail)
  refine N.weak (fr1 := [(0, .ptr 0 1 0 0), (1, .ptr 1 1 0 0)]) (h1 := [_, mkA 2 (number 0 (memR 39)), mB 39]) (Weaks.sel ⟨.rfl, .rfl, trivial⟩ (by show [_, _, _] = [_, renB [1, 2] (mA 39), renB [1, 2] (mB 39)]; rw [renB_mB]; rfl)) (N.now ?_)
  repeat' (first
  | simp only [renB_mB]
  | refine T.cP [1, 2] e101 (ways_ok) ?_
  | exact True.intro
  | refine fun (K : KT) hK => ?_
  | intro hcd
  | (refine goW ?_ ?_ <;> try clear hK K)
  | fail)
  refine N.weak (fr1 := [(0, .ptr 0 1 0 0), (1, .ptr 1 1 0 0)]) (h1 := [_, mkA 2 (number 0 (memR 49)), mB 49]) (Weaks.sel ⟨.rfl, .rfl, trivial⟩ (by show [_, _, _] = [_, renB [1, 2] (mA 49), renB [1, 2] (mB 49)]; rw [renB_mB]; rfl)) (N.now ?_)
  repeat' (first
  | (show WOpsT _ (⟨_, .app _ _ _ _, none⟩ :: _) _ _ _ _; refine T.app rfl rfl rfl ⟨by decide, by decide⟩ ⟨rfl, rfl, rfl, by decide⟩ ?_)
  | (show WOpsT _ (⟨_, .call _ _, none⟩ :: _) _ _ _ _; first | refine T.call0 e102 rfl ((rdN_ok 10 5)) ?_ | refine T.callN e103 rfl ((jump_ok 7)) (by simp) ?_ | refine T.cP [3] e102 ((rdQ_ok 11 6 [twoM 18 7 5, twoM 19 7 6, ⟨2, 3, 0, 255⟩] 3)) ?_)
  | exact True.intro
  | refine fun (K : KT) hK => ?_
  | intro hcd
  | (refine goW ?_ ?_ <;> try clear hK K)
  | fail)
  refine N.weak (fr1 := [(0, .ptr 0 1 0 0), (1, .ptr 1 1 0 0), (2, .sl 4 (resM.map cyC))]) (h1 := [⟨1, 5, [[.c (.string ⟨#[]⟩), .c (.slice none 0 0), .c (.slice none 0 0), .c (.slice none 0 0), .c (.slice none 0 0)]]⟩, ⟨1, 1, [[.sl 4 ((number 0 (memR 49)).map inC)]]⟩]) (Weaks.gc [0, 1] 2 rfl ⟨.rfl, .rfl, .rfl, trivial⟩ ?_) (N.now ?_)
  · show [_, _] = [_, (⟨1, 1, [[out _ [0, 1] 2 (.psl 2 (number 0 (memR 49)).length 0 (number 0 (memR 49)).length)]]⟩ : Blk)]
    rw [out_rowsK (f := inC) (l := number 0 (memR 49)) rfl rfl (Nat.le_refl _)]; rfl
  repeat' (first
  | (show WOpsT _ (⟨_, .call _ _, none⟩ :: _) _ _ _ _; first | refine T.call0 e104 rfl ((answers_ok 6 7)) ?_ | refine T.call0 e104 rfl ((answers_ok 8 9)) ?_)
  | exact True.intro
  | refine fun (K : KT) hK => ?_
  | intro hcd
  | (refine go1 ?_ ?_ <;> try clear hK K)
  | fail)
  exact WS.drop (n := 0) rfl rfl
end Go.Proofs.YtpfagchhmfigfaaGreat.Calc

namespace Go.Proofs.YtpfagchhmfigfaaGreat.Calc
open Go Code
set_option linter.unusedSimpArgs false
set_option linter.unusedVariables false
set_option maxRecDepth 20000
set_option maxHeartbeats 4000000
attribute [local irreducible] WOpsT AW AK RK AKW UK UC
def Bytes (m : List Int) : Prop := ∀ i, 0 ≤ m.getD i 0 ∧ m.getD i 0 < 256
abbrev memB (m : List Int) : Blk := ⟨1, 1, bcells m⟩
theorem wrap_u8 (n : Int) (h : 0 ≤ n ∧ n < 256) : IntKind.wrap .u8 n = n := by
  simp only [IntKind.wrap, IntKind.signed, IntKind.bits]
  simp
  try omega
def bytesN (l : List Int) (n i : Nat) : List Int := (List.range n).map fun j => if j < i then l.getD j 0 % 256 else 0
def bytesOf (l : List Int) (n : Nat) : List Int := (List.range n).map fun j => l.getD j 0 % 256
theorem bytesN_all (l : List Int) (n : Nat) : bytesN l n n = bytesOf l n := by
  unfold bytesN bytesOf
  apply List.map_congr_left
  intro j hj
  rw [if_pos (by simpa using hj)]
theorem bytesN_zero (l : List Int) (n : Nat) : bytesN l n 0 = List.replicate n 0 := by
  apply List.ext_getElem?
  intro j
  simp only [bytesN, List.getElem?_map, List.getElem?_replicate, Nat.not_lt_zero, if_false]
  by_cases hj : j < n
  · rw [if_pos hj, List.getElem?_range hj]; rfl
  · rw [if_neg hj, List.getElem?_eq_none (by simp; omega)]; rfl
theorem bytesN_len (l : List Int) (n i : Nat) : (bytesN l n i).length = n := by simp [bytesN]
theorem bytesOf_len (l : List Int) (n : Nat) : (bytesOf l n).length = n := by simp [bytesOf]
theorem bytesN_set (l : List Int) (n i : Nat) (hi : i < n) : (bytesN l n i).set i (l.getD i 0 % 256) = bytesN l n (i + 1) := by
  apply List.ext_getElem?
  intro j
  simp only [bytesN]
  by_cases hij : i = j
  · subst hij
    rw [List.getElem?_set_self (by simpa using hi), List.getElem?_map, List.getElem?_range hi]
    simp
  · rw [List.getElem?_set_ne hij, List.getElem?_map, List.getElem?_map]
    by_cases hj : j < n
    · rw [List.getElem?_range hj]
      simp only [Option.map_some]
      by_cases h2 : j < i
      · rw [if_pos h2, if_pos (by omega)]
      · rw [if_neg h2, if_neg (by omega)]
    · rw [List.getElem?_eq_none (by simp; omega)]; rfl
theorem bytesOf_bytes (l : List Int) (n : Nat) : Bytes (bytesOf l n) := by
  intro i
  simp only [bytesOf, List.getD_eq_getElem?_getD, List.getElem?_map]
  by_cases hi : i < n
  · rw [List.getElem?_range hi]
    simp only [Option.map_some, Option.getD_some]
    omega
  · rw [List.getElem?_eq_none (by simp; omega)]
    simp
theorem sval_drop (l : List Int) (i : Nat) (n : Int) (hn : 0 < n) : sval (l.drop i) n = l.getD i 0 % n := by
  unfold sval
  rw [if_neg (by omega), List.getD_eq_getElem?_getD]
  by_cases hi : i < l.length
  · rw [List.drop_eq_getElem_cons hi, List.getElem?_eq_getElem hi]; rfl
  · rw [List.drop_eq_nil_of_le (by omega), List.getElem?_eq_none (by omega)]; simp
theorem srest_drop (l : List Int) (i : Nat) (n : Int) (hn : 0 < n) : srest (l.drop i) n = l.drop (i + 1) := by
  unfold srest
  rw [if_neg (by omega), List.tail_drop]
theorem repl_bcells (n : Nat) : List.replicate n [V.c (.int .u8 0)] = bcells (List.replicate n 0) := by simp [bcells]
theorem bytes_ok (l : List Int) (n : Nat) (hn : n ≤ 1099511627776) : FnE Tryz.prog 54 [.sl 1 (cells l), I n] [] (.psl 0 1 0 n) [memB (bytesOf l n)] := by
  refine N.fn Tryz.func54 k54 lb q54 fun Q hQ hQN => ?_
  rw [c54]
  have e0 : (max (0 : Int) n).toNat = n := by omega
  repeat' (first
  | (show WOpsT _ (⟨_, .mksl _ _ _ _, none⟩ :: _) _ _ _ _; refine T.mksl rfl rfl ⟨by decide, by decide, by omega, by omega, by omega⟩ ?_)
  | rw [e0]
  | exact True.intro
  | refine fun (K : KT) hK => ?_
  | intro hcd
  | (refine go1 ?_ ?_ <;> try clear hK K)
  | fail)
  rw [repl_bcells]
  refine N.loop (σ := Nat) (fun i => [(5, .ptr 0 1 0 0), (6, .psl 1 1 0 n), (15, I n), (16, I i)]) (fun i => [strB (l.drop i), memB (bytesN l n i)]) (fun i => i ≤ n) (fun i => n - i) 0 (Nat.zero_le _) (Weaks.sel (by repeat (first | exact trivial | refine ⟨.rfl, ?_⟩ | refine ⟨.any, ?_⟩)) (by rw [bytesN_zero]; rfl)) fun i hi C hC => ?_
  have hx := next_ok (l.drop i) 256 (by decide)
  rw [sval_drop l i 256 (by decide), srest_drop l i 256 (by decide)] at hx
  have hw : IntKind.wrap .u8 (l.getD i 0 % 256) = l.getD i 0 % 256 := wrap_u8 _ (by omega)
  by_cases hin : i < n
  · have hg : (bcells (bytesN l n i))[0 + ((i : Int)).toNat]? = some [.c (.int .u8 ((bytesN l n i).getD i 0))] := by
      rw [Nat.zero_add, Int.toNat_natCast]; exact bget (by rw [bytesN_len]; exact hin)
    have hset : (bcells (bytesN l n i)).set ((i : Int)).toNat (spl [.c (.int .u8 ((bytesN l n i).getD i 0))] 0 [.c (.int .u8 (l.getD i 0 % 256))]) = bcells (bytesN l n (i + 1)) := by
      rw [Int.toNat_natCast, ← bytesN_set l n i hin]; exact bcells_set _ _ _
    repeat' (first
    | rw [hw]
    | (show WOpsT _ (⟨_, .st _ _ _, none⟩ :: _) _ _ _ _; refine T.st rfl rfl rfl ⟨rfl, rfl⟩ hg (Nat.le_of_ble_eq_true rfl) ?_)
    | rw [hset]
    | refine T.call1 0 e53 rfl rfl (hx) ?_
    | exact True.intro
    | refine fun (K : KT) hK => ?_
    | intro hcd
    | (refine go1 ?_ ?_ <;> try clear hK K)
    | fail)
    exact hC _ _ (i + 1) (by omega) (by omega) (Weaks.sel (by repeat (first | exact trivial | refine ⟨.rfl, ?_⟩ | refine ⟨.any, ?_⟩)) rfl)
  · obtain rfl : i = n := by omega
    rw [bytesN_all]
    repeat' (first
    | exact True.intro
    | refine fun (K : KT) hK => ?_
    | intro hcd
    | (refine go1 ?_ ?_ <;> try clear hK K)
    | fail)
    exact WS.gc [1] 1 rfl (by simp [outH, outB, bcells_out]) .rfl
end Go.Proofs.YtpfagchhmfigfaaGreat.Calc

