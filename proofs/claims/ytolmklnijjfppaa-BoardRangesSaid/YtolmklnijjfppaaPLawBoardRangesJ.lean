/- Several texts in one (FnBoard, PureRange, FnLawParts, FnRange), for the proof of LawBoardRanges. No condition beyond those in each lemma. -/
import Derived.Test.YtolmklnijjfppaaPLawBoardRangesI
import Derived.Test.YtolmklnijjfppaaPLawBoardRangesD
namespace Go.Proofs.Ytolmklnijjfppaa.Calc
open Go Code
set_option linter.unusedSimpArgs false
set_option linter.unusedVariables false
set_option maxRecDepth 20000
set_option maxHeartbeats 4000000
attribute [local irreducible] WOpsT AW AK RK AKW UK UC
def Apart (c d : Chp) : Prop := c.name ≠ d.name ∧ (c.base + c.size ≤ d.base ∨ d.base + d.size ≤ c.base)
structure VBoard (b : Brd) : Prop where
  name : VName b.name
  cpu : VCpu b.cpu
  num : b.chips.length ≤ 12
  kinds : ∀ c ∈ b.chips, VKind c
  places : ∀ c ∈ b.chips, VPlace c
  apart : ∀ i j (h : j < b.chips.length) (hij : i < j), Apart b.chips[i] b.chips[j]
  wnum : b.wires.length ≤ 40
theorem bcheck_ok (b : Brd) (hb : VBoard b) (hw : ∀ w ∈ b.wires, FnE Try.prog 50 [.agg (boV b), .agg (wiV w)] [] (I 0) []) (hct : ∀ i (h : i < b.wires.length), FnE Try.prog 51 [.sl 2 ((b.wires.take i).map wiV), .agg (wiV b.wires[i])] [] (.c (.bool false)) []) : FnE Try.prog 25 [.agg (boV b)] [] (I 0) [] := by
  obtain ⟨hn, hcpu, hnum, hki, hpl, hap, hwn⟩ := hb
  obtain ⟨bn, ⟨nm, ins, r1, r2, r3⟩, cs, ws⟩ := b
  dsimp only at hn hcpu hnum hki hpl hap hwn hw hct
  have hname := name_ok bn hn
  have htc := tcheck_ok _ hcpu
  have hks : ∀ c ∈ cs, 1 ≤ c.size ∧ c.size ≤ 4096 := fun c hc => by
    rcases hki c hc with ⟨z, hk, hs, h1, hd, hb⟩ | ⟨nb, hk, hs, h1, hd, hb⟩ | ⟨hk, hs, hd⟩ | ⟨nd, hk, hs, hn, hd, hb⟩
    · omega
    · omega
    · rw [hs]
      rcases hk with h | h | h | h | h <;> rw [h] <;> decide
    · omega
  unfold boV cpC at hw ⊢
  dsimp only [List.cons_append, List.nil_append] at hw ⊢
  dsimp only [cpC] at htc
  refine N.fn Try.func25 k25 lb q25 fun Q hQ hQN => ?_
  rw [c25]
  repeat' (first
  | rw [List.length_map]
  | rw [Bool.not_true]
  | (show WOpsT _ (⟨_, .call _ _, none⟩ :: _) _ _ _ _; first | refine T.call0 e39 rfl (hname) ?_ | refine T.call0 e17 rfl (htc) ?_)
  | exact True.intro
  | refine fun (K : KT) hK => ?_
  | intro hcd
  | (refine go1 ?_ ?_ <;> try clear hK K)
  | fail)
  all_goals first
    | (exfalso; omega)
    | skip
  refine N.loop (σ := Nat) (fun i => [(1, .ptr 0 1 0 0), (27, .sl 5 (cs.map chV)), (28, I cs.length), (29, I i)]) (fun i => [⟨1, 8, [[.c (.string bn), .c (.string nm), .sl 4 (ins.map inC), .sl 4 (r1.map cyC), .sl 4 (r2.map cyC), .sl 4 (r3.map cyC), .sl 5 (cs.map chV), .sl 2 (ws.map wiV)]]⟩]) (fun i => i ≤ cs.length) (fun i => cs.length - i) 0 (Nat.zero_le _) (Weaks.sel (by repeat (first | exact trivial | refine ⟨.rfl, ?_⟩ | refine ⟨.any, ?_⟩)) rfl) fun i hi R hC => ?_
  by_cases hil : i < cs.length
  · have hm := mget chV cs i hil
    have hck := check_v _ (hki _ (List.getElem_mem hil)) (hpl _ (List.getElem_mem hil))
    have hsz := hks _ (List.getElem_mem hil)
    have hp := hpl _ (List.getElem_mem hil)
    have hap2 := fun j hj => hap j i hil hj
    generalize hx : cs[i] = x at *
    have e2 : (List.drop (Int.toNat 0) (cs.map chV)).take ((i : Int).toNat - Int.toNat 0) = (cs.take i).map chV := by
      rw [show Int.toNat 0 = 0 from rfl, List.drop_zero, Int.toNat_natCast, Nat.sub_zero, List.map_take]
    have e3 : (cs.map chV).take i = (cs.take i).map chV := List.map_take.symm
    have e4 : (cs.take i).length = i := by rw [List.length_take]; omega
    obtain ⟨xn, xk, xb, xs, xd⟩ := x
    obtain ⟨_, _, p1, p2⟩ := hp
    dsimp only [chV] at hm hck p1 p2 hsz
    repeat' (first
    | (show WOpsT _ (⟨_, .idx _ _ _ _, none⟩ :: _) _ _ _ _; refine T.idxs rfl rfl rfl (by omega) hm ?_)
    | rw [e2]
    | rw [e3]
    | rw [List.length_map]
    | rw [e4]
    | (show WOpsT _ (⟨_, .slc _ _ _ _, none⟩ :: _) _ _ _ _; refine T.slcS rfl rfl rfl rfl (by rw [List.length_map]; omega) ?_)
    | refine T.call0 e49 rfl (hck) ?_
    | exact True.intro
    | refine fun (K : KT) hK => ?_
    | intro hcd
    | (refine go1 ?_ ?_ <;> try clear hK K)
    | fail)
    refine N.loop (σ := Nat) (fun k => [(1, .ptr 0 1 0 0), (5, .ptr 1 1 0 0), (27, .sl 5 (cs.map chV)), (28, I cs.length), (29, I i), (42, .sl 5 ((cs.take i).map chV)), (43, I i), (44, I k)]) (fun k => [⟨1, 8, [[.c (.string bn), .c (.string nm), .sl 4 (ins.map inC), .sl 4 (r1.map cyC), .sl 4 (r2.map cyC), .sl 4 (r3.map cyC), .sl 5 (cs.map chV), .sl 2 (ws.map wiV)]]⟩, ⟨1, 5, [[.c (.string xn), I xk, I xb, I xs, .sl 1 (bcells xd)]]⟩]) (fun k => k ≤ i) (fun k => i - k) 0 (Nat.zero_le _) (Weaks.sel (by repeat (first | exact trivial | refine ⟨.rfl, ?_⟩ | refine ⟨.any, ?_⟩)) rfl) fun k hk R2 hC2 => ?_
    by_cases hkl : k < i
    · have hm2 : ((cs.take i).map chV)[((k : Nat) : Int).toNat]? = some (chV cs[k]) := by
        rw [Int.toNat_natCast, List.getElem?_map, List.getElem?_take_of_lt hkl, List.getElem?_eq_getElem (by omega)]; rfl
      have ha := hap2 k hkl
      have hsz2 := hks _ (List.getElem_mem (show k < cs.length by omega))
      have hp2 := hpl _ (List.getElem_mem (show k < cs.length by omega))
      generalize cs[k] = y at *
      obtain ⟨yn, yk, yb, ys, yd⟩ := y
      obtain ⟨_, _, p3, p4⟩ := hp2
      obtain ⟨a1, a2⟩ := ha
      dsimp only [chV] at hm2 a1 a2 p3 p4 hsz2
      have hne : decide (yn = xn) = false := decide_eq_false a1
      repeat' (first
      | (show WOpsT _ (⟨_, .idx _ _ _ _, none⟩ :: _) _ _ _ _; refine T.idxs rfl rfl rfl (by omega) hm2 ?_)
      | rw [hne]
      | exact True.intro
      | refine fun (K : KT) hK => ?_
      | intro hcd
      | (refine go1 ?_ ?_ <;> try clear hK K)
      | fail)
      all_goals first
        | exact hC2 _ _ (k + 1) (by omega) (by omega) (Weaks.gc [0, 1] 1 rfl (by repeat (first | exact trivial | refine ⟨.rfl, ?_⟩ | refine ⟨.any, ?_⟩)) (by first | rfl | (symm; unfold outH; simp only [List.map]; (repeat' (first | rfl | exact outB_bytes | exact outB_ints | exact outB_flat | refine consE ?_ ?_)); done)))
        | (exfalso; omega)
        | trace_state
    · obtain rfl : k = i := by omega
      repeat' (first
      | exact True.intro
      | refine fun (K : KT) hK => ?_
      | intro hcd
      | (refine go1 ?_ ?_ <;> try clear hK K)
      | fail)
      exact hC _ _ (k + 1) (by omega) (by omega) (Weaks.gc [0] 1 rfl (by repeat (first | exact trivial | refine ⟨.rfl, ?_⟩ | refine ⟨.any, ?_⟩)) (by first | rfl | (symm; unfold outH; simp only [List.map]; (repeat' (first | rfl | exact outB_bytes | exact outB_ints | exact outB_flat | refine consE ?_ ?_)); done)))
  · obtain rfl : i = cs.length := by omega
    clear hC
    repeat' (first
    | rw [List.length_map]
    | exact True.intro
    | refine fun (K : KT) hK => ?_
    | intro hcd
    | (refine go1 ?_ ?_ <;> try clear hK K)
    | fail)
    all_goals first
      | (exfalso; omega)
      | skip
    refine N.loop (σ := Nat) (fun i => [(1, .ptr 0 1 0 0), (80, .sl 2 (ws.map wiV)), (81, I ws.length), (82, I i)]) (fun i => [⟨1, 8, [[.c (.string bn), .c (.string nm), .sl 4 (ins.map inC), .sl 4 (r1.map cyC), .sl 4 (r2.map cyC), .sl 4 (r3.map cyC), .sl 5 (cs.map chV), .sl 2 (ws.map wiV)]]⟩]) (fun i => i ≤ ws.length) (fun i => ws.length - i) 0 (Nat.zero_le _) (Weaks.sel (by repeat (first | exact trivial | refine ⟨.rfl, ?_⟩ | refine ⟨.any, ?_⟩)) rfl) fun i hi R hC => ?_
    by_cases hil : i < ws.length
    · have hm := mget wiV ws i hil
      have h1 := hw _ (List.getElem_mem hil)
      have h2 := hct i hil
      have e2 : (List.drop (Int.toNat 0) (ws.map wiV)).take ((i : Int).toNat - Int.toNat 0) = (ws.take i).map wiV := by
        rw [show Int.toNat 0 = 0 from rfl, List.drop_zero, Int.toNat_natCast, Nat.sub_zero, List.map_take]
      have e3 : (ws.map wiV).take i = (ws.take i).map wiV := List.map_take.symm
      generalize ws[i] = w at *
      obtain ⟨w1, w2⟩ := w
      dsimp only [wiV] at hm h1 h2
      repeat' (first
      | (show WOpsT _ (⟨_, .idx _ _ _ _, none⟩ :: _) _ _ _ _; refine T.idxs rfl rfl rfl (by omega) hm ?_)
      | rw [e2]
      | rw [e3]
      | (show WOpsT _ (⟨_, .slc _ _ _ _, none⟩ :: _) _ _ _ _; refine T.slcS rfl rfl rfl rfl (by rw [List.length_map]; omega) ?_)
      | (show WOpsT _ (⟨_, .call _ _, none⟩ :: _) _ _ _ _; first | refine T.call0 e50 rfl (h1) ?_ | refine T.call0 e51 rfl (h2) ?_)
      | exact True.intro
      | refine fun (K : KT) hK => ?_
      | intro hcd
      | (refine go1 ?_ ?_ <;> try clear hK K)
      | fail)
      all_goals first
        | exact hC _ _ (i + 1) (by omega) (by omega) (Weaks.gc [0] 1 rfl (by repeat (first | exact trivial | refine ⟨.rfl, ?_⟩ | refine ⟨.any, ?_⟩)) (by first | rfl | (symm; unfold outH; simp only [List.map]; (repeat' (first | rfl | exact outB_bytes | exact outB_ints | exact outB_flat | refine consE ?_ ?_)); done)))
        | (exfalso; omega)
        | trace_state
    · obtain rfl : i = ws.length := by omega
      repeat' (first
      | exact True.intro
      | refine fun (K : KT) hK => ?_
      | intro hcd
      | (refine go1 ?_ ?_ <;> try clear hK K)
      | fail)
      exact WS.c rfl rfl
def hasA (a : Int) (c : Chp) : Bool := decide (c.base ≤ a ∧ a < c.base + c.size)
def findC (cs : List Chp) (a : Int) : Option Nat := cs.findIdx? (hasA a)
def findR (cs : List Chp) (a : Int) : V := match findC cs a with
  | some i => .tup [I i, I (a - (cs.getD i ramC).base), .c (.bool true)]
  | none => .tup [I 0, I 0, .c (.bool false)]
theorem wrapU64 (n : Int) (h : 0 ≤ n ∧ n < 9223372036854775808) : IntKind.wrap .u64 n = n := by
  simp only [IntKind.wrap, IntKind.signed, IntKind.bits]
  simp
  omega
theorem subU64 (a b : Int) (h : 0 ≤ b ∧ b ≤ a ∧ a < 9223372036854775808) : binV .sub (.int .u64 a) (.int .u64 b) = some (.int .u64 (a - b)) := by
  have := wrapU64 (a - b) (by omega)
  simp only [binV, this]
  rw [if_pos trivial]
theorem find_k (b : Brd) (a : Int) (hc : ∀ c ∈ b.chips, 0 ≤ c.base ∧ c.base ≤ 65536 ∧ 1 ≤ c.size ∧ c.size ≤ 65536) (hn : b.chips.length ≤ 1000) (ha : 0 ≤ a ∧ a < 65536) : FnE Try.prog 22 [.agg (boV b), I a] [] (findR b.chips a) [] := by
  obtain ⟨bn, ⟨nm, ins, r1, r2, r3⟩, cs, ws⟩ := b
  dsimp only at hc hn
  unfold boV cpC
  dsimp only [List.cons_append, List.nil_append]
  generalize hF : findR cs a = F
  refine N.fn Try.func22 k22 lb q22 fun Q hQ hQN => ?_
  rw [c22]
  repeat' (first
  | rw [List.length_map]
  | exact True.intro
  | refine fun (K : KT) hK => ?_
  | intro hcd
  | (refine go1 ?_ ?_ <;> try clear hK K)
  | fail)
  refine N.loop (σ := Nat) (fun i => [(1, I a), (10, .sl 5 (cs.map chV)), (11, I cs.length), (12, I i)]) (fun i => []) (fun i => i ≤ cs.length ∧ ∀ j, j < i → ∀ hj : j < cs.length, hasA a cs[j] = false) (fun i => cs.length - i) 0 ⟨Nat.zero_le _, fun j hj => absurd hj (by omega)⟩ (Weaks.gc [] 1 rfl (by repeat (first | exact trivial | refine ⟨.rfl, ?_⟩ | refine ⟨.any, ?_⟩)) (by first | rfl | (symm; unfold outH; simp only [List.map]; (repeat' (first | rfl | exact outB_bytes | exact outB_ints | exact outB_flat | refine consE ?_ ?_)); done))) fun i hi R hC => ?_
  obtain ⟨hi, hpre⟩ := hi
  by_cases hil : i < cs.length
  · have hm := mget chV cs i hil
    have hx := hc _ (List.getElem_mem hil)
    have hyes : hasA a cs[i] = true → F = .tup [I i, I (a - cs[i].base), .c (.bool true)] := fun h => by
      rw [← hF]
      unfold findR findC
      rw [show cs.findIdx? (hasA a) = some i from List.findIdx?_eq_some_iff_getElem.2 ⟨hil, h, fun j hj => by rw [hpre j hj (by omega)]; decide⟩]
      simp [hil]
    have hno : hasA a cs[i] = false → ∀ j, j < i + 1 → ∀ hj : j < cs.length, hasA a cs[j] = false := fun h j hj hjl => by
      by_cases hji : j = i
      · subst hji; exact h
      · exact hpre j (by omega) hjl
    generalize cs[i] = x at *
    obtain ⟨xn, xk, xb, xs, xd⟩ := x
    dsimp only [chV, hasA] at hm hx hyes hno
    have u1 := wrapU64 a (by omega)
    have u2 := wrapU64 xb (by omega)
    have u3 := wrapU64 xs (by omega)
    repeat' (first
    | (show WOpsT _ (⟨_, .idx _ _ _ _, none⟩ :: _) _ _ _ _; refine T.idxs rfl rfl rfl (by omega) hm ?_)
    | rw [u1]
    | rw [u2]
    | rw [u3]
    | (show WOpsT _ (⟨_, .bin _ _ _, none⟩ :: _) _ _ _ _; refine T.bin rfl rfl (subU64 a xb (by omega)) ?_)
    | exact True.intro
    | refine fun (K : KT) hK => ?_
    | intro hcd
    | (refine go1 ?_ ?_ <;> try clear hK K)
    | fail)
    all_goals first
      | (exfalso; omega)
      | (rw [hyes (decide_eq_true (by omega))]; exact WS.drop (n := 0) rfl rfl)
      | exact hC _ _ (i + 1) ⟨by omega, hno (decide_eq_false (by omega))⟩ (by omega) (Weaks.gc [] 1 rfl (by repeat (first | exact trivial | refine ⟨.rfl, ?_⟩ | refine ⟨.any, ?_⟩)) (by first | rfl | (symm; unfold outH; simp only [List.map]; (repeat' (first | rfl | exact outB_bytes | exact outB_ints | exact outB_flat | refine consE ?_ ?_)); done)))
      | trace_state
  · obtain rfl : i = cs.length := by omega
    have hF : F = .tup [I 0, I 0, .c (.bool false)] := by
      rw [← hF]
      unfold findR findC
      rw [show cs.findIdx? (hasA a) = none from List.findIdx?_eq_none_iff.2 fun x hx => by obtain ⟨j, hj, rfl⟩ := List.getElem_of_mem hx; exact hpre j hj hj]
    subst hF
    repeat' (first
    | exact True.intro
    | refine fun (K : KT) hK => ?_
    | intro hcd
    | (refine go1 ?_ ?_ <;> try clear hK K)
    | fail)
    exact WS.drop (n := 0) rfl rfl
end Go.Proofs.Ytolmklnijjfppaa.Calc

namespace Go.Proofs.Ytolmklnijjfppaa.Calc
open Go
set_option linter.unusedVariables false
set_option linter.unusedSimpArgs false
def vnmB (s : ByteArray) : Bool := decide (1 ≤ s.size) && decide (s.size ≤ 20) && (match s[0]? with
  | some b => decide (97 ≤ b.toNat) && decide (b.toNat ≤ 122)
  | none => false) && (nmB s).all fun b => decide ((97 ≤ b ∧ b ≤ 122) ∨ (48 ≤ b ∧ b ≤ 57) ∨ b = 45)
theorem vnm_of (s : ByteArray) (h : vnmB s = true) : VName s := by
  unfold vnmB at h
  rw [Bool.and_eq_true, Bool.and_eq_true, Bool.and_eq_true] at h
  obtain ⟨⟨⟨h1, h2⟩, h3⟩, h4⟩ := h
  refine ⟨⟨of_decide_eq_true h1, of_decide_eq_true h2⟩, ?_, fun x hx => by have h5 := List.all_eq_true.1 h4 x hx; unfold okCh; exact of_decide_eq_true h5⟩
  cases hs : s[0]? with
  | none => rw [hs] at h3; cases h3
  | some b =>
    rw [hs] at h3
    dsimp only at h3
    rw [Bool.and_eq_true] at h3
    have a := of_decide_eq_true h3.1
    have b' := of_decide_eq_true h3.2
    exact ⟨b, rfl, by omega, by omega⟩
theorem chipN_v : ∀ j : Nat, j < 5 → vnmB (chipN j) = true ∧ chipN j ≠ ⟨#[99, 112, 117]⟩ ∧ chipN j ≠ ⟨#[114, 97, 109]⟩ ∧ chipN j ≠ ⟨#[114, 111, 109]⟩ := by decide +kernel
theorem chipN_inj : ∀ j : Nat, j < 5 → ∀ k : Nat, k < j → chipN k ≠ chipN j := by decide +kernel
structure BdInv (i : Nat) (a : Int) (cs : List Chp) : Prop where
  len : cs.length = i + 1
  lo : ∀ c ∈ cs, 0 ≤ c.base ∧ 0 ≤ c.size ∧ c.base + c.size ≤ a
  order : ∀ j k (h : k < cs.length) (hjk : j < k), cs[j].base + cs[j].size ≤ cs[k].base
  names : ∀ j (h : j < cs.length), cs[j].name = if j = 0 then ⟨#[114, 97, 109]⟩ else chipN (j - 1)
theorem goBd_place : ∀ (n i : Nat) (a : Int) (cs : List Chp) (ws : List Wir) (l : List Int), i + n ≤ 4 → 57344 ≤ a ∧ a ≤ 57344 + 48 * i → BdInv i a cs → ∃ a' : Int, a' ≤ 57344 + 48 * (i + n : Nat) ∧ BdInv (i + n) a' (goBd n i a cs ws l).1 := by
  intro n
  induction n with
  | zero => intro i a cs ws l _ ha h; exact ⟨a, by rw [Nat.add_zero]; exact ha.2, h⟩
  | succ n ih =>
    intro i a cs ws l hn ha h
    have hz := szN_r (kdN (sval l 8).toNat)
    unfold goBd
    generalize kdN (sval l 8).toNat = k at *
    have hc : (stepBd k i a (srest l 8)).1.name = chipN i ∧ (stepBd k i a (srest l 8)).1.base = a ∧ (stepBd k i a (srest l 8)).1.size = szN k := ⟨rfl, rfl, rfl⟩
    generalize (stepBd k i a (srest l 8)).1 = c at *
    obtain ⟨c1, c2, c3⟩ := hc
    have hlast : ∀ (h : cs.length < (cs ++ [c]).length), (cs ++ [c])[cs.length] = c := fun h => by simp
    obtain ⟨a', h1, h2⟩ := ih (i + 1) (a + ((szN k : Int) + 15) / 16 * 16) (cs ++ [c]) (ws ++ (stepBd k i a (srest l 8)).2.1) (stepBd k i a (srest l 8)).2.2 (by omega) (by omega) (by
      refine ⟨by rw [List.length_append, h.len]; rfl, ?_, ?_, ?_⟩
      · intro x hx
        rcases List.mem_append.1 hx with hx | hx
        · have := h.lo x hx; omega
        · simp only [List.mem_singleton] at hx; subst hx; omega
      · intro j q hq hjq
        by_cases hq2 : q < cs.length
        · rw [List.getElem_append_left hq2, List.getElem_append_left (by omega)]; exact h.order j q hq2 hjq
        · have : q = cs.length := by rw [List.length_append] at hq; simp at hq; omega
          subst this
          rw [hlast hq, List.getElem_append_left hjq, c2]
          have := h.lo cs[j] (List.getElem_mem _)
          omega
      · intro j hj
        by_cases hj2 : j < cs.length
        · rw [List.getElem_append_left hj2]; exact h.names j hj2
        · have : j = cs.length := by rw [List.length_append] at hj; simp at hj; omega
          subst this
          rw [hlast hj, c1, h.len, if_neg (by omega)]
          rfl)
    exact ⟨a', by rw [show i + (n + 1) = i + 1 + n by omega]; exact h1, by rw [show i + (n + 1) = i + 1 + n by omega]; exact h2⟩
theorem mkBrd_places (l : List Int) : (∀ c ∈ (mkBrd l).chips, VPlace c) ∧ ∀ i j (h : j < (mkBrd l).chips.length) (hij : i < j), Apart (mkBrd l).chips[i] (mkBrd l).chips[j] ∧ (mkBrd l).chips[i].base + (mkBrd l).chips[i].size ≤ (mkBrd l).chips[j].base := by
  have r := sval_range l 5 (by decide)
  obtain ⟨a', h1, h2⟩ := goBd_place (sval l 5).toNat 0 57344 [ramC] [] (srest l 5) (by omega) (by decide) ⟨rfl, by
    intro c hc; simp only [List.mem_singleton] at hc; subst hc; decide, fun j k h hjk => absurd h (by simp; omega), fun j h => by
      have : j = 0 := by simp at h; omega
      subst this; rfl⟩
  rw [Nat.zero_add] at h1 h2
  have hcs : (mkBrd l).chips = (goBd (sval l 5).toNat 0 57344 [ramC] [] (srest l 5)).1 ++ [romC (bdOf l).2.2] := rfl
  refine (fun (key : ∀ cs2, cs2 = (goBd (sval l 5).toNat 0 57344 [ramC] [] (srest l 5)).1 ++ [romC (bdOf l).2.2] → (∀ c ∈ cs2, VPlace c) ∧ ∀ i j (h : j < cs2.length) (hij : i < j), Apart cs2[i] cs2[j] ∧ cs2[i].base + cs2[i].size ≤ cs2[j].base) => key _ hcs) ?_
  intro cs2 hcs2
  clear hcs
  subst hcs2
  generalize (goBd (sval l 5).toNat 0 57344 [ramC] [] (srest l 5)).1 = cs at *
  generalize hrc : romC (bdOf l).2.2 = rc
  have hr : rc.name = ⟨#[114, 111, 109]⟩ ∧ rc.base = 65280 ∧ rc.size = 256 := by rw [← hrc]; exact ⟨rfl, rfl, rfl⟩
  obtain ⟨r1, r2, r3⟩ := hr
  have hnm : ∀ j (hj : j < cs.length), vnmB cs[j].name = true ∧ cs[j].name ≠ ⟨#[99, 112, 117]⟩ ∧ cs[j].name ≠ ⟨#[114, 111, 109]⟩ := fun j hj => by
    have hl := h2.len
    rw [h2.names j hj]
    by_cases h0 : j = 0
    · rw [if_pos h0]; exact ⟨by decide +kernel, by decide, by decide⟩
    · rw [if_neg h0]
      obtain ⟨q1, q2, q3, q4⟩ := chipN_v (j - 1) (by omega)
      exact ⟨q1, q2, q4⟩
  have hlast : ∀ (h : cs.length < (cs ++ [rc]).length), (cs ++ [rc])[cs.length] = rc := fun h => by simp
  constructor
  · intro c hc
    rcases List.mem_append.1 hc with hc | hc
    · obtain ⟨j, hj, rfl⟩ := List.getElem_of_mem hc
      obtain ⟨q1, q2, q3⟩ := hnm j hj
      have := h2.lo _ hc
      exact ⟨vnm_of _ q1, q2, this.1, by omega⟩
    · simp only [List.mem_singleton] at hc; subst hc
      exact ⟨by rw [r1]; exact vnm_of _ (by decide +kernel), by rw [r1]; decide, by omega, by omega⟩
  · intro i j hj hij
    by_cases hj2 : j < cs.length
    · rw [List.getElem_append_left hj2, List.getElem_append_left (by omega)]
      have ho := h2.order i j hj2 hij
      refine ⟨⟨?_, .inl ho⟩, ho⟩
      rw [h2.names i (by omega), h2.names j hj2, if_neg (show ¬ j = 0 by omega)]
      have hl := h2.len
      by_cases h0 : i = 0
      · rw [if_pos h0]
        exact fun h => (chipN_v (j - 1) (by omega)).2.2.1 h.symm
      · rw [if_neg h0]
        exact chipN_inj (j - 1) (by omega) (i - 1) (by omega)
    · have : j = cs.length := by rw [List.length_append] at hj; simp at hj; omega
      subst this
      rw [hlast hj, List.getElem_append_left hij]
      have hlo := h2.lo cs[i] (List.getElem_mem _)
      have ho : cs[i].base + cs[i].size ≤ rc.base := by omega
      refine ⟨⟨?_, .inl ho⟩, ho⟩
      rw [r1]; exact (hnm i hij).2.2
structure Rg where
  fr : Int
  to : Int
  ch : Int
def rgV (r : Rg) : List V := [I r.fr, I r.to, I r.ch]
instance : Flat rgV := ⟨fun a x hx => by simp [rgV] at hx; rcases hx with rfl | rfl | rfl <;> exact .inl ⟨_, rfl⟩⟩
def ixA (cs : List Chp) (a : Int) : Int := match findC cs a with
  | some i => (i : Int)
  | none => -1
def stepR (l : List Rg) (n : Nat) (x : Int) : List Rg := match l.getLast? with
  | some r => if r.ch = x then l.dropLast ++ [⟨r.fr, (n : Int) + 1, r.ch⟩] else l ++ [⟨n, (n : Int) + 1, x⟩]
  | none => l ++ [⟨n, (n : Int) + 1, x⟩]
def mapR (cs : List Chp) : Nat → List Rg
  | 0 => []
  | n + 1 => stepR (mapR cs n) n (ixA cs n)
theorem ixA_lt (cs : List Chp) (a : Int) : -1 ≤ ixA cs a ∧ ixA cs a < cs.length := by
  unfold ixA findC
  split
  · rename_i i hi
    have := (List.findIdx?_eq_some_iff_getElem.1 hi).1
    omega
  · omega
def sumR (l : List Rg) (k : Int) : Int := (l.map fun r => if r.ch = k then r.to - r.fr else 0).foldr (· + ·) 0
theorem sumR_app (l m : List Rg) (k : Int) : sumR (l ++ m) k = sumR l k + sumR m k := by
  unfold sumR
  induction l with
  | nil => simp
  | cons a l ih => simp only [List.cons_append, List.map_cons, List.foldr_cons, ih]; omega
theorem sumR_one (r : Rg) (k : Int) : sumR [r] k = if r.ch = k then r.to - r.fr else 0 := by simp [sumR]
structure RInv (cs : List Chp) (n : Nat) (l : List Rg) : Prop where
  rg : ∀ r ∈ l, 0 ≤ r.fr ∧ r.fr < r.to ∧ r.to ≤ n ∧ (-1 ≤ r.ch ∧ r.ch < cs.length) ∧ ∀ a, r.fr ≤ a → a < r.to → ixA cs a = r.ch
  all : ∀ a, 0 ≤ a → a < (n : Int) → ∃ r ∈ l, r.fr ≤ a ∧ a < r.to
  last : ∀ r, l.getLast? = some r → r.to = n
  len : l.length ≤ n
theorem concat_cases {α : Type} (l : List α) : l = [] ∨ ∃ m a, l = m ++ [a] := by
  rcases List.eq_nil_or_concat l with h | ⟨m, a, h⟩
  · exact .inl h
  · exact .inr ⟨m, a, by rw [h]; simp⟩
theorem stepR_nil (n : Nat) (x : Int) : stepR [] n x = [⟨n, (n : Int) + 1, x⟩] := rfl
theorem stepR_cat (m : List Rg) (r : Rg) (n : Nat) (x : Int) : stepR (m ++ [r]) n x = if r.ch = x then m ++ [⟨r.fr, (n : Int) + 1, r.ch⟩] else m ++ [r] ++ [⟨n, (n : Int) + 1, x⟩] := by
  unfold stepR
  rw [List.getLast?_append]
  simp
theorem mapR_inv (cs : List Chp) : ∀ n : Nat, RInv cs n (mapR cs n) := by
  intro n
  induction n with
  | zero => exact ⟨(by intro r hr; cases hr), (fun a h1 h2 => by omega), (by intro r hr; cases hr), Nat.le_refl _⟩
  | succ n ih =>
    obtain ⟨i1, i2, i3, i4⟩ := ih
    have hx := ixA_lt cs n
    show RInv cs (n + 1) (stepR (mapR cs n) n (ixA cs n))
    have new : ∀ a : Int, (n : Int) ≤ a → a < (n : Int) + 1 → ixA cs a = ixA cs n := fun a h1 h2 => by rw [show a = (n : Int) by omega]
    rcases concat_cases (mapR cs n) with h | ⟨m, r, h⟩
    · rw [h] at i1 i2 i4 ⊢
      rw [stepR_nil]
      refine ⟨?_, ?_, ?_, by simp⟩
      · intro r hr; simp only [List.mem_singleton] at hr; subst hr
        exact ⟨by dsimp only; omega, by dsimp only; omega, by dsimp only; omega, hx, new⟩
      · intro a h1 h2
        by_cases ha : a < (n : Int)
        · obtain ⟨r, hr, _⟩ := i2 a h1 ha; cases hr
        · exact ⟨_, List.mem_singleton_self _, by dsimp only; omega, by dsimp only; omega⟩
      · intro r hr; simp at hr; subst hr; (try dsimp only); omega
    · rw [h] at i1 i2 i3 i4 ⊢
      have hlast := i3 r (by rw [List.getLast?_append]; simp)
      have hr := i1 r (by simp)
      rw [stepR_cat]
      by_cases hc : r.ch = ixA cs n
      · rw [if_pos hc]
        refine ⟨?_, ?_, ?_, by simp at i4 ⊢; omega⟩
        · intro q hq
          rcases List.mem_append.1 hq with hq | hq
          · have := i1 q (List.mem_append_left _ hq)
            exact ⟨this.1, this.2.1, by omega, this.2.2.2⟩
          · simp only [List.mem_singleton] at hq; subst hq
            refine ⟨hr.1, by dsimp only; omega, by dsimp only; omega, hr.2.2.2.1, fun a h1 h2 => ?_⟩
            dsimp only at h1 h2 ⊢
            by_cases ha : a < (n : Int)
            · exact hr.2.2.2.2 a h1 (by omega)
            · rw [new a (by omega) h2, hc]
        · intro a h1 h2
          by_cases ha : a < (n : Int)
          · obtain ⟨q, hq, q1, q2⟩ := i2 a h1 ha
            rcases List.mem_append.1 hq with hq | hq
            · exact ⟨q, List.mem_append_left _ hq, q1, q2⟩
            · simp only [List.mem_singleton] at hq; subst hq
              exact ⟨_, List.mem_append_right _ (List.mem_singleton_self _), q1, by dsimp only; omega⟩
          · exact ⟨_, List.mem_append_right _ (List.mem_singleton_self _), by dsimp only; omega, by dsimp only; omega⟩
        · intro q hq
          rw [List.getLast?_append] at hq; simp at hq; subst hq; (try dsimp only); omega
      · rw [if_neg hc]
        refine ⟨?_, ?_, ?_, by simp at i4 ⊢; omega⟩
        · intro q hq
          rcases List.mem_append.1 hq with hq | hq
          · have := i1 q hq
            exact ⟨this.1, this.2.1, by omega, this.2.2.2⟩
          · simp only [List.mem_singleton] at hq; subst hq
            exact ⟨by dsimp only; omega, by dsimp only; omega, by dsimp only; omega, hx, new⟩
        · intro a h1 h2
          by_cases ha : a < (n : Int)
          · obtain ⟨q, hq, q1, q2⟩ := i2 a h1 ha
            exact ⟨q, List.mem_append_left _ hq, q1, q2⟩
          · exact ⟨_, List.mem_append_right _ (List.mem_singleton_self _), by dsimp only; omega, by dsimp only; omega⟩
        · intro q hq
          rw [List.getLast?_append] at hq; simp at hq; subst hq; (try dsimp only); omega
theorem mapR_sum (cs : List Chp) (k : Nat) (b s : Int) (hb : 0 ≤ b ∧ 0 ≤ s) (hk : ∀ a : Int, ixA cs a = k ↔ b ≤ a ∧ a < b + s) : ∀ n : Nat, sumR (mapR cs n) k = min (n : Int) (b + s) - min (n : Int) b := by
  intro n
  induction n with
  | zero => show (0 : Int) = _; omega
  | succ n ih =>
    have hn := hk n
    have inv := mapR_inv cs n
    show sumR (stepR (mapR cs n) n (ixA cs n)) k = _
    rcases concat_cases (mapR cs n) with h | ⟨m, r, h⟩
    · rw [h] at ih ⊢
      rw [stepR_nil, sumR_one]
      dsimp only
      have ih : (0 : Int) = min (n : Int) (b + s) - min (n : Int) b := ih
      by_cases hc : ixA cs n = (k : Int)
      · rw [if_pos hc]; have := hn.1 hc; omega
      · rw [if_neg hc]
        have : ¬ (b ≤ (n : Int) ∧ (n : Int) < b + s) := fun h => hc (hn.2 h)
        omega
    · have hto := inv.last r (by rw [h, List.getLast?_append]; simp)
      rw [h] at ih ⊢
      rw [stepR_cat]
      rw [sumR_app, sumR_one] at ih
      by_cases hc : r.ch = ixA cs n
      · rw [if_pos hc, sumR_app, sumR_one]
        dsimp only
        by_cases hck : r.ch = (k : Int)
        · rw [if_pos hck] at ih ⊢
          have := hn.1 (hc ▸ hck)
          omega
        · rw [if_neg hck] at ih ⊢
          have : ¬ (b ≤ (n : Int) ∧ (n : Int) < b + s) := fun h => hck (hc.trans (hn.2 h))
          omega
      · rw [if_neg hc, sumR_app, sumR_app, sumR_one, sumR_one]
        dsimp only
        by_cases hck : ixA cs n = (k : Int)
        · rw [if_pos hck]
          have := hn.1 hck
          omega
        · rw [if_neg hck]
          have : ¬ (b ≤ (n : Int) ∧ (n : Int) < b + s) := fun h => hck (hn.2 h)
          omega
theorem ixA_iff (cs : List Chp) (hap : ∀ i j (h : j < cs.length) (hij : i < j), cs[i].base + cs[i].size ≤ cs[j].base) (hs : ∀ c ∈ cs, 0 ≤ c.size) (k : Nat) (hk : k < cs.length) (a : Int) : ixA cs a = k ↔ cs[k].base ≤ a ∧ a < cs[k].base + cs[k].size := by
  unfold ixA findC
  constructor
  · intro h
    split at h
    · rename_i i hi
      obtain ⟨h1, h2, _⟩ := List.findIdx?_eq_some_iff_getElem.1 hi
      have : i = k := by omega
      subst this
      exact of_decide_eq_true h2
    · omega
  · intro h
    rw [show cs.findIdx? (hasA a) = some k from List.findIdx?_eq_some_iff_getElem.2 ⟨hk, decide_eq_true h, fun j hj => by
      have := hap j k hk hj
      have hf : hasA a cs[j] = false := decide_eq_false (by omega)
      rw [hf]; decide⟩]
end Go.Proofs.Ytolmklnijjfppaa.Calc

namespace Go.Proofs.Ytolmklnijjfppaa.Calc
open Go Code
set_option linter.unusedSimpArgs false
set_option linter.unusedVariables false
set_option maxRecDepth 20000
set_option maxHeartbeats 4000000
attribute [local irreducible] WOpsT AW AK RK AKW UK UC
theorem datB_kind (k i : Nat) (a : Int) (l : List Int) (h : 2 ≤ k ∧ k ≤ 8) : VKind (mkChp k i a (datB k i l).1) := by
  unfold mkChp datB
  by_cases h8 : k = 8
  · subst h8
    have r := sval_range l 2 (by decide)
    rw [if_pos rfl]
    exact .drive (1 + (sval l 2).toNat) rfl rfl (by omega) (drvD_len _ _ _) (drvD_bytes _ _ _)
  · rw [if_neg h8]
    by_cases h2 : k = 2
    · subst h2
      have r := sval_range (srest (srest l 256) 256) 3 (by decide)
      rw [if_pos rfl]
      exact .bank (1 + (sval (srest (srest l 256) 256) 3).toNat) rfl rfl (by omega) (by rw [show 8 * (1 + (sval (srest (srest l 256) 256) 3).toNat) = 8 + 8 * (sval (srest (srest l 256) 256) 3).toNat by omega]; exact bytesOf_len _ _) (bytesOf_bytes _ _)
    · rw [if_neg h2]
      exact .dev (by dsimp only; omega) (by dsimp only; rw [Int.toNat_natCast]) rfl
theorem goBd_kind : ∀ (n i : Nat) (a : Int) (cs : List Chp) (ws : List Wir) (l : List Int), (∀ c ∈ cs, VKind c) → (∀ c ∈ (goBd n i a cs ws l).1, VKind c) ∧ (goBd n i a cs ws l).1.length = cs.length + n := by
  intro n
  induction n with
  | zero => intro i a cs ws l h; exact ⟨h, rfl⟩
  | succ n ih =>
    intro i a cs ws l h
    have r := sval_range l 8 (by decide)
    have hk := kdN_r (sval l 8).toNat (by omega)
    unfold goBd
    obtain ⟨h1, h2⟩ := ih (i + 1) (a + ((szN (kdN (sval l 8).toNat) : Int) + 15) / 16 * 16) (cs ++ [(stepBd (kdN (sval l 8).toNat) i a (srest l 8)).1]) (ws ++ (stepBd (kdN (sval l 8).toNat) i a (srest l 8)).2.1) (stepBd (kdN (sval l 8).toNat) i a (srest l 8)).2.2 (by
      intro c hc
      rcases List.mem_append.1 hc with hc | hc
      · exact h c hc
      · simp only [List.mem_singleton] at hc; subst hc
        exact datB_kind _ _ _ _ hk)
    exact ⟨h1, by rw [h2, List.length_append, List.length_singleton]; omega⟩
theorem mkBrd_kinds (l : List Int) : (∀ c ∈ (mkBrd l).chips, VKind c) ∧ 2 ≤ (mkBrd l).chips.length ∧ (mkBrd l).chips.length ≤ 6 := by
  have r := sval_range l 5 (by decide)
  obtain ⟨h1, h2⟩ := goBd_kind (sval l 5).toNat 0 57344 [ramC] [] (srest l 5) (by
    intro c hc; simp only [List.mem_singleton] at hc; subst hc
    exact .mem 768 (.inl rfl) rfl (by decide) (by decide) Bytes.nil)
  obtain ⟨g1, g2, _⟩ := romD_ok (bdOf l).2.2
  refine ⟨fun c hc => ?_, ?_⟩
  · rcases List.mem_append.1 hc with hc | hc
    · exact h1 c hc
    · simp only [List.mem_singleton] at hc; subst hc
      exact .mem 256 (.inr rfl) rfl (by decide) (by show (romD _).length ≤ 256; omega) g2
  · have : (mkBrd l).chips.length = (bdOf l).1.length + 1 := by show ((bdOf l).1 ++ [_]).length = _; rw [List.length_append]; rfl
    rw [this]
    have h3 : (bdOf l).1.length = 1 + (sval l 5).toNat := h2
    omega
theorem DvOk.small {c : Chp} {d : Dv} (h : DvOk c d) : d.1.length ≤ 100000 ∧ d.2.length ≤ 100000 := by
  rcases h with ⟨z, hk, hs, h1, m, hm, hb⟩ | ⟨nb, hk, hs, h1, hd, n, hn, m, hm, hb⟩ | ⟨hk, hs, x, y, e, f, h⟩ | ⟨hk, hs, x, y, z, h⟩ | ⟨hk, hs, s1, l, g, f, o, e, n, z, h⟩ | ⟨hk, hs, p, q, m, h⟩ | ⟨hk, hs, x, y, hx, hy⟩ | ⟨nd, hk, hs, e, m, h⟩
  · exact ⟨Nat.zero_le _, by dsimp only; omega⟩
  · exact ⟨lb, by dsimp only; omega⟩
  · exact ⟨lb, lb⟩
  · exact ⟨lb, lb⟩
  · exact ⟨lb, lb⟩
  · exact ⟨lb, by have := h.len; dsimp only; omega⟩
  · exact ⟨lb, lb⟩
  · exact ⟨lb, by have := h.len; have := h.nd; dsimp only; omega⟩
theorem VKind.size {c : Chp} (h : VKind c) : 1 ≤ c.size ∧ c.size ≤ 4096 := by
  rcases h with ⟨z, hk, hs, h1, hd, hb⟩ | ⟨nb, hk, hs, h1, hd, hb⟩ | ⟨hk, hs, hd⟩ | ⟨nd, hk, hs, hn, hd, hb⟩
  · omega
  · omega
  · rw [hs]
    rcases hk with h | h | h | h | h <;> rw [h] <;> decide
  · omega
end Go.Proofs.Ytolmklnijjfppaa.Calc

namespace Go.Proofs.Ytolmklnijjfppaa.Calc
open Go Code
set_option linter.unusedSimpArgs false
set_option linter.unusedVariables false
set_option maxRecDepth 20000
set_option maxHeartbeats 4000000
attribute [local irreducible] WOpsT AW AK RK AKW UK UC
theorem rg_set (m : List Rg) (r : Rg) (v : V) : (m.map rgV ++ [rgV r]).set m.length (spl (rgV r) 1 [v]) = m.map rgV ++ [[I r.fr, v, I r.ch]] := by
  rw [List.set_append_right _ _ (by simp), List.length_map, Nat.sub_self]; rfl
theorem rg_get (m : List Rg) (r : Rg) : (m.map rgV ++ [rgV r])[m.length]? = some [I r.fr, I r.to, I r.ch] := by
  rw [List.getElem?_append_right (by simp), List.length_map, Nat.sub_self]; rfl
theorem ranges_ok (b : Brd) (hc : ∀ c ∈ b.chips, 0 ≤ c.base ∧ c.base ≤ 65536 ∧ 1 ≤ c.size ∧ c.size ≤ 65536) (hn : b.chips.length ≤ 1000) : FnE Try.prog 23 [.agg (boV b)] [] (.sl 3 ((mapR b.chips 65536).map rgV)) [] := by
  have hfind := fun a ha => find_k b a hc hn ha
  obtain ⟨bn, ⟨nm, ins, r1, r2, r3⟩, cs, ws⟩ := b
  dsimp only at hc hn hfind ⊢
  unfold boV cpC at hfind ⊢
  dsimp only [List.cons_append, List.nil_append] at hfind ⊢
  generalize hF : mapR cs 65536 = F
  refine N.fn Try.func23 k23 lb q23 fun Q hQ hQN => ?_
  rw [c23]
  repeat' (first
  | exact True.intro
  | refine fun (K : KT) hK => ?_
  | intro hcd
  | (refine go1 ?_ ?_ <;> try clear hK K)
  | fail)
  refine N.loop (σ := Nat) (fun n => [(1, .ptr 0 1 0 0), (3, .psl 1 ((mapR cs n).length + 1) 0 (mapR cs n).length), (9, I n)]) (fun n => [⟨1, 8, [[.c (.string bn), .c (.string nm), .sl 4 (ins.map inC), .sl 4 (r1.map cyC), .sl 4 (r2.map cyC), .sl 4 (r3.map cyC), .sl 5 (cs.map chV), .sl 2 (ws.map wiV)]]⟩, ⟨(mapR cs n).length + 1, 3, (mapR cs n).map rgV⟩]) (fun n => n ≤ 65536) (fun n => 65536 - n) 0 (Nat.zero_le _) (Weaks.nilAs 3 3 (by decide) rfl (Weaks.sel (by repeat (first | exact trivial | refine ⟨.rfl, ?_⟩ | refine ⟨.any, ?_⟩)) rfl)) fun n hi R hC => ?_
  by_cases hil : n < 65536
  · have hf := hfind n (by omega)
    have hC := hC
    have inv := (mapR_inv cs n).len
    have hstep : mapR cs (n + 1) = stepR (mapR cs n) n (ixA cs n) := rfl
    have next : ∀ (fr : Fr) (h : List Blk), Weaks 0 fr h [(1, .ptr 0 1 0 0), (3, .psl 1 ((stepR (mapR cs n) n (ixA cs n)).length + 1) 0 (stepR (mapR cs n) n (ixA cs n)).length), (9, I ((n : Int) + 1))] [⟨1, 8, [[.c (.string bn), .c (.string nm), .sl 4 (ins.map inC), .sl 4 (r1.map cyC), .sl 4 (r2.map cyC), .sl 4 (r3.map cyC), .sl 5 (cs.map chV), .sl 2 (ws.map wiV)]]⟩, ⟨(stepR (mapR cs n) n (ixA cs n)).length + 1, 3, (stepR (mapR cs n) n (ixA cs n)).map rgV⟩] → R fr h := fun fr h hw => by
      have := hC fr h (n + 1) (by omega) (by omega)
      rw [hstep] at this
      exact this hw
    clear hC hstep
    generalize mapR cs n = L0 at *
    have hix : (∃ i : Nat, findR cs n = .tup [I i, I ((n : Int) - (cs.getD i ramC).base), .c (.bool true)] ∧ ixA cs n = (i : Int)) ∨ (findR cs n = .tup [I 0, I 0, .c (.bool false)] ∧ ixA cs n = -1) := by
      unfold findR ixA
      cases findC cs n with
      | none => exact .inr ⟨rfl, rfl⟩
      | some i => exact .inl ⟨i, rfl, rfl⟩
    generalize ixA cs n = x at *
    generalize findR cs n = fr0 at *
    rcases concat_cases L0 with rfl | ⟨m, r, rfl⟩
    · rw [stepR_nil] at next
      rcases hix with ⟨i, rfl, rfl⟩ | ⟨rfl, rfl⟩
      all_goals
        repeat' (first
        | (show WOpsT _ (⟨_, .app _ _ _ _, none⟩ :: _) _ _ _ _; refine T.app rfl rfl rfl ⟨by decide, by decide⟩ ⟨rfl, rfl, rfl, by simp⟩ ?_)
        | refine T.call0 e22 rfl (hf) ?_
        | exact True.intro
        | refine fun (K : KT) hK => ?_
        | intro hcd
        | (refine go1 ?_ ?_ <;> try clear hK K)
        | fail)
        all_goals first
          | (exfalso; omega)
          | exact next _ _ (Weaks.gc [0, 1] 1 rfl (by repeat (first | exact trivial | refine ⟨.rfl, ?_⟩ | refine ⟨.any, ?_⟩)) rfl)
    · have inv : m.length + 1 ≤ n := by simpa using inv
      rw [stepR_cat] at next
      have e5 : (((m.length + 1 : Nat) : Int) - 1).toNat = m.length := by omega
      have e6 : (m ++ [r]).length = m.length + 1 := by simp
      have e7 : (m ++ [r]).map rgV = m.map rgV ++ [rgV r] := by simp
      rw [e6, e7]
      have hg := rg_get m r
      have next1 : r.ch = x → ∀ (fr : Fr) (h : List Blk), Weaks 0 fr h [(1, .ptr 0 1 0 0), (3, .psl 1 (m.length + 1 + 1) 0 (m.length + 1)), (9, I ((n : Int) + 1))] [⟨1, 8, [[.c (.string bn), .c (.string nm), .sl 4 (ins.map inC), .sl 4 (r1.map cyC), .sl 4 (r2.map cyC), .sl 4 (r3.map cyC), .sl 5 (cs.map chV), .sl 2 (ws.map wiV)]]⟩, ⟨m.length + 1 + 1, 3, m.map rgV ++ [[I r.fr, I ((n : Int) + 1), I r.ch]]⟩] → R fr h := fun hx fr h hw => by
        rw [if_pos hx, List.length_append, List.map_append] at next
        exact next fr h hw
      have next2 : ¬ r.ch = x → ∀ (fr : Fr) (h : List Blk), Weaks 0 fr h [(1, .ptr 0 1 0 0), (3, .psl 1 (m.length + 1 + 1 + 1) 0 (m.length + 1 + 1)), (9, I ((n : Int) + 1))] [⟨1, 8, [[.c (.string bn), .c (.string nm), .sl 4 (ins.map inC), .sl 4 (r1.map cyC), .sl 4 (r2.map cyC), .sl 4 (r3.map cyC), .sl 5 (cs.map chV), .sl 2 (ws.map wiV)]]⟩, ⟨m.length + 1 + 1 + 1, 3, m.map rgV ++ [rgV r] ++ [[I n, I ((n : Int) + 1), I x]]⟩] → R fr h := fun hx fr h hw => by
        rw [if_neg hx, List.length_append, List.length_append, List.map_append, List.map_append] at next
        exact next fr h hw
      have hrow : ∀ v, (m.map rgV ++ [rgV r]).set m.length (spl [I r.fr, I r.to, I r.ch] 1 [v]) = m.map rgV ++ [[I r.fr, v, I r.ch]] := fun v => rg_set m r v
      have hlen : (m.map rgV ++ [rgV r]).length = m.length + 1 := by simp
      have o1 : ∀ (h : List Blk) (ids : List Nat) (k v : Nat) (w : List V), outB h ids k ⟨v, 3, m.map rgV ++ [w]⟩ = ⟨v, 3, m.map rgV ++ [w.map (out h ids k)]⟩ := fun h ids k v w => by
        simp only [outB, List.map_append]; rw [flat_rows (fun _ => out_c) (fun _ _ => out_sl)]; rfl
      have o2 : ∀ (h : List Blk) (ids : List Nat) (k v : Nat) (w : List V), outB h ids k ⟨v, 3, m.map rgV ++ [rgV r] ++ [w]⟩ = ⟨v, 3, m.map rgV ++ [rgV r] ++ [w.map (out h ids k)]⟩ := fun h ids k v w => by
        simp only [outB, List.map_append]; rw [flat_rows (fun _ => out_c) (fun _ _ => out_sl)]; rfl
      clear next
      rcases hix with ⟨i, rfl, rfl⟩ | ⟨rfl, rfl⟩
      all_goals
        repeat' (first
        | rw [e5]
        | (show WOpsT _ (⟨_, .ld _ _, none⟩ :: _) _ _ _ _; refine T.ld rfl rfl rfl hg rfl ?_)
        | (show WOpsT _ (⟨_, .st _ _ _, none⟩ :: _) _ _ _ _; refine T.st rfl rfl rfl ⟨rfl, rfl⟩ hg lb ?_)
        | rw [hrow]
        | (show WOpsT _ (⟨_, .app _ _ _ _, none⟩ :: _) _ _ _ _; refine T.app rfl rfl rfl ⟨by decide, by decide⟩ ⟨rfl, rfl, by rw [hlen, Nat.zero_add], by simp; omega⟩ ?_)
        | refine T.call0 e22 rfl (hf) ?_
        | exact True.intro
        | refine fun (K : KT) hK => ?_
        | intro hcd
        | (refine go1 ?_ ?_ <;> try clear hK K)
        | fail)
        all_goals first
          | (exfalso; omega)
          | exact next1 (by omega) _ _ (Weaks.gc [0, 1] 1 rfl (by repeat (first | exact trivial | refine ⟨.rfl, ?_⟩ | refine ⟨.any, ?_⟩)) (by show [_, _] = [_, outB _ _ _ ⟨m.length + 1 + 1, 3, m.map rgV ++ [_]⟩]; rw [o1]; rfl))
          | exact next2 (by omega) _ _ (Weaks.gc [0, 1] 1 rfl (by repeat (first | exact trivial | refine ⟨.rfl, ?_⟩ | refine ⟨.any, ?_⟩)) (by show [_, _] = [_, outB _ _ _ ⟨m.length + 1 + 1 + 1, 3, m.map rgV ++ [rgV r] ++ [_]⟩]; rw [o2]; rfl))
          | trace_state
  · obtain rfl : n = 65536 := by omega
    rw [hF]
    clear hC hF
    repeat' (first
    | exact True.intro
    | refine fun (K : KT) hK => ?_
    | intro hcd
    | (refine go1 ?_ ?_ <;> try clear hK K)
    | fail)
    exact WS.rows (f := rgV) rfl (Nat.le_refl _)
end Go.Proofs.Ytolmklnijjfppaa.Calc

