/- Several texts in one (FnStepE, FnEvs, FnMachB, FnMachC, PureRange, FnWire, PureWire, FnWireB, FnPokes), for the proof of LawMachParts. No condition beyond those in each lemma. -/
import Derived.Test.YtpfagchhmfigfaaGreatPLawMachPartsP
import Derived.Test.YtpfagchhmfigfaaGreatPLawMachPartsF
import Derived.Test.YtpfagchhmfigfaaGreatPLawMachPartsM
import Derived.Test.YtpfagchhmfigfaaGreatPLawMachPartsD
import Derived.Laws.StandIn
import Derived.Test.YtpfagchhmfigfaaGreatPLawMachPartsN
namespace Go.Proofs.YtpfagchhmfigfaaGreat.Calc
open Go Code
set_option linter.unusedSimpArgs false
set_option linter.unusedVariables false
set_option maxRecDepth 20000
set_option maxHeartbeats 8000000
attribute [local irreducible] WOpsT AW AK RK AKW UK UC
theorem ixFC_ok (f : Nat) (he : enters Tryz.prog f = true) (x : Ev) (p : Chp → Bool) (l : List Chp) (hl : l.length ≤ 256) (hp : ∀ c : Chp, FnE Tryz.prog f [.agg (chV c), .ptr 0 1 0 0] [⟨1, 3, [evV x]⟩] (.c (.bool (p c))) [⟨1, 3, [evV x]⟩]) : FnE Tryz.prog 22 [.sl 5 (l.map chV), .fn f [.ptr 0 1 0 0]] [⟨1, 3, [evV x]⟩] (I (fidx p l)) [⟨1, 3, [evV x]⟩] := by
 obtain ⟨x1, x2, x3⟩ := x
 dsimp only [evV] at hp ⊢
 refine N.fnC Tryz.func22 k22 fun Q hQ hQN => ?_
 repeat' (first | rw [List.length_map] | exact ⟨⟩ | intro (K : KT) hK | intro hcd | (refine go1 ?_ ?_ <;> try clear hK K) | fail)
 refine N.loop (σ := Nat) (fun j => [(0, .sl 5 (l.map chV)), (1, .fn f [.ptr 0 1 0 0]), (7, I l.length), (8, I j)]) (fun j => [⟨1, 3, [[I x1, .c (.string x2), I x3]]⟩]) (fun j => j ≤ l.length ∧ ∀ k, k < j → ∀ hk : k < l.length, p l[k] = false) (fun j => l.length - j) 0 ⟨Nat.zero_le _, fun k hk => absurd hk (by omega)⟩ (Weaks.sel (by exact sB) rfl) fun j hj R hC => ?_
 obtain ⟨hj, hb⟩ := hj
 by_cases hjl : j < l.length
 ·have hm := mget chV l j hjl
  have hv := hp l[j]
  have hx : p l[j] = true → fidx p l = j := fun h => fidx_at hjl hb h
  have hy : p l[j] = false → ∀ k, k < j + 1 → ∀ hk : k < l.length, p l[k] = false := fun h k hk hkl => by
   by_cases hkj : k = j
   ·subst hkj; exact h
   ·exact hb k (by omega) hkl
  generalize p l[j] = q at *
  generalize l[j] = c at *
  obtain ⟨cn, ck, cb, cs, cd⟩ := c
  dsimp only [chV] at hm hv
  cases q
  ·have hy := hy rfl
   repeat' (first | refine rI hm ?_ | refine T.ofFn rfl (C.read [0] he rfl hv rfl rfl rfl rfl rfl ?_) | exact ⟨⟩ | intro (K : KT) hK | intro hcd | (refine go1 ?_ ?_ <;> try clear hK K) | fail)
   exact hC _ _ (j + 1) ⟨by omega, hy⟩ (by omega) (Weaks.sel (by exact sB) rfl)
  ·rw [hx rfl] at hQ hQN
   repeat' (first | refine rI hm ?_ | refine T.ofFn rfl (C.read [0] he rfl hv rfl rfl rfl rfl rfl ?_) | exact ⟨⟩ | intro (K : KT) hK | intro hcd | (refine go1 ?_ ?_ <;> try clear hK K) | fail)
   exact WS.gc [0] 1 rfl (by exact oO) .rfl
 ·obtain rfl : j = l.length := by omega
  rw [fidx_no fun k hk => hb k hk hk] at hQ hQN
  repeat' (first | exact ⟨⟩ | intro (K : KT) hK | intro hcd | (refine go1 ?_ ?_ <;> try clear hK K) | fail)
  exact WS.gc [0] 1 rfl (by exact oO) .rfl
theorem ctFC_ok (f : Nat) (he : enters Tryz.prog f = true) (x : Ev) (p : Chp → Bool) (l : List Chp) (hl : l.length ≤ 256) (hp : ∀ c : Chp, FnE Tryz.prog f [.agg (chV c), .ptr 0 1 0 0] [⟨1, 3, [evV x]⟩] (.c (.bool (p c))) [⟨1, 3, [evV x]⟩]) : FnE Tryz.prog 122 [.sl 5 (l.map chV), .fn f [.ptr 0 1 0 0]] [⟨1, 3, [evV x]⟩] (.c (.bool (l.any p))) [⟨1, 3, [evV x]⟩] := by
 have hx := ixFC_ok f he x p l hl hp
 rw [← fidx_any]
 generalize fidx p l = q at *
 obtain ⟨x1, x2, x3⟩ := x
 dsimp only [evV] at hx ⊢
 refine N.fnC Tryz.func122 k122 fun Q hQ hQN => ?_
 repeat' (first | refine T.callQ [0] e22 rfl (hx) (by exact pA) rfl rfl rfl (by exact rN) ?_ | exact ⟨⟩ | intro (K : KT) hK | intro hcd | (refine go1 ?_ ?_ <;> try clear hK K) | fail)
 exact WS.gc [0] 1 rfl (by exact oO) .rfl
theorem mcheck1_ok (x : Ev) (c : Chp) : FnE Tryz.prog 123 [.agg (chV c), .ptr 0 1 0 0] [⟨1, 3, [evV x]⟩] (.c (.bool (decide (c.name = x.chip)))) [⟨1, 3, [evV x]⟩] := by
 obtain ⟨nm, k, b, z, dat⟩ := c
 obtain ⟨x1, x2, x3⟩ := x
 dsimp only [chV, evV]
 refine N.fnC Tryz.func123 k123 fun Q hQ hQN => ?_
 repeat' (first | exact ⟨⟩ | intro (K : KT) hK | intro hcd | (refine go1 ?_ ?_ <;> try clear hK K) | fail)
 exact WS.gc [0] 1 rfl (by exact oO) .rfl
structure InsOk (B : Brd) (ins : List Ev) : Prop where
 len : ins.length ≤ 500
 ord : ∀ i (h : i + 1 < ins.length), ins[i].at_ ≤ ins[i + 1].at_
 names : ∀ x ∈ ins, x.chip = sCpu ∨ ∃ c ∈ B.chips, c.name = x.chip
 rng : ∀ x ∈ ins, 0 ≤ x.at_ ∧ x.at_ ≤ 1000000
theorem check_ok (B : Brd) (hB : MacOk B) (s : Mac) (ins : List Ev) (h : MacSt B s) (hi : InsOk B ins) (hck : FnE Tryz.prog 56 [.agg (boV B)] [] (I 0) []) : FnE Tryz.prog 64 [.agg (boV B), .agg (maS s), .sl 3 (ins.map evV)] [] (I 0) [] := by
 have hl := h.1.1
 have ht := h.2
 have hlen := hi.len
 have hn12 := hB.n12
 unfold maS
 refine N.fnC Tryz.func64 k64 fun Q hQ hQN => ?_
 repeat' (first | rw [List.length_map] | rw [hl] | refine T.call0 e56 rfl hck ?_ | exact ⟨⟩ | intro (K : KT) hK | intro hcd | (refine go1 ?_ ?_ <;> try clear hK K) | fail)
 all_goals first | (exfalso; omega) | skip
 refine N.loop (σ := Nat) (fun i => [(2, .sl 3 (ins.map evV)), (3, .ptr 0 1 0 0), (36, .sl 3 (ins.map evV)), (37, I ins.length), (38, I i)]) (fun i => [⟨1, 8, [boV B]⟩]) (fun i => i ≤ ins.length) (fun i => ins.length - i) 0 (Nat.zero_le _) (by exact .G [0] 1) fun i hil R hC => ?_
 by_cases hil : i < ins.length
 ·have hm := mget evV ins i hil
  have hct := ctFC_ok 123 e123 ins[i] (fun c => decide (c.name = ins[i].chip)) B.chips (by omega) (mcheck1_ok ins[i])
  have hnm : ins[i].chip = sCpu ∨ B.chips.any (fun c => decide (c.name = ins[i].chip)) = true := by
   rcases hi.names _ (List.getElem_mem hil) with h1 | ⟨c, h1, h2⟩
   ·exact .inl h1
   ·exact .inr (List.any_eq_true.2 ⟨c, h1, decide_eq_true h2⟩)
  have hpr : ∀ (h : 0 < i), ∃ a q w, (ins.map evV)[((i : Int) - 1).toNat]? = some [I a, .c (.string q), I w] ∧ a ≤ ins[i].at_ := by
   intro h
   have h1 := hi.ord (i - 1) (by omega)
   have h2 := mget evV ins (i - 1) (by omega)
   simp only [show i - 1 + 1 = i by omega] at h1
   refine ⟨ins[i - 1].at_, ins[i - 1].chip, ins[i - 1].n, ?_, h1⟩
   rw [show ((i : Int) - 1).toNat = i - 1 by omega]
   rw [Int.toNat_natCast] at h2
   exact h2
  generalize B.chips.any (fun c => decide (c.name = ins[i].chip)) = q at *
  generalize ins[i] = x at *
  obtain ⟨x1, x2, x3⟩ := x
  dsimp only [evV] at hm hct hnm hpr
  unfold sCpu at hnm
  by_cases h0 : 0 < i
  ·obtain ⟨pa, pq, pw, hp1, hp2⟩ := hpr h0
   by_cases h1 : x2 = ⟨#[99, 112, 117]⟩
   ·skip
    repeat' (first | refine rI hm ?_ | refine rI hp1 ?_ | exact ⟨⟩ | intro (K : KT) hK | intro hcd | (refine go1 ?_ ?_ <;> try clear hK K) | fail)
    all_goals first | (exfalso; exact absurd h1 (by assumption)) | exact hC _ _ (i + 1) (by omega) (by omega) (by exact .G [0] 1)
   ·have hq : q = true := by
     rcases hnm with h | h
     ·exact absurd h h1
     ·exact h
    subst hq
    repeat' (first | refine rI hm ?_ | refine rI hp1 ?_ | refine T.callQ [1] e122 rfl (hct) (by exact pA) rfl rfl rfl (by exact rN) ?_ | exact ⟨⟩ | intro (K : KT) hK | intro hcd | (refine go1 ?_ ?_ <;> try clear hK K) | fail)
    all_goals first | (exfalso; exact absurd h1 (by assumption)) | exact hC _ _ (i + 1) (by omega) (by omega) (by exact .G [0] 1)
  ·by_cases h1 : x2 = ⟨#[99, 112, 117]⟩
   ·skip
    repeat' (first | refine rI hm ?_ | exact ⟨⟩ | intro (K : KT) hK | intro hcd | (refine go1 ?_ ?_ <;> try clear hK K) | fail)
    all_goals first | (exfalso; exact absurd h1 (by assumption)) | exact hC _ _ (i + 1) (by omega) (by omega) (by exact .G [0] 1)
   ·have hq : q = true := by
     rcases hnm with h | h
     ·exact absurd h h1
     ·exact h
    subst hq
    repeat' (first | refine rI hm ?_ | refine T.callQ [1] e122 rfl (hct) (by exact pA) rfl rfl rfl (by exact rN) ?_ | exact ⟨⟩ | intro (K : KT) hK | intro hcd | (refine go1 ?_ ?_ <;> try clear hK K) | fail)
    all_goals first | (exfalso; exact absurd h1 (by assumption)) | exact hC _ _ (i + 1) (by omega) (by omega) (by exact .G [0] 1)
 ·obtain rfl : i = ins.length := by omega
  repeat' (first | exact ⟨⟩ | intro (K : KT) hK | intro hcd | (refine go1 ?_ ?_ <;> try clear hK K) | fail)
  exact WS.c rfl rfl
def inpK (cs : List Chp) (l : List Int) : Int := sval (srest l 90) (cs.length + 1)
def inpN (cs : List Chp) (l : List Int) : ByteArray := match cs[(inpK cs l).toNat]? with
 | some c => c.name
 | none => sCpu
def inpR (cs : List Chp) (l : List Int) : List Int := srest (srest l 90) (cs.length + 1)
def inpG (cs : List Chp) : Nat → Int → List Ev → List Int → List Ev
 | 0, _, acc, _ => acc
 | f + 1, a, acc, l => if l.length = 0 then acc else inpG cs f (a + sval l 90) (acc ++ [⟨a + sval l 90, inpN cs l, sval (inpR cs l) 256⟩]) (srest (inpR cs l) 256)
def inpM (B : Brd) (l : List Int) : List Ev := inpG B.chips 40 0 [] l
structure InpI (B : Brd) (a : Int) (acc : List Ev) : Prop where
 ord : ∀ i (h : i + 1 < acc.length), acc[i].at_ ≤ acc[i + 1].at_
 last : ∀ i (h : i < acc.length), acc[i].at_ ≤ a
 names : ∀ x ∈ acc, x.chip = sCpu ∨ ∃ c ∈ B.chips, c.name = x.chip
 lo : ∀ i (h : i < acc.length), 0 ≤ acc[i].at_
 up : 0 ≤ a ∧ a ≤ 90 * acc.length
theorem inpN_ok (B : Brd) (l : List Int) : inpN B.chips l = sCpu ∨ ∃ c ∈ B.chips, c.name = inpN B.chips l := by
 unfold inpN
 cases h : B.chips[(inpK B.chips l).toNat]? with
 | none => exact .inl rfl
 | some c => exact .inr ⟨c, List.mem_of_getElem? h, rfl⟩
theorem inpG_ok (B : Brd) : ∀ (f : Nat) (a : Int) (acc : List Ev) (l : List Int), InpI B a acc → (∃ a', InpI B a' (inpG B.chips f a acc l)) ∧ (inpG B.chips f a acc l).length ≤ acc.length + f := by
 intro f
 induction f with
 | zero => intro a acc l h; exact ⟨⟨a, h⟩, Nat.le_refl _⟩
 | succ f ih =>
  intro a acc l h
  unfold inpG
  split
  ·exact ⟨⟨a, h⟩, Nat.le_add_right _ _⟩
  ·have hr := sval_range l 90 (by decide)
   have h2 : InpI B (a + sval l 90) (acc ++ [⟨a + sval l 90, inpN B.chips l, sval (inpR B.chips l) 256⟩]) := by
    refine ⟨fun i hi => ?_, fun i hi => ?_, fun x hx => ?_, fun i hi => ?_, ?_⟩
    ·rw [List.length_append, List.length_singleton] at hi
     rw [List.getElem_append_left (show i < acc.length by omega)]
     by_cases h3 : i + 1 < acc.length
     ·rw [List.getElem_append_left h3]; exact h.ord i h3
     ·rw [List.getElem_append_right (by omega)]
      simp only [List.getElem_singleton]
      have := h.last i (by omega)
      omega
    ·rw [List.length_append, List.length_singleton] at hi
     by_cases h3 : i < acc.length
     ·rw [List.getElem_append_left h3]; have := h.last i h3; omega
     ·rw [List.getElem_append_right (by omega)]
      simp only [List.getElem_singleton]; omega
    ·rcases List.mem_append.1 hx with hx | hx
     ·exact h.names x hx
     ·rw [List.mem_singleton] at hx; subst hx; exact inpN_ok B l
    ·rw [List.length_append, List.length_singleton] at hi
     by_cases h3 : i < acc.length
     ·rw [List.getElem_append_left h3]; exact h.lo i h3
     ·rw [List.getElem_append_right (by omega)]
      simp only [List.getElem_singleton]; have := h.up; omega
    ·have := h.up
     rw [List.length_append, List.length_singleton]; omega
   obtain ⟨h3, h4⟩ := ih _ _ (srest (inpR B.chips l) 256) h2
   refine ⟨h3, ?_⟩
   rw [List.length_append, List.length_singleton] at h4
   omega
theorem inpM_ok (B : Brd) (l : List Int) : InsOk B (inpM B l) := by
 obtain ⟨⟨a, h1⟩, h2⟩ := inpG_ok B 40 0 [] l ⟨fun i h => absurd h (by simp), fun i h => absurd h (by simp), fun x h => by simp at h, fun i h => absurd h (by simp), ⟨Int.le_refl _, Int.le_refl _⟩⟩
 simp only [List.length_nil, Nat.zero_add] at h2
 refine ⟨by unfold inpM; omega, h1.ord, h1.names, fun x hx => ?_⟩
 obtain ⟨i, hi, rfl⟩ := List.getElem_of_mem hx
 have h3 := h1.lo i hi
 have h4 := h1.last i hi
 have h5 := h1.up
 unfold inpM at *
 omega
theorem inputs_ok (B : Brd) (hB : MacOk B) (l : List Int) : FnE Tryz.prog 39 [.agg (boV B), .sl 1 (cells l)] [] (.sl 3 ((inpM B l).map evV)) [] := by
 have hn1 := hB.n1
 have hn12 := hB.n12
 unfold inpM
 generalize hG : inpG B.chips 40 0 [] l = G
 refine N.fnC Tryz.func39 k39 fun Q hQ hQN => ?_
 repeat' (first | exact ⟨⟩ | intro (K : KT) hK | intro hcd | (refine go1 ?_ ?_ <;> try clear hK K) | fail)
 refine N.loop (σ := Nat × Int × List Ev × List Int) (fun s => [(2, .ptr 0 1 0 0), (5, .ptr 1 1 0 0), (6, .psl 2 (s.2.2.1.length + 1) 0 s.2.2.1.length), (7, I s.2.1)]) (fun s => [⟨1, 8, [boV B]⟩, strB s.2.2.2, ⟨s.2.2.1.length + 1, 3, s.2.2.1.map evV⟩]) (fun s => s.2.2.1.length + s.1 = 40 ∧ (0 ≤ s.2.1 ∧ s.2.1 ≤ 90 * s.2.2.1.length) ∧ inpG B.chips s.1 s.2.1 s.2.2.1 s.2.2.2 = G) (fun s => s.1) (40, 0, [], l) ⟨rfl, ⟨Int.le_refl _, Int.le_refl _⟩, hG⟩ (Weaks.nilAs 6 3 (by decide) rfl (Weaks.sel (by exact sB) rfl)) fun w hw R hC => ?_
 obtain ⟨f, a, acc, l1⟩ := w
 obtain ⟨hf, ha, hst⟩ := hw
 dsimp only at hf ha hst hC ⊢
 cases f with
 | zero =>
  unfold inpG at hst
  subst hst
  repeat' (first | rw [cells_len] | exact ⟨⟩ | intro (K : KT) hK | intro hcd | (refine go1 ?_ ?_ <;> try clear hK K) | fail)
  all_goals first | exact WS.rows (f := evV) rfl (Nat.le_refl _) | (exfalso; omega) | succ f =>
  unfold inpG at hst
  by_cases h0 : l1.length = 0
  ·rw [if_pos h0] at hst
   subst hst
   repeat' (first | rw [cells_len] | exact ⟨⟩ | intro (K : KT) hK | intro hcd | (refine go1 ?_ ?_ <;> try clear hK K) | fail)
   all_goals first | exact WS.rows (f := evV) rfl (Nat.le_refl _) | (exfalso; omega)
  ·rw [if_neg h0] at hst
   have n1 := next_ok l1 90 (by decide)
   have n2 := next_ok (srest l1 90) (B.chips.length + 1) (by omega)
   have n3 := next_ok (inpR B.chips l1) 256 (by decide)
   have r1 := sval_range l1 90 (by decide)
   have r2 := sval_range (srest l1 90) (B.chips.length + 1) (by omega)
   have nx := fun fr h s h1 => hC fr h (f, s) h1 (by dsimp only; omega)
   clear hC
   have hk : inpK B.chips l1 = sval (srest l1 90) (B.chips.length + 1) := rfl
   have hr3 : inpR B.chips l1 = srest (srest l1 90) (B.chips.length + 1) := rfl
   by_cases hkn : inpK B.chips l1 < B.chips.length
   ·have hkl : (inpK B.chips l1).toNat < B.chips.length := by omega
    have hm : (B.chips.map chV)[(inpK B.chips l1).toNat]? = some (chV B.chips[(inpK B.chips l1).toNat]) := by rw [List.getElem?_map, List.getElem?_eq_getElem hkl]; rfl
    rw [show inpN B.chips l1 = B.chips[(inpK B.chips l1).toNat].name by unfold inpN; rw [List.getElem?_eq_getElem hkl]] at hst
    generalize B.chips[(inpK B.chips l1).toNat] = c at *
    obtain ⟨cn, ck, cb, cs, cd⟩ := c
    dsimp only [chV] at hm hst
    rw [← hk] at n2
    rw [← hr3] at n2
    repeat' (first | rw [cells_len] | rw [List.length_map] | refine rI hm ?_ | (show WOpsT _ (⟨_, .app _ _ _ _, none⟩ :: _) _ _ _ _; refine T.app rfl rfl rfl ⟨by decide, by decide⟩ ⟨rfl, rfl, by rw [List.length_map, Nat.zero_add], by simp; omega⟩ ?_) | (show WC _ _ _ _ _ _ _ _ _; first | refine T.call1 1 e53 rfl rfl (n1) ?_ | refine T.call1 1 e53 rfl rfl (n2) ?_ | refine T.call1 1 e53 rfl rfl (n3) ?_) | exact ⟨⟩ | intro (K : KT) hK | intro hcd | (refine go1 ?_ ?_ <;> try clear hK K) | fail)
    have nx2 := fun fr h => nx fr h (a + sval l1 90, acc ++ [⟨a + sval l1 90, cn, sval (inpR B.chips l1) 256⟩], srest (inpR B.chips l1) 256) ⟨by dsimp only; rw [List.length_append, List.length_singleton]; omega, by dsimp only; rw [List.length_append, List.length_singleton]; omega, hst⟩
    dsimp only at nx2
    rw [List.length_append, List.map_append] at nx2
    refine nx2 _ _ (Weaks.gc [0, 1, 2] 1 rfl (by exact sE) ?_)
    show [_, _, _] = [_, _, outB _ _ _ ⟨acc.length + 1 + 1, 3, acc.map evV ++ [[I (a + sval l1 90), .c (.string cn), I (sval (inpR B.chips l1) 256)]]⟩]
    rw [outB_flatA]; rfl
   ·rw [show inpN B.chips l1 = sCpu by unfold inpN; rw [List.getElem?_eq_none (by omega)]] at hst
    unfold sCpu at hst
    rw [← hk] at n2
    rw [← hr3] at n2
    repeat' (first | rw [cells_len] | rw [List.length_map] | (show WOpsT _ (⟨_, .app _ _ _ _, none⟩ :: _) _ _ _ _; refine T.app rfl rfl rfl ⟨by decide, by decide⟩ ⟨rfl, rfl, by rw [List.length_map, Nat.zero_add], by simp; omega⟩ ?_) | (show WC _ _ _ _ _ _ _ _ _; first | refine T.call1 1 e53 rfl rfl (n1) ?_ | refine T.call1 1 e53 rfl rfl (n2) ?_ | refine T.call1 1 e53 rfl rfl (n3) ?_) | exact ⟨⟩ | intro (K : KT) hK | intro hcd | (refine go1 ?_ ?_ <;> try clear hK K) | fail)
    have nx2 := fun fr h => nx fr h (a + sval l1 90, acc ++ [⟨a + sval l1 90, ⟨#[99, 112, 117]⟩, sval (inpR B.chips l1) 256⟩], srest (inpR B.chips l1) 256) ⟨by dsimp only; rw [List.length_append, List.length_singleton]; omega, by dsimp only; rw [List.length_append, List.length_singleton]; omega, hst⟩
    dsimp only at nx2
    rw [List.length_append, List.map_append] at nx2
    refine nx2 _ _ (Weaks.gc [0, 1, 2] 1 rfl (by exact sE) ?_)
    show [_, _, _] = [_, _, outB _ _ _ ⟨acc.length + 1 + 1, 3, acc.map evV ++ [[I (a + sval l1 90), .c (.string ⟨#[99, 112, 117]⟩), I (sval (inpR B.chips l1) 256)]]⟩]
    rw [outB_flatA]; rfl
theorem eqE_ok (a : List Ev) (ha : a.length ≤ 100000) : FnE Tryz.prog 32 [.sl 3 (a.map evV), .sl 3 (a.map evV)] [] (.c (.bool true)) [] := by
 refine N.fnC Tryz.func32 k32 fun Q hQ hQN => ?_
 repeat' (first | rw [List.length_map] | exact ⟨⟩ | intro (K : KT) hK | intro hcd | (refine go1 ?_ ?_ <;> try clear hK K) | fail)
 all_goals first | (exfalso; omega) | skip
 refine N.loop (σ := Nat) (fun i => [(0, .sl 3 (a.map evV)), (1, .sl 3 (a.map evV)), (12, I a.length), (13, I i)]) (fun i => []) (fun i => i ≤ a.length) (fun i => a.length - i) 0 (Nat.zero_le _) (by exact .G [] 1) fun i hi R hC => ?_
 by_cases hil : i < a.length
 ·have hm := mget evV a i hil
  generalize a[i] = x at *
  obtain ⟨x1, x2, x3⟩ := x
  dsimp only [evV] at hm
  repeat' (first | refine rI hm ?_ | (show WOpsT _ (⟨_, .eqs _ _ _ _, none⟩ :: _) _ _ _ _; refine T.eqs (us := [.int .i64 x1, .string x2, .int .i64 x3]) (vs := [.int .i64 x1, .string x2, .int .i64 x3]) (b := true) rfl rfl (by simp [eqLv, eqC]) ?_) | exact ⟨⟩ | intro (K : KT) hK | intro hcd | (refine go1 ?_ ?_ <;> try clear hK K) | fail)
  exact hC _ _ (i + 1) (by omega) (by omega) (by exact .G [] 1)
 ·obtain rfl : i = a.length := by omega
  repeat' (first | exact ⟨⟩ | intro (K : KT) hK | intro hcd | (refine go1 ?_ ?_ <;> try clear hK K) | fail)
  exact WS.c rfl rfl
def zE : List V := [I 0, .c (.string ⟨#[]⟩), I 0]
theorem growE_ok (n : Nat) (hn : 1 ≤ n ∧ n ≤ 100000) : FnE Tryz.prog 75 [.c (.slice none 0 0), I n] [] (.psl 0 1 0 0) [⟨1, 3, List.replicate n zE⟩] := by
 refine N.fnC Tryz.func75 k75 fun Q hQ hQN => ?_
 repeat' (first | refine T.appz rfl rfl ⟨by decide, by decide, by omega, by omega⟩ ?_ | exact ⟨⟩ | intro (K : KT) hK | intro hcd | (refine go1 ?_ ?_ <;> try clear hK K) | fail)
 exact WS.gc [0] 1 rfl (by
  show [_] = [outB _ [0] 1 ⟨1, 3, List.replicate ((n : Int) - (0 - 0)).toNat zE⟩]
  rw [show ((n : Int) - (0 - 0)).toNat = n by omega]
  unfold outB
  rw [List.map_replicate]; rfl) .rfl
theorem zE_ren (n : Nat) (ks : List Nat) : (List.replicate n zE).map (fun x => x.map (ren ks)) = List.replicate n zE := by rw [List.map_replicate]; rfl
theorem grow0_ok : FnE Tryz.prog 75 [.c (.slice none 0 0), I 0] [] (.c (.slice none 0 0)) [] := by
 refine N.fnC Tryz.func75 k75 fun Q hQ hQN => ?_
 repeat' (first | exact ⟨⟩ | intro (K : KT) hK | intro hcd | (refine go1 ?_ ?_ <;> try clear hK K) | fail)
 exact WS.c rfl rfl
theorem concatE_ok (a c : List Ev) (ha : a.length ≤ 50000) (hc : c.length ≤ 50000) : FnE Tryz.prog 33 [.psl 0 1 0 2] [⟨1, 1, [[.sl 3 (a.map evV)], [.sl 3 (c.map evV)]]⟩] (.sl 3 ((a ++ c).map evV)) [⟨1, 1, [[.sl 3 (a.map evV)], [.sl 3 (c.map evV)]]⟩] := by
 by_cases h0 : a.length + c.length = 0
 ·obtain rfl : a = [] := List.eq_nil_of_length_eq_zero (by omega)
  obtain rfl : c = [] := List.eq_nil_of_length_eq_zero (by omega)
  have hg := grow0_ok
  refine N.fnC Tryz.func33 k33 fun Q hQ hQN => ?_
  repeat' (first | (show AK _ _ (.loop _) _ _ _ _; refine N.unroll 3 ?_) | (show WOpsT _ (⟨_, .app _ _ _ _, none⟩ :: _) _ _ _ _; refine T.appE rfl rfl ⟨by decide, by decide⟩ ?_) | refine T.call0 e75 rfl hg ?_ | exact ⟨⟩ | intro (K : KT) hK | intro hcd | (refine go1 ?_ ?_ <;> try clear hK K) | fail)
  exact WS.gc [0] 1 rfl (by exact oO) .nil
 ·have hg : FnE Tryz.prog 75 [.c (.slice none 0 0), I (0 + (a.length : Int) + c.length)] [] (.psl 0 1 0 0) [⟨1, 3, List.replicate (a.length + c.length) zE⟩] := by
   rw [show 0 + (a.length : Int) + c.length = ((a.length + c.length : Nat) : Int) by omega]
   exact growE_ok (a.length + c.length) (by omega)
  refine N.fnC Tryz.func33 k33 fun Q hQ hQN => ?_
  repeat' (first | (show AK _ _ (.loop _) _ _ _ _; refine N.unroll 3 ?_) | rw [List.length_map] | rw [zE_ren] | (show WOpsT _ (⟨_, .app _ _ _ _, none⟩ :: _) _ _ _ _; refine T.appP rfl rfl rfl ⟨by decide, by decide⟩ ⟨rfl, rfl, by first | exact Nat.zero_le _ | (simp; done) | (simp; omega), by simp; omega⟩ ?_) | refine T.callN e75 rfl (hg) (by simp) ?_ | exact ⟨⟩ | intro (K : KT) hK | intro hcd | (refine go1 ?_ ?_ <;> try clear hK K) | fail)
  rw [show List.take a.length (a.map evV) ++ c.map evV = (a ++ c).map evV by rw [List.take_of_length_le (by rw [List.length_map]; exact Nat.le_refl _), List.map_append]]
  exact WS.gc [0] 1 rfl (by exact oO) (by show Sub (out _ [0] 1 (.psl 1 3 0 _)) _; rw [out_rowsK (f := evV) rfl rfl (by rw [List.length_append]; exact Nat.le_refl _)]; exact .rfl)
end Go.Proofs.YtpfagchhmfigfaaGreat.Calc
namespace Go.Proofs.YtpfagchhmfigfaaGreat.Calc
open Go Code
set_option linter.unusedSimpArgs false
set_option linter.unusedVariables false
set_option maxRecDepth 20000
set_option maxHeartbeats 4000000
attribute [local irreducible] WOpsT AW AK RK AKW UK UC
theorem same1_ok (d : Dv) (hd : SmlD d) : FnE Tryz.prog 66 [.agg (dvC d), .agg (dvC d)] [] (.c (.bool true)) [] := by
 obtain ⟨d1, d2⟩ := d
 obtain ⟨s1, s2⟩ := hd
 have h1 := eqI_ok d1 s1
 have h2 := eqB_ok d2 s2
 dsimp only [dvC]
 refine N.fnC Tryz.func66 k66 fun Q hQ hQN => ?_
 repeat' (first | (show WC _ _ _ _ _ _ _ _ _; first | refine T.call0 e67 rfl h1 ?_ | refine T.call0 e68 rfl h2 ?_) | exact ⟨⟩ | intro (K : KT) hK | intro hcd | (refine go1 ?_ ?_ <;> try clear hK K) | fail)
 all_goals first | exact WS.c rfl rfl | (exfalso; omega) | trace_state
theorem eqDv_ok (l : List Dv) (hl : l.length ≤ 100000) (f : Nat) (he : enters Tryz.prog f = true) (hf : ∀ x ∈ l, FnE Tryz.prog f [.agg (dvC x), .agg (dvC x)] [] (.c (.bool true)) []) : FnE Tryz.prog 65 [.sl 2 (l.map dvC), .sl 2 (l.map dvC), .fn f []] [] (.c (.bool true)) [] := by
 refine N.fnC Tryz.func65 k65 fun Q hQ hQN => ?_
 repeat' (first | rw [List.length_map] | exact ⟨⟩ | intro (K : KT) hK | intro hcd | (refine go1 ?_ ?_ <;> try clear hK K) | fail)
 all_goals first | (exfalso; omega) | skip
 refine N.loop (σ := Nat) (fun i => [(1, .sl 2 (l.map dvC)), (2, .fn f []), (15, .sl 2 (l.map dvC)), (16, I l.length), (17, I i)]) (fun i => []) (fun i => i ≤ l.length) (fun i => l.length - i) 0 (Nat.zero_le _) (by exact .G [] 1) fun i hi R hC => ?_
 by_cases hil : i < l.length
 ·have hm := mget dvC l i hil
  have hx := hf _ (List.getElem_mem hil)
  generalize l[i] = x at *
  obtain ⟨x1, x2⟩ := x
  dsimp only [dvC] at hm hx
  repeat' (first | refine rI hm ?_ | refine T.ofFn rfl (C.zero he rfl hx ?_) | rw [Bool.not_true] | exact ⟨⟩ | intro (K : KT) hK | intro hcd | (refine go1 ?_ ?_ <;> try clear hK K) | fail)
  all_goals first | exact hC _ _ (i + 1) (by omega) (by omega) (by exact .G [] 1) | (exfalso; omega) | (exfalso; simp at *; done)
 ·obtain rfl : i = l.length := by omega
  repeat' (first | exact ⟨⟩ | intro (K : KT) hK | intro hcd | (refine go1 ?_ ?_ <;> try clear hK K) | fail)
  exact WS.c rfl rfl
theorem msame_ok (t : Int) (r : Nat → Int) (op a : Int) (b : Bool) (ds : List Dv) (x y z : Int) (hd : ∀ d ∈ ds, SmlD d) (hl : ds.length ≤ 100000) : FnE Tryz.prog 28 [.agg (maV t r op a b ds x y z), .agg (maV t r op a b ds x y z)] [] (.c (.bool true)) [] := by
 have h := eqDv_ok ds hl 66 e66 fun d h => same1_ok d (hd d h)
 dsimp only [maV]
 refine N.fnC Tryz.func28 k28 fun Q hQ hQN => ?_
 repeat' (first | (show WOpsT _ (⟨_, .eqs _ _ _ _, none⟩ :: _) _ _ _ _; refine T.eqs (b := true) rfl rfl (by simp [eqLv, eqC]) ?_) | refine T.call0 e65 rfl h ?_ | exact ⟨⟩ | intro (K : KT) hK | intro hcd | (refine go1 ?_ ?_ <;> try clear hK K) | fail)
 all_goals first | exact WS.c rfl rfl | (exfalso; omega) | trace_state
end Go.Proofs.YtpfagchhmfigfaaGreat.Calc
namespace Go.Proofs.YtpfagchhmfigfaaGreat.Calc
open Go
set_option linter.unusedVariables false
set_option linter.unusedSimpArgs false
def vnmB (s : ByteArray) : Bool := decide (1 ≤ s.size) && decide (s.size ≤ 20) && (match s[0]? with
 | some b => decide (97 ≤ b.toNat) && decide (b.toNat ≤ 122)
 | none => false) && (nmB s).all fun b => decide ((97 ≤ b ∧ b ≤ 122) ∨ (48 ≤ b ∧ b ≤ 57) ∨ b = 45)
theorem vnm_of (s : ByteArray) (h : vnmB s = true) : VName s := by
 unfold vnmB at h
 rw [Bool.and_eq_true, Bool.and_eq_true, Bool.and_eq_true] at h
 obtain ⟨⟨⟨h1, h2⟩, h3⟩, h4⟩ := h
 refine ⟨⟨of_decide_eq_true h1, of_decide_eq_true h2⟩, ?_, fun x hx => by have h5 := List.all_eq_true.1 h4 x hx; unfold okCh; exact of_decide_eq_true h5⟩
 cases hs : s[0]? with
 | none => rw [hs] at h3; cases h3
 | some b =>
  rw [hs] at h3
  dsimp only at h3
  rw [Bool.and_eq_true] at h3
  have a := of_decide_eq_true h3.1
  have b' := of_decide_eq_true h3.2
  exact ⟨b, rfl, by omega, by omega⟩
theorem chipN_v : ∀ j : Nat, j < 5 → vnmB (chipN j) = true ∧ chipN j ≠ ⟨#[99, 112, 117]⟩ ∧ chipN j ≠ ⟨#[114, 97, 109]⟩ ∧ chipN j ≠ ⟨#[114, 111, 109]⟩ := by decide +kernel
theorem chipN_inj : ∀ j : Nat, j < 5 → ∀ k : Nat, k < j → chipN k ≠ chipN j := by decide +kernel
structure BdInv (i : Nat) (a : Int) (cs : List Chp) : Prop where
 len : cs.length = i + 1
 lo : ∀ c ∈ cs, 0 ≤ c.base ∧ 0 ≤ c.size ∧ c.base + c.size ≤ a
 order : ∀ j k (h : k < cs.length) (hjk : j < k), cs[j].base + cs[j].size ≤ cs[k].base
 names : ∀ j (h : j < cs.length), cs[j].name = if j = 0 then ⟨#[114, 97, 109]⟩ else chipN (j - 1)
theorem goBd_place : ∀ (n i : Nat) (a : Int) (cs : List Chp) (ws : List Wir) (l : List Int), i + n ≤ 4 → 57344 ≤ a ∧ a ≤ 57344 + 48 * i → BdInv i a cs → ∃ a' : Int, a' ≤ 57344 + 48 * (i + n : Nat) ∧ BdInv (i + n) a' (goBd n i a cs ws l).1 := by
 intro n
 induction n with
 | zero => intro i a cs ws l _ ha h; exact ⟨a, by rw [Nat.add_zero]; exact ha.2, h⟩
 | succ n ih =>
  intro i a cs ws l hn ha h
  have hz := szN_r (kdN (sval l 8).toNat)
  unfold goBd
  generalize kdN (sval l 8).toNat = k at *
  have hc : (stepBd k i a (srest l 8)).1.name = chipN i ∧ (stepBd k i a (srest l 8)).1.base = a ∧ (stepBd k i a (srest l 8)).1.size = szN k := ⟨rfl, rfl, rfl⟩
  generalize (stepBd k i a (srest l 8)).1 = c at *
  obtain ⟨c1, c2, c3⟩ := hc
  have hlast : ∀ (h : cs.length < (cs ++ [c]).length), (cs ++ [c])[cs.length] = c := fun h => by simp
  obtain ⟨a', h1, h2⟩ := ih (i + 1) (a + ((szN k : Int) + 15) / 16 * 16) (cs ++ [c]) (ws ++ (stepBd k i a (srest l 8)).2.1) (stepBd k i a (srest l 8)).2.2 (by omega) (by omega) (by
   refine ⟨by rw [List.length_append, h.len]; rfl, ?_, ?_, ?_⟩
   ·intro x hx
    rcases List.mem_append.1 hx with hx | hx
    ·have := h.lo x hx; omega
    ·simp only [List.mem_singleton] at hx; subst hx; omega
   ·intro j q hq hjq
    by_cases hq2 : q < cs.length
    ·rw [List.getElem_append_left hq2, List.getElem_append_left (by omega)]; exact h.order j q hq2 hjq
    ·have : q = cs.length := by rw [List.length_append] at hq; simp at hq; omega
     subst this
     rw [hlast hq, List.getElem_append_left hjq, c2]
     have := h.lo cs[j] (List.getElem_mem _)
     omega
   ·intro j hj
    by_cases hj2 : j < cs.length
    ·rw [List.getElem_append_left hj2]; exact h.names j hj2
    ·have : j = cs.length := by rw [List.length_append] at hj; simp at hj; omega
     subst this
     rw [hlast hj, c1, h.len, if_neg (by omega)]
     rfl)
  exact ⟨a', by rw [show i + (n + 1) = i + 1 + n by omega]; exact h1, by rw [show i + (n + 1) = i + 1 + n by omega]; exact h2⟩
theorem mkBrd_places (l : List Int) : (∀ c ∈ (mkBrd l).chips, VPlace c) ∧ ∀ i j (h : j < (mkBrd l).chips.length) (hij : i < j), Apart (mkBrd l).chips[i] (mkBrd l).chips[j] ∧ (mkBrd l).chips[i].base + (mkBrd l).chips[i].size ≤ (mkBrd l).chips[j].base := by
 have r := sval_range l 5 (by decide)
 obtain ⟨a', h1, h2⟩ := goBd_place (sval l 5).toNat 0 57344 [ramC] [] (srest l 5) (by omega) (by decide) ⟨rfl, by
  intro c hc; simp only [List.mem_singleton] at hc; subst hc; decide, fun j k h hjk => absurd h (by simp; omega), fun j h => by
   have : j = 0 := by simp at h; omega
   subst this; rfl⟩
 rw [Nat.zero_add] at h1 h2
 have hcs : (mkBrd l).chips = (goBd (sval l 5).toNat 0 57344 [ramC] [] (srest l 5)).1 ++ [romC (bdOf l).2.2] := rfl
 refine (fun (key : ∀ cs2, cs2 = (goBd (sval l 5).toNat 0 57344 [ramC] [] (srest l 5)).1 ++ [romC (bdOf l).2.2] → (∀ c ∈ cs2, VPlace c) ∧ ∀ i j (h : j < cs2.length) (hij : i < j), Apart cs2[i] cs2[j] ∧ cs2[i].base + cs2[i].size ≤ cs2[j].base) => key _ hcs) ?_
 intro cs2 hcs2
 clear hcs
 subst hcs2
 generalize (goBd (sval l 5).toNat 0 57344 [ramC] [] (srest l 5)).1 = cs at *
 generalize hrc : romC (bdOf l).2.2 = rc
 have hr : rc.name = ⟨#[114, 111, 109]⟩ ∧ rc.base = 65280 ∧ rc.size = 256 := by rw [← hrc]; exact ⟨rfl, rfl, rfl⟩
 obtain ⟨r1, r2, r3⟩ := hr
 have hnm : ∀ j (hj : j < cs.length), vnmB cs[j].name = true ∧ cs[j].name ≠ ⟨#[99, 112, 117]⟩ ∧ cs[j].name ≠ ⟨#[114, 111, 109]⟩ := fun j hj => by
  have hl := h2.len
  rw [h2.names j hj]
  by_cases h0 : j = 0
  ·rw [if_pos h0]; exact ⟨by decide +kernel, by decide, by decide⟩
  ·rw [if_neg h0]
   obtain ⟨q1, q2, q3, q4⟩ := chipN_v (j - 1) (by omega)
   exact ⟨q1, q2, q4⟩
 have hlast : ∀ (h : cs.length < (cs ++ [rc]).length), (cs ++ [rc])[cs.length] = rc := fun h => by simp
 constructor
 ·intro c hc
  rcases List.mem_append.1 hc with hc | hc
  ·obtain ⟨j, hj, rfl⟩ := List.getElem_of_mem hc
   obtain ⟨q1, q2, q3⟩ := hnm j hj
   have := h2.lo _ hc
   exact ⟨vnm_of _ q1, q2, this.1, by omega⟩
  ·simp only [List.mem_singleton] at hc; subst hc
   exact ⟨by rw [r1]; exact vnm_of _ (by decide +kernel), by rw [r1]; decide, by omega, by omega⟩
 ·intro i j hj hij
  by_cases hj2 : j < cs.length
  ·rw [List.getElem_append_left hj2, List.getElem_append_left (by omega)]
   have ho := h2.order i j hj2 hij
   refine ⟨⟨?_, .inl ho⟩, ho⟩
   rw [h2.names i (by omega), h2.names j hj2, if_neg (show ¬ j = 0 by omega)]
   have hl := h2.len
   by_cases h0 : i = 0
   ·rw [if_pos h0]
    exact fun h => (chipN_v (j - 1) (by omega)).2.2.1 h.symm
   ·rw [if_neg h0]
    exact chipN_inj (j - 1) (by omega) (i - 1) (by omega)
  ·have : j = cs.length := by rw [List.length_append] at hj; simp at hj; omega
   subst this
   rw [hlast hj, List.getElem_append_left hij]
   have hlo := h2.lo cs[i] (List.getElem_mem _)
   have ho : cs[i].base + cs[i].size ≤ rc.base := by omega
   refine ⟨⟨?_, .inl ho⟩, ho⟩
   rw [r1]; exact (hnm i hij).2.2
structure Rg where
 fr : Int
 to : Int
 ch : Int
def rgV (r : Rg) : List V := [I r.fr, I r.to, I r.ch]
instance : Flat rgV := ⟨fun a x hx => by simp [rgV] at hx; rcases hx with rfl | rfl | rfl <;> exact .inl ⟨_, rfl⟩⟩
def ixA (cs : List Chp) (a : Int) : Int := match findC cs a with
 | some i => (i : Int)
 | none => -1
def stepR (l : List Rg) (n : Nat) (x : Int) : List Rg := match l.getLast? with
 | some r => if r.ch = x then l.dropLast ++ [⟨r.fr, (n : Int) + 1, r.ch⟩] else l ++ [⟨n, (n : Int) + 1, x⟩]
 | none => l ++ [⟨n, (n : Int) + 1, x⟩]
def mapR (cs : List Chp) : Nat → List Rg
 | 0 => []
 | n + 1 => stepR (mapR cs n) n (ixA cs n)
def sumR (l : List Rg) (k : Int) : Int := (l.map fun r => if r.ch = k then r.to - r.fr else 0).foldr (· + ·) 0
structure RInv (cs : List Chp) (n : Nat) (l : List Rg) : Prop where
 rg : ∀ r ∈ l, 0 ≤ r.fr ∧ r.fr < r.to ∧ r.to ≤ n ∧ (-1 ≤ r.ch ∧ r.ch < cs.length) ∧ ∀ a, r.fr ≤ a → a < r.to → ixA cs a = r.ch
 all : ∀ a, 0 ≤ a → a < (n : Int) → ∃ r ∈ l, r.fr ≤ a ∧ a < r.to
 last : ∀ r, l.getLast? = some r → r.to = n
 len : l.length ≤ n
end Go.Proofs.YtpfagchhmfigfaaGreat.Calc
namespace Go.Proofs.YtpfagchhmfigfaaGreat.Calc
open Go Code
set_option linter.unusedSimpArgs false
set_option linter.unusedVariables false
set_option maxRecDepth 20000
set_option maxHeartbeats 4000000
attribute [local irreducible] WOpsT AW AK RK AKW UK UC
theorem ibs_x (s : ByteArray) (c : Int) : ExtE Tryz.prog 258 [.c (.string s), .c (.int .u8 c)] (I (firstIdx s c.toNat.toUInt8)) := by
 intro X w ι vs hn hr
 have e : vs = #[.string s, .int .u8 c] := by
  obtain ⟨l⟩ := vs
  match l, hn with
  | [a, b], _ =>
   have h1 := hr 0 a _ rfl rfl
   have h2 := hr 1 b _ rfl rfl
   cases h1; cases h2; rfl
 subst e
 refine ⟨_, ?_, .c⟩
 rw [run_callFunc_indexByte Tryz.func258 (by kernel_rfl) (by kernel_rfl) (by kernel_rfl) (by kernel_rfl), run_indexByte_string]
 rfl
theorem ib_ok (s : ByteArray) (c : Int) : FnE Tryz.prog 254 [.c (.string s), .c (.int .u8 c)] [] (I (firstIdx s c.toNat.toUInt8)) [] := by
 refine N.fnC Tryz.func254 k254 fun Q hQ hQN => ?_
 repeat' (first | (show WOpsT _ (⟨_, .xcall _ _, none⟩ :: _) _ _ _ _; refine T.xcall rfl (ibs_x _ _) ?_) | exact ⟨⟩ | intro (K : KT) hK | intro hcd | (refine go1 ?_ ?_ <;> try clear hK K) | fail)
 exact WS.c rfl rfl
theorem dot_ok (s : ByteArray) (hs : s ≠ ⟨#[46]⟩) : FnE Tryz.prog 251 [.c (.string s), .c (.string ⟨#[46]⟩)] [] (I (firstIdx s 46)) [] := by
 have hx := ib_ok s 46
 have e : decide ((⟨#[46]⟩ : ByteArray) = s) = false := decide_eq_false fun h => hs h.symm
 refine N.fnC Tryz.func251 k251 fun Q hQ hQN => ?_
 repeat' (first | (show WOpsT _ (⟨_, .ixs _ _, none⟩ :: _) _ _ _ _; refine T.ixs rfl rfl (by decide) rfl ?_) | rw [e] | refine T.call0 e254 rfl hx ?_ | exact ⟨⟩ | intro (K : KT) hK | intro hcd | (refine go1 ?_ ?_ <;> try clear hK K) | fail)
 all_goals first | exact WS.c rfl rfl | (exfalso; omega) | trace_state
theorem cutL_ok (s a b : ByteArray) (k : Nat) (hk : k < s.size) (hz : s.size ≤ 1000) (hs : s ≠ ⟨#[46]⟩) (hi : firstIdx s 46 = k) (ha : s.extract 0 k = a) (hb : s.extract (k + 1) s.size = b) : FnE Tryz.prog 236 [.c (.string s), .c (.string ⟨#[46]⟩)] [] (.tup [.c (.string a), .c (.string b), .c (.bool true)]) [] := by
 have hx := dot_ok s hs
 rw [hi] at hx
 have e1 : ((⟨#[46]⟩ : ByteArray).size : Int) = 1 := rfl
 refine N.fnC Tryz.func236 k236 fun Q hQ hQN => ?_
 repeat' (first | rw [e1] | refine T.call0 e251 rfl hx ?_ | exact ⟨⟩ | intro (K : KT) hK | intro hcd | (refine go1 ?_ ?_ <;> try clear hK K) | fail)
 all_goals first | (exfalso; omega) | skip
 rw [show ((k : Int) + 1).toNat = k + 1 by omega, Int.toNat_natCast, Int.toNat_natCast, ha, hb]
 exact WS.drop (n := 0) rfl rfl
theorem cut_ok (s a b : ByteArray) (k : Nat) (hk : k < s.size) (hz : s.size ≤ 1000) (hs : s ≠ ⟨#[46]⟩) (hi : firstIdx s 46 = k) (ha : s.extract 0 k = a) (hb : s.extract (k + 1) s.size = b) : FnE Tryz.prog 191 [.c (.string s), .c (.string ⟨#[46]⟩)] [] (.tup [.c (.string a), .c (.string b), .c (.bool true)]) [] := by
 have hx := cutL_ok s a b k hk hz hs hi ha hb
 refine N.fnC Tryz.func191 k191 fun Q hQ hQN => ?_
 repeat' (first | refine T.call0 e236 rfl hx ?_ | exact ⟨⟩ | intro (K : KT) hK | intro hcd | (refine go1 ?_ ?_ <;> try clear hK K) | fail)
 exact WS.drop (n := 0) rfl rfl
theorem idx1_ok (s : ByteArray) (c : Chp) : FnE Tryz.prog 237 [.agg (chV c), .ptr 0 1 0 0] [⟨1, 1, [[.c (.string s)]]⟩] (.c (.bool (decide (c.name = s)))) [⟨1, 1, [[.c (.string s)]]⟩] := by
 obtain ⟨nm, k, b, z, dat⟩ := c
 dsimp only [chV]
 refine N.fnC Tryz.func237 k237 fun Q hQ hQN => ?_
 repeat' (first | exact ⟨⟩ | intro (K : KT) hK | intro hcd | (refine go1 ?_ ?_ <;> try clear hK K) | fail)
 exact WS.gc [0] 1 rfl (by exact oO) .rfl
theorem idxC_ok (f : Nat) (he : enters Tryz.prog f = true) (s : ByteArray) (l : List Chp) (i : Nat) (hi : i < l.length) (hn : l[i].name = s) (hb : ∀ j, j < i → ∀ hj : j < l.length, l[j].name ≠ s) (hl : l.length ≤ 256) (hp : ∀ x : Chp, FnE Tryz.prog f [.agg (chV x), .ptr 0 1 0 0] [⟨1, 1, [[.c (.string s)]]⟩] (.c (.bool (decide (x.name = s)))) [⟨1, 1, [[.c (.string s)]]⟩]) : FnE Tryz.prog 22 [.sl 5 (l.map chV), .fn f [.ptr 0 1 0 0]] [⟨1, 1, [[.c (.string s)]]⟩] (I i) [⟨1, 1, [[.c (.string s)]]⟩] := by
 refine N.fnC Tryz.func22 k22 fun Q hQ hQN => ?_
 repeat' (first | rw [List.length_map] | exact ⟨⟩ | intro (K : KT) hK | intro hcd | (refine go1 ?_ ?_ <;> try clear hK K) | fail)
 refine N.loop (σ := Nat) (fun j => [(0, .sl 5 (l.map chV)), (1, .fn f [.ptr 0 1 0 0]), (7, I l.length), (8, I j)]) (fun j => [⟨1, 1, [[.c (.string s)]]⟩]) (fun j => j ≤ i) (fun j => i - j) 0 (Nat.zero_le _) (Weaks.sel (by exact sB) rfl) fun j hj R hC => ?_
 have hjl : j < l.length := by omega
 have hm := mget chV l j hjl
 have hv := hp l[j]
 by_cases hji : j = i
 ·subst hji
  rw [hn, decide_eq_true rfl] at hv
  generalize l[j] = x at *
  obtain ⟨xn, xk, xb, xs, xd⟩ := x
  dsimp only [chV] at hm hv
  repeat' (first | refine rI hm ?_ | refine T.ofFn rfl (C.read [0] he rfl hv rfl rfl rfl rfl rfl ?_) | exact ⟨⟩ | intro (K : KT) hK | intro hcd | (refine go1 ?_ ?_ <;> try clear hK K) | fail)
  exact WS.gc [0] 1 rfl (by exact oO) .rfl
 ·have h1 := hb j (by omega) hjl
  rw [decide_eq_false h1] at hv
  generalize l[j] = x at *
  obtain ⟨xn, xk, xb, xs, xd⟩ := x
  dsimp only [chV] at hm hv
  repeat' (first | refine rI hm ?_ | refine T.ofFn rfl (C.read [0] he rfl hv rfl rfl rfl rfl rfl ?_) | exact ⟨⟩ | intro (K : KT) hK | intro hcd | (refine go1 ?_ ?_ <;> try clear hK K) | fail)
  exact hC _ _ (j + 1) (by omega) (by omega) (Weaks.sel (by exact sB) rfl)
theorem bindex_ok (b : Brd) (s : ByteArray) (i : Nat) (hi : i < b.chips.length) (hn : b.chips[i].name = s) (hb : ∀ j, j < i → ∀ hj : j < b.chips.length, b.chips[j].name ≠ s) (hl : b.chips.length ≤ 256) : FnE Tryz.prog 192 [.agg (boV b), .c (.string s)] [] (I i) [] := by
 have hx := idxC_ok 237 e237 s b.chips i hi hn hb hl fun x => idx1_ok s x
 obtain ⟨bn, ⟨nm, ins, r1, r2, r3⟩, cs, ws⟩ := b
 unfold boV cpC
 dsimp only [List.cons_append, List.nil_append] at hx ⊢
 refine N.fnC Tryz.func192 k192 fun Q hQ hQN => ?_
 repeat' (first | refine T.cP [1] e22 (hx) ?_ | exact ⟨⟩ | intro (K : KT) hK | intro hcd | (refine go1 ?_ ?_ <;> try clear hK K) | fail)
 exact WS.drop (n := 0) rfl rfl
theorem wire_ok (b : Brd) (w : Wir) (s : ByteArray) (k i : Nat) (hk : k < w.src.size) (hz : w.src.size ≤ 1000) (hs : w.src ≠ ⟨#[46]⟩) (hf : firstIdx w.src 46 = k) (ha : w.src.extract 0 k = s) (hp : w.src.extract (k + 1) w.src.size = ⟨#[105, 114, 113]⟩) (hd : w.dst = sCpuIrq) (hi : i < b.chips.length) (hn : b.chips[i].name = s) (hb : ∀ j, j < i → ∀ hj : j < b.chips.length, b.chips[j].name ≠ s) (hl : b.chips.length ≤ 256) (hkd : b.chips[i].kind = 3 ∨ b.chips[i].kind = 5 ∨ b.chips[i].kind = 8) : FnE Tryz.prog 111 [.agg (boV b), .agg (wiV w)] [] (I 0) [] := by
 have hc := cut_ok w.src s _ k hk hz hs hf ha hp
 have hx := bindex_ok b s i hi hn hb hl
 have hm := mget chV b.chips i hi
 have has : FnE Tryz.prog 193 [I b.chips[i].kind] [] (.c (.bool true)) [] := by
  refine N.fnC Tryz.func193 k193 fun Q hQ hQN => ?_
  repeat' (first | exact ⟨⟩ | intro (K : KT) hK | intro hcd | (refine go1 ?_ ?_ <;> try clear hK K) | fail)
  all_goals first | exact WS.c rfl rfl | exact WS.bool rfl (by simp; omega) | (exfalso; omega) | trace_state
 generalize b.chips[i] = x at *
 obtain ⟨xn, xk, xb, xs, xd⟩ := x
 obtain ⟨w1, w2⟩ := w
 obtain ⟨bn, ⟨nm, ins, r1, r2, r3⟩, cs, ws⟩ := b
 dsimp only at hd hc has hl
 subst hd
 unfold boV cpC at *
 dsimp only [List.cons_append, List.nil_append, chV, wiV, sCpuIrq] at *
 refine N.fnC Tryz.func111 k111 fun Q hQ hQN => ?_
 repeat' (first | refine rI hm ?_ | rw [Bool.not_true] | (show WC _ _ _ _ _ _ _ _ _; first | refine T.call0 e191 rfl hc ?_ | refine T.call0 e192 rfl hx ?_ | refine T.call0 e193 rfl has ?_) | exact ⟨⟩ | intro (K : KT) hK | intro hcd | (refine go1 ?_ ?_ <;> try clear hK K) | fail)
 all_goals first | exact WS.drop (n := 0) rfl rfl | exact WS.c rfl rfl | (exfalso; omega) | trace_state
end Go.Proofs.YtpfagchhmfigfaaGreat.Calc
namespace Go.Proofs.YtpfagchhmfigfaaGreat.Calc
open Go
set_option linter.unusedVariables false
set_option linter.unusedSimpArgs false
instance (a b : Int) : Decidable (fitsP a b) := by unfold fitsP; infer_instance
instance (s : Stp) : Decidable (VStep s) := by unfold VStep; infer_instance
instance (c : Cyc) : Decidable (VCyc c) := by unfold VCyc; infer_instance
instance (l : List Cyc) : Decidable (VCycs l) := by unfold VCycs; infer_instance
def insB (x : Ins) : Bool := decide (0 ≤ x.op ∧ x.op ≤ 255) && vnmB x.name && decide (0 ≤ sizeM x.mode) && decide (VCycs x.cy) && decide (opnd x.cy = sizeM x.mode)
theorem ins_of (x : Ins) (h : insB x = true) : VIns x := by
 unfold insB at h
 simp only [Bool.and_eq_true, decide_eq_true_eq] at h
 obtain ⟨⟨⟨⟨h1, h2⟩, h3⟩, h4⟩, h5⟩ := h
 exact ⟨h1, vnm_of _ h2, h3, h4, h5⟩
theorem std_ins : stdM.ins.all insB = true := by decide +kernel
def insD : Ins := ⟨0, ⟨#[]⟩, 0, []⟩
theorem std_order : (List.range (stdM.ins.length - 1)).all (fun i => decide ((stdM.ins.getD i insD).op < (stdM.ins.getD (i + 1) insD).op)) = true := by decide +kernel
def keyI (x : Ins) : List Nat × Int := (x.name.data.toList.map (·.toNat), x.mode)
theorem std_once : (stdM.ins.map keyI).Nodup := by decide +kernel
theorem std_v : VCpu stdM := by
 refine ⟨vnm_of _ (by decide +kernel), by decide +kernel, fun x hx => ins_of x (List.all_eq_true.1 std_ins x hx), ?_, ?_, by decide +kernel, by decide +kernel, by decide +kernel⟩
 ·intro i h
  have h1 := List.all_eq_true.1 std_order i (List.mem_range.2 (by omega))
  have h1 := of_decide_eq_true h1
  rw [List.getD_eq_getElem?_getD, List.getD_eq_getElem?_getD, List.getElem?_eq_getElem (by omega), List.getElem?_eq_getElem h] at h1
  exact h1
 ·intro i j h hij ⟨e1, e2⟩
  have h1 := List.pairwise_iff_getElem.1 std_once i j (by rw [List.length_map]; omega) (by rw [List.length_map]; exact h) hij
  rw [List.getElem_map, List.getElem_map] at h1
  exact h1 (by unfold keyI; rw [e1, e2])
theorem src_v : ∀ j : Nat, j < 5 → 6 < (chipN j ++ sIrq).size ∧ (chipN j ++ sIrq).size ≤ 1000 ∧ firstIdx (chipN j ++ sIrq) 46 = 6 ∧ (chipN j ++ sIrq) ≠ ⟨#[46]⟩ ∧ (chipN j ++ sIrq).extract 0 6 = chipN j ∧ (chipN j ++ sIrq).extract (6 + 1) (chipN j ++ sIrq).size = ⟨#[105, 114, 113]⟩ := by decide +kernel
theorem src_inj : ∀ j : Nat, j < 5 → ∀ k : Nat, k < j → chipN k ++ sIrq ≠ chipN j ++ sIrq := by decide +kernel
structure WInv (i : Nat) (cs : List Chp) (ws : List Wir) : Prop where
 len : cs.length = i + 1
 num : ws.length ≤ i
 wr : ∀ w ∈ ws, ∃ j, j < i ∧ w = ⟨chipN j ++ sIrq, sCpuIrq⟩ ∧ ∃ c, cs[j + 1]? = some c ∧ (c.kind = 3 ∨ c.kind = 5 ∨ c.kind = 8)
 pw : ws.Pairwise fun a b => a.src ≠ b.src
theorem goBd_wires : ∀ (n i : Nat) (a : Int) (cs : List Chp) (ws : List Wir) (l : List Int), i + n ≤ 4 → WInv i cs ws → WInv (i + n) (goBd n i a cs ws l).1 (goBd n i a cs ws l).2.1 := by
 intro n
 induction n with
 | zero => intro i a cs ws l _ h; exact h
 | succ n ih =>
  intro i a cs ws l hn h
  unfold goBd
  generalize kdN (sval l 8).toNat = k at *
  have hc : (stepBd k i a (srest l 8)).1.kind = k := rfl
  have hw : (stepBd k i a (srest l 8)).2.1 = [] ∨ ((stepBd k i a (srest l 8)).2.1 = [⟨chipN i ++ sIrq, sCpuIrq⟩] ∧ ((k : Int) = 3 ∨ (k : Int) = 5 ∨ (k : Int) = 8)) := by
   show (wirB k (chipN i) _).1 = [] ∨ ((wirB k (chipN i) _).1 = _ ∧ _)
   unfold wirB
   by_cases h1 : k = 3 ∨ k = 5 ∨ k = 8
   ·rw [if_pos h1]
    dsimp only
    split
    ·exact .inr ⟨rfl, by omega⟩
    ·exact .inl rfl
   ·rw [if_neg h1]; exact .inl rfl
  generalize (stepBd k i a (srest l 8)).1 = c at *
  generalize (stepBd k i a (srest l 8)).2.1 = nw at *
  rw [show i + (n + 1) = i + 1 + n by omega]
  apply ih _ _ _ _ _ (by omega)
  have old : ∀ w ∈ ws, ∃ j, j < i + 1 ∧ w = ⟨chipN j ++ sIrq, sCpuIrq⟩ ∧ ∃ c', (cs ++ [c])[j + 1]? = some c' ∧ (c'.kind = 3 ∨ c'.kind = 5 ∨ c'.kind = 8) := fun w hw => by
   obtain ⟨j, h1, h2, c', h3, h4⟩ := h.wr w hw
   exact ⟨j, by omega, h2, c', by rw [List.getElem?_append_left (by rw [h.len]; omega)]; exact h3, h4⟩
  rcases hw with hw | ⟨hw, hk⟩
  ·subst hw
   rw [List.append_nil]
   exact ⟨by rw [List.length_append, h.len]; rfl, by have := h.num; omega, old, h.pw⟩
  ·subst hw
   refine ⟨by rw [List.length_append, h.len]; rfl, by have := h.num; rw [List.length_append, List.length_singleton]; omega, ?_, ?_⟩
   ·intro w hw
    rcases List.mem_append.1 hw with hw | hw
    ·exact old w hw
    ·simp only [List.mem_singleton] at hw; subst hw
     exact ⟨i, by omega, rfl, c, by rw [← h.len]; simp, by rw [hc]; exact hk⟩
   ·rw [List.pairwise_append]
    refine ⟨h.pw, List.pairwise_singleton .., fun x hx y hy => ?_⟩
    simp only [List.mem_singleton] at hy; subst hy
    obtain ⟨j, h1, h2, _⟩ := h.wr x hx
    subst h2
    exact src_inj i (by omega) j h1
theorem mkBrd_wires (l : List Int) : ∃ n, n ≤ 4 ∧ (mkBrd l).chips.length = n + 2 ∧ (mkBrd l).wires.length ≤ n ∧ (∀ w ∈ (mkBrd l).wires, ∃ j, j < n ∧ w = ⟨chipN j ++ sIrq, sCpuIrq⟩ ∧ ∃ c, (mkBrd l).chips[j + 1]? = some c ∧ c.name = chipN j ∧ (c.kind = 3 ∨ c.kind = 5 ∨ c.kind = 8)) ∧ (mkBrd l).wires.Pairwise fun a b => a.src ≠ b.src := by
 have r := sval_range l 5 (by decide)
 have h := goBd_wires (sval l 5).toNat 0 57344 [ramC] [] (srest l 5) (by omega) ⟨rfl, Nat.zero_le _, fun w hw => absurd hw (by simp), List.Pairwise.nil⟩
 obtain ⟨a', _, h2⟩ := goBd_place (sval l 5).toNat 0 57344 [ramC] [] (srest l 5) (by omega) (by decide) ⟨rfl, by
  intro c hc; simp only [List.mem_singleton] at hc; subst hc; decide, fun j k h hjk => absurd h (by simp; omega), fun j h => by
   have : j = 0 := by simp at h; omega
   subst this; rfl⟩
 rw [Nat.zero_add] at h h2
 refine ⟨(sval l 5).toNat, by omega, ?_, h.num, ?_, h.pw⟩
 ·show ((goBd (sval l 5).toNat 0 57344 [ramC] [] (srest l 5)).1 ++ [_]).length = _
  rw [List.length_append, h.len]; rfl
 ·intro w hw
  obtain ⟨j, h1, h3, c, h4, h5⟩ := h.wr w hw
  refine ⟨j, h1, h3, c, ?_, ?_, h5⟩
  ·show ((goBd (sval l 5).toNat 0 57344 [ramC] [] (srest l 5)).1 ++ [_])[j + 1]? = _
   rw [List.getElem?_append_left (by rw [h.len]; omega)]; exact h4
  ·obtain ⟨hj, e⟩ := List.getElem?_eq_some_iff.1 h4
   rw [← e, h2.names (j + 1) hj, if_neg (by omega)]; rfl
theorem mkBrd_v (l : List Int) : VBoard (mkBrd l) := by
 obtain ⟨hv, hn2, hn6⟩ := mkBrd_kinds l
 obtain ⟨hpl, hap⟩ := mkBrd_places l
 obtain ⟨n, h1, h2, h3, _⟩ := mkBrd_wires l
 exact ⟨vnm_of _ (by show vnmB ⟨#[98, 111, 97, 114, 100]⟩ = true; decide +kernel), std_v, by omega, hv, hpl, fun i j h hij => (hap i j h hij).1, by omega⟩
end Go.Proofs.YtpfagchhmfigfaaGreat.Calc
namespace Go.Proofs.YtpfagchhmfigfaaGreat.Calc
open Go Code
set_option linter.unusedSimpArgs false
set_option linter.unusedVariables false
set_option maxRecDepth 20000
set_option maxHeartbeats 4000000
attribute [local irreducible] WOpsT AW AK RK AKW UK UC
theorem ixW_ok (l : List Wir) (w : Wir) (hl : l.length ≤ 256) (hn : ∀ x ∈ l, x.src ≠ w.src) : FnE Tryz.prog 194 [.sl 2 (l.map wiV), .agg (wiV w)] [] (I (-1)) [] := by
 obtain ⟨w1, w2⟩ := w
 dsimp only [wiV] at hn ⊢
 refine N.fnC Tryz.func194 k194 fun Q hQ hQN => ?_
 repeat' (first | rw [List.length_map] | exact ⟨⟩ | intro (K : KT) hK | intro hcd | (refine go1 ?_ ?_ <;> try clear hK K) | fail)
 refine N.loop (σ := Nat) (fun j => [(0, .sl 2 (l.map wiV)), (3, .ptr 0 1 0 0), (7, I l.length), (8, I j)]) (fun j => [⟨1, 2, [[.c (.string w1), .c (.string w2)]]⟩]) (fun j => j ≤ l.length) (fun j => l.length - j) 0 (Nat.zero_le _) (by exact .G [0] 1) fun j hj R hC => ?_
 by_cases hjl : j < l.length
 ·have hm := mget wiV l j hjl
  have h1 := hn _ (List.getElem_mem hjl)
  generalize l[j] = x at *
  obtain ⟨x1, x2⟩ := x
  dsimp only [wiV] at hm h1
  have h2 : ¬ w1 = x1 := fun h => h1 h.symm
  repeat' (first | refine rI hm ?_ | (show WOpsT _ (⟨_, .eqs _ _ _ _, none⟩ :: _) _ _ _ _; refine T.eqs (b := false) rfl rfl (by simp [eqLv, eqC, h2]) ?_) | exact ⟨⟩ | intro (K : KT) hK | intro hcd | (refine go1 ?_ ?_ <;> try clear hK K) | fail)
  all_goals first | exact hC _ _ (j + 1) (by omega) (by omega) (by exact .G [0] 1) | trace_state
 ·obtain rfl : j = l.length := by omega
  repeat' (first | exact ⟨⟩ | intro (K : KT) hK | intro hcd | (refine go1 ?_ ?_ <;> try clear hK K) | fail)
  exact WS.c rfl rfl
theorem ctW_ok (l : List Wir) (w : Wir) (hl : l.length ≤ 256) (hn : ∀ x ∈ l, x.src ≠ w.src) : FnE Tryz.prog 112 [.sl 2 (l.map wiV), .agg (wiV w)] [] (.c (.bool false)) [] := by
 have hx := ixW_ok l w hl hn
 obtain ⟨w1, w2⟩ := w
 dsimp only [wiV] at hx ⊢
 refine N.fnC Tryz.func112 k112 fun Q hQ hQN => ?_
 repeat' (first | refine T.call0 e194 rfl hx ?_ | exact ⟨⟩ | intro (K : KT) hK | intro hcd | (refine go1 ?_ ?_ <;> try clear hK K) | fail)
 all_goals first | exact WS.bool rfl (by decide) | exact WS.c rfl rfl
theorem mkcheck_ok (l : List Int) : FnE Tryz.prog 56 [.agg (boV (mkBrd l))] [] (I 0) [] := by
 obtain ⟨n, h1, h2, h3, h4, h5⟩ := mkBrd_wires l
 have hap := (mkBrd_places l).2
 refine bcheck_ok _ (mkBrd_v l) (fun w hw => ?_) (fun i hi => ?_)
 ·obtain ⟨j, g1, g2, c, g3, g4, g5⟩ := h4 w hw
  obtain ⟨q1, q2, q3, q4, q5, q6⟩ := src_v j (by omega)
  obtain ⟨hj, e⟩ := List.getElem?_eq_some_iff.1 g3
  have hs : w.src = chipN j ++ sIrq := by rw [g2]
  refine wire_ok (mkBrd l) w (chipN j) 6 (j + 1) ?_ ?_ ?_ ?_ ?_ ?_ ?_ hj ?_ ?_ ?_ ?_
  ·rw [hs]; exact q1
  ·rw [hs]; exact q2
  ·rw [hs]; exact q4
  ·rw [hs]; exact q3
  ·rw [hs]; exact q5
  ·rw [hs]; exact q6
  ·rw [g2]
  ·rw [e]; exact g4
  ·intro k hk hkl
   rw [← g4, ← e]
   exact (hap k (j + 1) hj hk).1.1
  ·omega
  ·rw [e]; exact g5
 ·refine ctW_ok _ _ (by rw [List.length_take]; omega) fun x hx => ?_
  obtain ⟨k, hk, rfl⟩ := List.getElem_of_mem hx
  rw [List.length_take] at hk
  rw [List.getElem_take]
  exact List.pairwise_iff_getElem.1 h5 k i (by omega) hi (by omega)
theorem machines_go (B : Brd) (ds : List Dv) (hlen : ds.length = B.chips.length) (hbd : FnE Tryz.prog 20 [.c (.slice none 0 0)] [] (.agg (boV B)) []) (hnew : FnE Tryz.prog 21 [.agg (boV B)] [] (.tup [.agg (maV 0 rstR 258 0 false ds 0 0 0), I 0]) []) (hs : FnE Tryz.prog 28 [.agg (maV 0 rstR 258 0 false ds 0 0 0), .agg (maV 0 rstR 258 0 false ds 0 0 0)] [] (.c (.bool true)) []) : FnE Tryz.prog 35 [] [] (.c (.bool true)) [] := by
 obtain ⟨bn, ⟨nm, ins, r1, r2, r3⟩, cs, ws⟩ := B
 dsimp only at hlen
 unfold boV cpC at hbd hnew
 dsimp only [List.cons_append, List.nil_append, maV] at hbd hnew hs
 generalize rstR = r at *
 have z1 : spl [V.c (.string ⟨#[]⟩), .c (.string ⟨#[]⟩), .c (.slice none 0 0), .c (.slice none 0 0), .c (.slice none 0 0), .c (.slice none 0 0), .c (.slice none 0 0), .c (.slice none 0 0)] 0 [V.c (.string bn), .c (.string nm), .sl 4 (ins.map inC), .sl 4 (r1.map cyC), .sl 4 (r2.map cyC), .sl 4 (r3.map cyC), .sl 5 (cs.map chV), .sl 2 (ws.map wiV)] = [V.c (.string bn), .c (.string nm), .sl 4 (ins.map inC), .sl 4 (r1.map cyC), .sl 4 (r2.map cyC), .sl 4 (r3.map cyC), .sl 5 (cs.map chV), .sl 2 (ws.map wiV)] := rfl
 have z2 : List.take 8 [V.c (.string bn), .c (.string nm), .sl 4 (ins.map inC), .sl 4 (r1.map cyC), .sl 4 (r2.map cyC), .sl 4 (r3.map cyC), .sl 5 (cs.map chV), .sl 2 (ws.map wiV)] = [V.c (.string bn), .c (.string nm), .sl 4 (ins.map inC), .sl 4 (r1.map cyC), .sl 4 (r2.map cyC), .sl 4 (r3.map cyC), .sl 5 (cs.map chV), .sl 2 (ws.map wiV)] := rfl
 have z3 : spl [I 0, I 0, I 0, I 0, I 0, I 0, I 0, I 0, I 0, I 0, I 0, I 0, .c (.bool false), .c (.slice none 0 0), I 0, I 0, I 0] 0 [I 0, I (r 0), I (r 1), I (r 2), I (r 3), I (r 4), I (r 5), I (r 6), I (r 7), I (r 8), I 258, I 0, .c (.bool false), .sl 2 (ds.map dvC), I 0, I 0, I 0] = [I 0, I (r 0), I (r 1), I (r 2), I (r 3), I (r 4), I (r 5), I (r 6), I (r 7), I (r 8), I 258, I 0, .c (.bool false), .sl 2 (ds.map dvC), I 0, I 0, I 0] := rfl
 have z4 : List.take 17 [I 0, I (r 0), I (r 1), I (r 2), I (r 3), I (r 4), I (r 5), I (r 6), I (r 7), I (r 8), I 258, I 0, .c (.bool false), .sl 2 (ds.map dvC), I 0, I 0, I 0] = [I 0, I (r 0), I (r 1), I (r 2), I (r 3), I (r 4), I (r 5), I (r 6), I (r 7), I (r 8), I 258, I 0, .c (.bool false), .sl 2 (ds.map dvC), I 0, I 0, I 0] := rfl
 refine N.fnC Tryz.func35 k35 fun Q hQ hQN => ?_
 repeat' (first | rw [z1] | rw [z2] | rw [z3] | rw [z4] | rw [List.length_map] | rw [hlen] | (show WC _ _ _ _ _ _ _ _ _; first | refine T.call0 e20 rfl hbd ?_ | refine T.call0 e21 rfl hnew ?_ | refine T.call0 e28 rfl hs ?_) | exact ⟨⟩ | intro (K : KT) hK | intro hcd | (refine go1 ?_ ?_ <;> try clear hK K) | fail)
 all_goals first | exact WS.c rfl rfl | (exfalso; omega) | trace_state
theorem DvOk.sml {c : Chp} {d : Dv} (h : DvOk c d) : SmlD d := h.small
theorem newDs_sml (l : List Int) : ∀ d ∈ (mkBrd l).chips.map newV, SmlD d := by
 intro d hd
 obtain ⟨c, hc, rfl⟩ := List.mem_map.1 hd
 exact (newV_ok c ((mkBrd_kinds l).1 c hc)).1.sml
theorem mkNew_ok (l : List Int) : FnE Tryz.prog 21 [.agg (boV (mkBrd l))] [] (.tup [.agg (maV 0 rstR 258 0 false ((mkBrd l).chips.map newV) 0 0 0), I 0]) [] := by
 obtain ⟨hv, hn2, hn6⟩ := mkBrd_kinds l
 exact machNew_ok _ hv (mkcheck_ok l) (by omega) (by omega)
theorem machines_ok : FnE Tryz.prog 35 [] [] (.c (.bool true)) [] := by
 obtain ⟨hv, hn2, hn6⟩ := mkBrd_kinds []
 exact machines_go (mkBrd []) _ (List.length_map ..) (FnE.arg0 (mkBrd_ok []) .nil) (mkNew_ok []) (msame_ok _ _ _ _ _ _ _ _ _ (newDs_sml []) (by rw [List.length_map]; omega))
end Go.Proofs.YtpfagchhmfigfaaGreat.Calc
