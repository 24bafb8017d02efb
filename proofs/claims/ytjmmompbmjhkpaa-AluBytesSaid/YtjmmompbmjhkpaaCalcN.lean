/- The calculus, part 23: a region whose order is open. No condition beyond those in each lemma. -/
import Derived.Test.YtjmmompbmjhkpaaCalcM
namespace Go.Proofs.Ytjmmompbmjhkpaa.Calc
open Go
variable {X : Nat → Prop}

theorem mapM_get {α β : Type} {f : α → Option β} : ∀ (l : List α) (r : List β), l.mapM f = some r → r.length = l.length ∧ ∀ (i : Nat) (x : α), l[i]? = some x → ∃ y, f x = some y ∧ r[i]? = some y := by
  intro l
  induction l with
  | nil => intro r h; simp at h; subst h; simp
  | cons a l ih =>
    intro r h
    simp only [List.mapM_cons] at h
    obtain ⟨y, h1, h⟩ := bind_some h
    obtain ⟨ys, h2, h⟩ := bind_some h
    cases h
    obtain ⟨g1, g2⟩ := ih ys h2
    refine ⟨by simp [g1], fun i x hi => ?_⟩
    cases i with
    | zero => simp at hi; subst hi; exact ⟨y, h1, rfl⟩
    | succ i => obtain ⟨z, e1, e2⟩ := g2 i x (by simpa using hi); exact ⟨z, e1, by simpa using e2⟩

/-- How many are to come. -/
def todo (listed : Array Bool) (N : Nat) : Nat := ((List.range N).filter fun k => !listed.getD k true).length

theorem todo_set {listed : Array Bool} {N i : Nat} (hi : i < N) (hs : listed.size = N) (hf : listed.getD i true = false) : todo (listed.setIfInBounds i true) N + 1 = todo listed N := by
  have e : ((List.range N).filter fun k => !(listed.setIfInBounds i true).getD k true) = ((List.range N).filter fun k => !listed.getD k true).erase i := by
    rw [List.Nodup.erase_eq_filter (List.nodup_range.filter _), List.filter_filter]
    apply List.filter_congr
    intro k hk
    by_cases h : i = k
    · subst h
      have : (listed.setIfInBounds i true).getD i true = true := by simp [hs, hi]
      rw [this]; simp
    · rw [getD_set_ne true h]
      have : (k != i) = true := by simpa using Ne.symm h
      simp [this]
  unfold todo
  have hm : i ∈ (List.range N).filter fun k => !listed.getD k true := by
    rw [List.mem_filter, List.mem_range]; exact ⟨hi, by rw [hf]; rfl⟩
  rw [e, List.length_erase_of_mem hm]
  have := List.length_pos_of_mem hm
  omega
theorem todo_zero {listed : Array Bool} {N k : Nat} (h : todo listed N = 0) (hk : k < N) (hs : listed.size = N) : listed.getD k false = true := by
  have h0 : ((List.range N).filter fun k => !listed.getD k true) = [] := List.length_eq_zero_iff.1 h
  have := List.filter_eq_nil_iff.1 h0 k (List.mem_range.2 hk)
  have hlt : k < listed.size := by omega
  simp [hlt] at this ⊢
  exact this
theorem listed_flip {listed : Array Bool} {k : Nat} (h : listed.getD k true = false) : ¬ listed.getD k false = true := by
  intro h'
  by_cases hk : k < listed.size
  · simp [hk] at h h'; rw [h] at h'; cases h'
  · simp [Array.getElem?_eq_none (Nat.le_of_not_lt hk)] at h'

section
variable {P : Program} {w0 : World} {ι0 : List Place} {n : Nat}

theorem dreg_sound {ops : Array Oper} {aops : List AOper} {B : List (List Nat)} {K : Fr → List Blk → Prop} {Q : Exit → Act → World → Prop} {fr : Fr} {h : List Blk} {a : Act} {w : World}
    (hm : compR P n ops = some aops) (hb : befGo ops.toList [] = some B) (hsl : slotsOk B aops = true) (hQ : ∀ fr h a w, K fr h → St X w0 ι0 n fr h a w → Q .normal a w)
    (hS : St X w0 ι0 n fr h a w) (hW : WOpsT P aops [] fr h fun tr fr' h' => okTr B tr = true ∧ K fr' h') : wpAny P .any ops Q ops.size (Array.replicate ops.size false) a w := by
  obtain ⟨frs, hs, RW, e1, e2, hstep, hok, hK⟩ := hW.unroll
  rw [List.nil_append] at hok
  have hmg := mapM_get _ _ hm
  have hN : aops.length = ops.size := by rw [hmg.1, List.length_range]
  have hao : ∀ (i : Nat) (o : Oper), ops[i]? = some o → ∃ ao, compOne P ops n o = some ao ∧ aops[i]? = some ao := by
    intro i o ho
    have hi := (Array.getElem?_eq_some_iff.1 ho).1
    obtain ⟨y, h1, h2⟩ := hmg.2 i i (List.getElem?_range hi)
    rw [ho] at h1
    exact ⟨y, h1, h2⟩
  have hB : BefOk ops.toList B := by simpa using befGo_ok _ [] [] B ⟨rfl, by simp, by simp⟩ hb
  have hto : ∀ {i : Nat} {o : Oper}, ops[i]? = some o → ops.toList[i]? = some o := fun h => by simpa using h
  have hcs := slotsOk_spec hsl
  have hcb := okTr_spec hok
  have hlenstep : ∀ j, j < aops.length → (hs j).length ≤ (hs (j + 1)).length ∧ (∀ b, b ∈ (RW j).1 ∨ b ∈ (RW j).2 → b < (hs (j + 1)).length) ∧ (∀ b, b ∉ (RW j).2 → ((hs (j + 1))[b]?).getD dum = ((hs j)[b]?).getD dum) ∧
      ∀ i, (¬ ∃ ao, aops[j]? = some ao ∧ ao.dst = some i) → lk (frs (j + 1)) i = lk (frs j) i := by
    intro j hj
    have hst := hstep j _ (List.getElem?_eq_getElem hj)
    have hput : ∀ (x : V) (i : Nat), (¬ ∃ ao, aops[j]? = some ao ∧ ao.dst = some i) → lk (put (frs j) aops[j].dst x) i = lk (frs j) i := by
      intro x i hi
      cases hd : aops[j].dst with
      | none => rfl
      | some d =>
        simp only [put, lk]
        rw [if_neg (fun e => hi ⟨_, List.getElem?_eq_getElem hj, by rw [hd, e]⟩)]
    generalize hf : frs (j + 1) = f1 at hst ⊢
    generalize hh : hs (j + 1) = h1 at hst ⊢
    generalize hr : (RW j).1 = R at hst ⊢
    generalize hw : (RW j).2 = W at hst ⊢
    cases hst with
    | pass hg hb hne => exact ⟨Nat.le_refl _, by simp, fun _ _ => rfl, hput _⟩
    | run hg hE => exact ⟨hE.facts.1, hE.facts.2.1, hE.facts.2.2, hput _⟩
  have hmono : ∀ d j, j + d ≤ aops.length → (hs j).length ≤ (hs (j + d)).length := by
    intro d
    induction d with
    | zero => intro j _; exact Nat.le_refl _
    | succ d ih => intro j hj; exact Nat.le_trans (ih j (by omega)) (hlenstep (j + d) (by omega)).1
  have hL : ∀ j, j ≤ aops.length → (hs j).length ≤ (hs aops.length).length := fun j hj => by
    have := hmono (aops.length - j) j (by omega)
    rw [show j + (aops.length - j) = aops.length by omega] at this
    exact this
  let wrS : Nat → Nat → Prop := fun j i => ∃ ao, aops[j]? = some ao ∧ ao.dst = some i
  let wrB : Nat → Nat → Prop := fun j b => b ∈ (RW j).2
  let txS : Nat → Nat → V := fun j i => lk (frs j) i
  let txB : Nat → Nat → Blk := fun j b => ((hs j)[b]?).getD dum
  have main : ∀ (fuel : Nat) (listed : Array Bool) (frc : Fr) (hc : List Blk) (a : Act) (w : World), listed.size = ops.size →
      (∀ (j : Nat) (o : Oper), ops[j]? = some o → listed.getD j false = true → ∀ d ∈ dirs o, listed.getD d false = true) →
      OInv txS wrS aops.length (fun k => listed.getD k false = true) (lk frc) → hc.length = (hs aops.length).length →
      OInv txB wrB aops.length (fun k => listed.getD k false = true) (fun b => (hc[b]?).getD dum) →
      St X w0 ι0 n frc hc a w → todo listed ops.size ≤ fuel → wpAny P .any ops Q fuel listed a w := by
    intro fuel
    induction fuel with
    | zero =>
      intro listed frc hc a w hsz hcl hIS hlen hIB hS hfu
      have hall : ∀ k, k < ops.size → listed.getD k false = true := fun k hk => todo_zero (by omega) hk hsz
      refine ⟨?_, ?_⟩
      · rw [List.eq_nil_iff_forall_not_mem]
        intro j hj
        obtain ⟨h1, o, ho, _⟩ := mem_ready.1 hj
        exact listed_flip h1 (hall j (Array.getElem?_eq_some_iff.1 ho).1)
      · have e1 : ∀ i, lk frc i = lk (frs aops.length) i := fun i => hIS i _ (Nat.le_refl _) fun k hk _ => ⟨fun _ => hall k (by omega), fun _ => hk⟩
        have e2 : hc = hs aops.length := by
          apply List.ext_getElem? 
          intro b
          have := hIB b _ (Nat.le_refl _) fun k hk _ => ⟨fun _ => hall k (by omega), fun _ => hk⟩
          by_cases hb : b < hc.length
          · have hb' : b < (hs aops.length).length := by omega
            simp only [txB, List.getElem?_eq_getElem hb, List.getElem?_eq_getElem hb', Option.getD_some] at this ⊢
            rw [this]
          · rw [List.getElem?_eq_none (by omega), List.getElem?_eq_none (by omega)]
        subst e2
        refine hQ _ _ _ _ hK ?_
        obtain ⟨⟨ι, H, hFr, hRf, hSl⟩, hn, hdef⟩ := hS
        exact ⟨⟨ι, H, hFr, hRf, fun i => by rw [← e1]; exact hSl i⟩, hn, hdef⟩
    | succ fuel ih =>
      intro listed frc hc a w hsz hcl hIS hlen hIB hS hfu
      have hclB : ∀ j k, listed.getD j false = true → k ∈ B.getD j [] → listed.getD k false = true := by
        intro j k hj hk
        have hjl : j < listed.size := by
          rcases Nat.lt_or_ge j listed.size with h' | h'
          · exact h'
          · simp [Array.getElem?_eq_none h'] at hj
        have ho := Array.getElem?_eq_getElem (xs := ops) (show j < ops.size by omega)
        exact hB.closed (S := fun k => listed.getD k false = true) (fun j o ho hj => hcl j o (by simpa using ho) hj) j _ (hto ho) (hcl j _ ho hj) k hk
      refine ⟨fun hr => ?_, fun i hi => ?_⟩
      · -- nothing is ready: all has run
        have hall : ∀ k, k < ops.size → listed.getD k false = true := by
          intro k
          induction k using Nat.strongRecOn with
          | _ k ihk =>
            intro hk
            cases hlk : listed.getD k false with
            | true => rfl
            | false =>
              exfalso
              have ho := Array.getElem?_eq_getElem (xs := ops) hk
              have : k ∈ Region.ready .any ops listed := by
                refine mem_ready.2 ⟨?_, _, ho, fun e he hbd => ?_⟩
                · have hlt : k < listed.size := by omega
                  simp [hlt] at hlk ⊢; exact hlk
                · have hd : e.on ∈ dirs ops[k] := List.mem_map.2 ⟨e, List.mem_filter.2 ⟨by simpa using he, hbd⟩, rfl⟩
                  have := hB.low k _ (hto ho) _ hd
                  exact ihk _ this (by omega)
              rw [hr] at this; cases this
        have e1 : ∀ i, lk frc i = lk (frs aops.length) i := fun i => hIS i _ (Nat.le_refl _) fun k hk _ => ⟨fun _ => hall k (by omega), fun _ => hk⟩
        have e2 : hc = hs aops.length := by
          apply List.ext_getElem? 
          intro b
          have := hIB b _ (Nat.le_refl _) fun k hk _ => ⟨fun _ => hall k (by omega), fun _ => hk⟩
          by_cases hb : b < hc.length
          · have hb' : b < (hs aops.length).length := by omega
            simp only [txB, List.getElem?_eq_getElem hb, List.getElem?_eq_getElem hb', Option.getD_some] at this ⊢
            rw [this]
          · rw [List.getElem?_eq_none (by omega), List.getElem?_eq_none (by omega)]
        subst e2
        refine hQ _ _ _ _ hK ?_
        obtain ⟨⟨ι, H, hFr, hRf, hSl⟩, hn, hdef⟩ := hS
        exact ⟨⟨ι, H, hFr, hRf, fun i => by rw [← e1]; exact hSl i⟩, hn, hdef⟩
      · obtain ⟨hun, o, ho, hpre⟩ := mem_ready.1 hi
        have hiN : i < ops.size := (Array.getElem?_eq_some_iff.1 ho).1
        obtain ⟨ao, hco, hai⟩ := hao i o ho
        obtain ⟨hc1, hd1, hdn, hg1⟩ := compOne_parts hco
        have hni : ¬ listed.getD i false = true := listed_flip hun
        have hdir : ∀ d ∈ dirs o, listed.getD d false = true := by
          intro d hd
          obtain ⟨e, he, rfl⟩ := List.mem_map.1 hd
          obtain ⟨he1, he2⟩ := List.mem_filter.1 he
          exact hpre e (by simpa using he1) he2
        have hpreB : ∀ k, k ∈ B.getD i [] → listed.getD k false = true := fun k hk =>
          hB.closed (S := fun k => listed.getD k false = true) (fun j o ho hj => hcl j o (by simpa using ho) hj) i o (hto ho) hdir k hk
        have hiA : i < aops.length := by omega
        have atS : ∀ r, r ∈ readsOf ao → lk frc r = lk (frs i) r := fun r hr => hIS.at hcs hclB hiA hni hpreB (.inr ⟨ao, hai, hr⟩)
        have atB : ∀ b, b ∈ (RW i).1 ∨ b ∈ (RW i).2 → hc[b]? = some (((hs i)[b]?).getD dum) := by
          intro b hb'
          have h1 : (hc[b]?).getD dum = ((hs i)[b]?).getD dum := hIB.at hcb hclB hiA hni hpreB (by rcases hb' with hb' | hb'; exact .inr hb'; exact .inl hb')
          have h2 : b < hc.length := by
            have := (hlenstep i hiA).2.1 b hb'
            have := hL (i + 1) (by omega)
            omega
          rw [← h1, List.getElem?_eq_getElem h2]; rfl
        -- what follows
        have after : ∀ (x : V) (hc' : List Blk) (a' : Act) (w' : World), frs (i + 1) = put (frs i) ao.dst x → hc'.length = hc.length → (∀ b ∈ (RW i).2, hc'[b]? = (hs (i + 1))[b]?) → (∀ b, b ∉ (RW i).2 → hc'[b]? = hc[b]?) →
            St X w0 ι0 n (put frc ao.dst x) hc' a' w' → wpAny P .any ops Q fuel (listed.setIfInBounds i true) a' w' := by
          intro x hc' a' w' hfr hl' hin hout hS'
          have hset : ∀ k, (listed.setIfInBounds i true).getD k false = true ↔ (listed.getD k false = true ∨ k = i) := by
            intro k
            by_cases hk : i = k
            · subst hk
              have : (listed.setIfInBounds i true).getD i false = true := by
                have : i < listed.size := by omega
                simp [this]
              simp [this]
            · rw [getD_set_ne false hk]
              constructor
              · exact .inl
              · rintro (h | h)
                · exact h
                · exact absurd h.symm hk
          refine ih _ (put frc ao.dst x) hc' a' w' (by simpa using hsz) ?_ ?_ (by omega) ?_ hS' ?_
          · intro j oj hoj hj d hd
            rw [hset] at hj
            rw [hset]
            rcases hj with hj | rfl
            · exact .inl (hcl j oj hoj hj d hd)
            · rw [ho] at hoj; cases hoj; exact .inl (hdir d hd)
          · have := hIS.step (st' := lk (put frc ao.dst x)) hcs (fun j r hj hw => (hlenstep j hj).2.2.2 r hw) hclB hiA hni (fun r => ⟨fun hw => ?_, fun hw => ?_⟩)
            · intro r j hj hw
              exact this r j hj fun k hk hwk => (hw k hk hwk).trans (hset k)
            · obtain ⟨ao', h1, h2⟩ := hw
              rw [hai] at h1; cases h1
              simp only [txS, hfr, h2, put, lk, if_true]
            · cases hd : ao.dst with
              | none => rfl
              | some d =>
                simp only [put, lk]
                rw [if_neg (fun e => hw ⟨ao, hai, by rw [hd, e]⟩)]
          · have := hIB.step (st' := fun b => (hc'[b]?).getD dum) hcb (fun j r hj hw => (hlenstep j hj).2.2.1 r hw) hclB hiA hni (fun r => ⟨fun hw => ?_, fun hw => ?_⟩)
            · intro r j hj hw
              exact this r j hj fun k hk hwk => (hw k hk hwk).trans (hset k)
            · simp only [txB]; rw [hin r hw]
            · rw [hout r hw]
          · have := todo_set hiN hsz hun
            omega
        have hst := hstep i ao hai
        unfold wpOp
        rw [ho]
        dsimp only
        generalize hf : frs (i + 1) = f1 at hst after
        generalize hh : hs (i + 1) = h1 at hst after
        generalize hr : (RW i).1 = R at hst after atB
        generalize hw : (RW i).2 = W at hst after atB
        cases hst with
        | @pass g want v hg hb hne =>
          have hbc : lk frc g = .c v := by rw [atS g (by simp [readsOf, hg])]; exact hb
          have hval := guard_any hS hbc hne
          have hnw : Region.wanted o (yielded ops a.tmps) = false := by
            rcases hg1 with ⟨_, hg2⟩ | ⟨j, b', g', hg2, hg3, hg4⟩
            · rw [hg] at hg2; cases hg2
            · rw [hg] at hg4; cases hg4
              simp only [Region.wanted, hg2, yielded, hg3, Option.bind_some]
              cases hz : a.tmps[g]? with
              | none => rfl
              | some z =>
                rw [hz] at hval
                cases z with
                | bool b => simp at hval; cases b <;> cases want <;> simp_all
                | _ => rfl
          rw [hnw]
          simp only [Bool.false_eq_true, if_false]
          exact after (.c undef) hc _ _ rfl rfl (by simp) (fun _ _ => rfl) (by rw [hd1]; exact hS.skip o.dst undef hdn)
        | @run x h' R W hg hE =>
          have hwn : Region.wanted o (yielded ops a.tmps) = true := by
            rcases hg1 with ⟨hg2, hg3⟩ | ⟨j, b', g', hg2, hg3, hg4⟩
            · simp [Region.wanted, hg2]
            · rcases hg with hg | ⟨g, want, hg, hb⟩
              · rw [hg] at hg4; cases hg4
              · rw [hg] at hg4; cases hg4
                have hval := guard_val hS ((atS _ (by simp [readsOf, hg])).trans hb)
                simp [Region.wanted, hg2, yielded, hg3, hval]
          rw [hwn]
          simp only [if_true]
          refine .inl (op_atS (hc1 hE.ne_bad) hS hdn hE (fun r hr => atS r (by simp [readsOf, hr])) atB fun H' a' w' h1 h2 h3 h4 => ?_)
          rw [← hd1] at h4
          exact after x H' a' w' rfl h1 h2 h3 h4
  -- the start
  obtain ⟨⟨ι, H, hFr, hRf, hSl⟩, hn, hdef⟩ := hS
  have h0 : (hs 0).length ≤ (hs aops.length).length := hL 0 (Nat.zero_le _)
  obtain ⟨ι1, H1, hR1, hO1⟩ := H.dums ((hs aops.length).length - (hs 0).length)
  have hF1 : Frm w (Own ι) w (Own ι1) := ⟨Nat.le_refl _, fun _ _ _ => rfl, fun r hr => .inl (hO1 r hr), rfl, rfl, rfl⟩
  have hnone : ∀ k, ¬ (Array.replicate ops.size false).getD k false = true := by
    intro k hk
    rw [Array.getD_eq_getD_getElem?, Array.getElem?_replicate] at hk
    split at hk <;> simp at hk
  refine main _ _ fr (h ++ List.replicate ((hs aops.length).length - (hs 0).length) dum) a w (by simp) (fun j o _ hj => absurd hj (hnone j)) ?_ ?_ ?_ ⟨⟨ι1, H1, hFr.trans hF1, hRf.trans hR1, hSl.mono hF1 hR1⟩, hn, hdef⟩ ?_
  · intro r j hj hw
    have key : ∀ j, j ≤ aops.length → (∀ k, k < aops.length → wrS k r → (k < j ↔ (Array.replicate ops.size false).getD k false = true)) → lk fr r = lk (frs j) r := by
      intro j
      induction j with
      | zero => intro _ _; rw [e1]
      | succ j ihj =>
        intro hj hw
        rw [(hlenstep j (by omega)).2.2.2 r (fun hwr => hnone j ((hw j (by omega) hwr).1 (by omega)))]
        refine ihj (by omega) fun k hk hwk => ⟨fun hlt => (hw k hk hwk).1 (by omega), fun hh => absurd hh (hnone k)⟩
    exact key j hj hw
  · rw [List.length_append, List.length_replicate, ← e2]; omega
  · intro r j hj hw
    have key : ∀ j, j ≤ aops.length → (∀ k, k < aops.length → wrB k r → (k < j ↔ (Array.replicate ops.size false).getD k false = true)) → ((h ++ List.replicate ((hs aops.length).length - (hs 0).length) dum)[r]?).getD dum = ((hs j)[r]?).getD dum := by
      intro j
      induction j with
      | zero =>
        intro _ _
        rw [e2]
        by_cases hr : r < h.length
        · rw [List.getElem?_append_left hr]
        · rw [List.getElem?_append_right (by omega), List.getElem?_eq_none (l := h) (by omega), List.getElem?_replicate]
          split <;> rfl
      | succ j ihj =>
        intro hj hw
        rw [(hlenstep j (by omega)).2.2.1 r (fun hwr => hnone j ((hw j (by omega) hwr).1 (by omega)))]
        refine ihj (by omega) fun k hk hwk => ⟨fun hlt => (hw k hk hwk).1 (by omega), fun hh => absurd hh (hnone k)⟩
    exact key j hj hw
  · unfold todo
    exact Nat.le_trans (List.length_filter_le _ _) (by simp)
end
end Go.Proofs.Ytjmmompbmjhkpaa.Calc
