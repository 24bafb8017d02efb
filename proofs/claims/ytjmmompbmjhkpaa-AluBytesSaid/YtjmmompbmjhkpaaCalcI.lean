/- The calculus, part 18: code over abstract values ('AW'), and that it is sound: regions without open order, tests, blocks, loops, ways out. No condition beyond those in each lemma. -/
import Derived.Test.YtjmmompbmjhkpaaCalcN
namespace Go.Proofs.Ytjmmompbmjhkpaa.Calc
open Go
variable {X : Nat → Prop}

/-- Code over abstract values. -/
inductive AC where
  | skip
  | reg (ops : List AOper) (live : List Nat)
  | dreg (ops : List AOper) (bef : List (List Nat)) (live : List Nat)
  | seq (a b : AC)
  | cond (x : AO) (a b : AC)
  | block (id : Nat) (b : AC)
  | loop (b : AC)
  | exit (id : Nat)
  | ret
  deriving Inhabited

section
variable {P : Program} {w0 : World} {ι0 : List Place} {n : Nat}

theorem wops_sound {ops : Array Oper} {Q : Exit → Act → World → Prop} {K : Fr → List Blk → Prop} (hQ : ∀ fr h a w, K fr h → St X w0 ι0 n fr h a w → Q .normal a w) :
    ∀ (l : List Nat) (aops : List AOper), (l.mapM fun i => (ops[i]?).bind (compOne P ops n)) = some aops → ∀ (fr : Fr) (h : List Blk) (a : Act) (w : World), St X w0 ι0 n fr h a w → WOps P aops fr h K → wpOps P ops Q l a w := by
  intro l
  induction l with
  | nil =>
    intro aops hl fr h a w hS hW
    simp at hl; subst hl
    exact hQ _ _ _ _ hW hS
  | cons i l ih =>
    intro aops hl fr h a w hS hW
    simp only [List.mapM_cons] at hl
    obtain ⟨ao, h1, hl⟩ := bind_some hl
    obtain ⟨aos, h2, hl⟩ := bind_some hl
    cases hl
    obtain ⟨o, ho, h1⟩ := bind_some h1
    obtain ⟨hc, hd, hdn, hg⟩ := compOne_parts h1
    simp only [wpOps, ho]
    have run : WOp P ao.op fr h (fun x h' => WOps P aos (put fr ao.dst x) h' K) → o.wp P a w (wpOps P ops Q l) Q := fun hW =>
      wop_sound (hc (fun e => by rw [e] at hW; simp [WOp, stepA] at hW)) hS hdn hW (fun x h' a' w' hK hS' => ih aos h2 (put fr ao.dst x) h' a' w' (by rw [hd]; exact hS') hK)
    rcases hg with ⟨hg1, hg2⟩ | ⟨j, b, g, hg1, hg2, hg3⟩
    · simp only [WOps, hg2] at hW
      rw [if_pos (by simp [Region.wanted, hg1])]
      exact .inl (run hW)
    · simp only [WOps, hg3] at hW
      split at hW
      · rename_i b' hb'
        have hval := guard_val hS hb'
        have hy : yielded ops a.tmps j = some b' := by simp [yielded, hg2, hval]
        split at hW
        · rename_i he
          rw [if_pos (by simp [Region.wanted, hg1, hy, he])]
          exact .inl (run hW)
        · rename_i he
          rw [if_neg (by simp [Region.wanted, hg1, hy, he])]
          exact ih aos h2 (put fr ao.dst (.c undef)) h _ w (by rw [hd]; exact hS.skip o.dst undef hdn) hW
      · rename_i t hb'
        have hval := guard_any hS (want := b) hb' (by rintro b' ⟨⟩)
        have hnw : Region.wanted o (yielded ops a.tmps) = false := by
          simp only [Region.wanted, hg1, yielded, hg2, Option.bind_some]
          cases hz : a.tmps[g]? with
          | none => rfl
          | some z =>
            rw [hz] at hval
            cases z with
            | bool b' => simp at hval; cases b <;> cases b' <;> simp_all
            | _ => rfl
        rw [if_neg (by simp [hnw])]
        exact ih aos h2 (put fr ao.dst (.c undef)) h _ w (by rw [hd]; exact hS.skip o.dst undef hdn) hW
      · exact hW.elim

theorem lk_keep (l : List Nat) (fr : Fr) (i : Nat) : lk (keep l fr) i = .any ∨ lk (keep l fr) i = lk fr i := by
  induction l with
  | nil => exact .inl rfl
  | cons x l ih =>
    have e : keep (x :: l) fr = (x, lk fr x) :: keep l fr := rfl
    rw [e]
    simp only [lk]
    by_cases h : x = i
    · subst h; rw [if_pos rfl]; exact .inr rfl
    · rw [if_neg h]; exact ih

/-- A state said in less. -/
def Weak (k : Nat) (fr : Fr) (h : List Blk) (fr' : Fr) (h' : List Blk) : Prop :=
  (h' = h ∧ ∀ i, lk fr' i = .any ∨ lk fr' i = lk fr i) ∨
  ∃ (ids : List Nat) (m : Nat), ids.Nodup ∧ (∀ b ∈ ids, b < h.length) ∧ (∀ b, b < k → ids[b]? = some b) ∧ h' = outH h ids m ∧ ∀ i, lk fr' i = .any ∨ lk fr' i = out h ids m (lk fr i)

theorem St.weak {fr fr' : Fr} {h h' : List Blk} {a : Act} {w : World} (hS : St X w0 ι0 n fr h a w) (hW : Weak ι0.length fr h fr' h') : St X w0 ι0 n fr' h' a w := by
  obtain ⟨⟨ι, H, hFr, hRf, hSl⟩, hn, hdef⟩ := hS
  rcases hW with ⟨rfl, hlk⟩ | ⟨ids, m, hnd, hlt, hpre, rfl, hlk⟩
  · refine ⟨⟨ι, H, hFr, hRf, fun i => ?_⟩, hn, hdef⟩
    rcases hlk i with e | e <;> rw [e]
    · exact .any
    · exact hSl i
  · obtain ⟨ι', rfl, H', hrel, hown⟩ := reindex H ids hnd hlt m
    refine ⟨⟨_, H', ⟨hFr.size, hFr.same, fun r hr => hFr.own r (hown r hr), hFr.os, hFr.tape, hFr.output⟩, fun b p hp => ?_, fun i => ?_⟩, hn, hdef⟩
    · obtain ⟨p', h1, h2⟩ := hRf b p hp
      have hb := (List.getElem?_eq_some_iff.1 hp).1
      refine ⟨p', ?_, h2⟩
      rw [List.getElem?_map, hpre b hb, Option.map_some, List.getD_eq_getElem?_getD, h1]; rfl
    · rcases hlk i with e | e <;> rw [e]
      · exact .any
      · exact hrel _ _ (hSl i)

/-- Less is said of values. -/
inductive Sub : V → V → Prop
  | rfl {x} : Sub x x
  | any {x} : Sub x .any
  | nil {e} : Sub (.c (.slice none 0 0)) (.sl e [])
  | agg {as bs : List V} (hl : as.length = bs.length) (h : ∀ (i : Nat) (a b : V), as[i]? = some a → bs[i]? = some b → Sub a b) : Sub (.agg as) (.agg bs)
  | tup {as bs : List V} (hl : as.length = bs.length) (h : ∀ (i : Nat) (a b : V), as[i]? = some a → bs[i]? = some b → Sub a b) : Sub (.tup as) (.tup bs)
  | sl {e : Nat} {as bs : List (List V)} (hl : as.length = bs.length) (he : ∀ row ∈ bs, row.length = e) (hd : ∀ (i j : Nat) (b : V), cellOf bs i j = some b → ∃ a, cellOf as i j = some a)
      (h : ∀ (i j : Nat) (a b : V), cellOf as i j = some a → cellOf bs i j = some b → Sub a b) : Sub (.sl e as) (.sl e bs)

theorem Rel.sub {w : World} {own : Nat → Prop} {x y : V} (hs : Sub x y) : ∀ {κ : List Place} {v : Value}, Rel w own κ v x → Rel w own κ v y := by
  induction hs with
  | rfl => intro κ v h; exact h
  | any => intro κ v h; exact .any
  | nil => intro κ v h; rw [h.c_eq]; exact .slnil
  | agg hl h ih =>
    intro κ v hr
    cases hr with
    | agg h1 h2 h3 =>
      refine .agg (by omega) h2 fun i c b hc hb => ?_
      have hi := (List.getElem?_eq_some_iff.1 hb).1
      exact ih i _ b (List.getElem?_eq_getElem (by omega)) hb (h3 i c _ hc (List.getElem?_eq_getElem (by omega)))
  | tup hl h ih =>
    intro κ v hr
    cases hr with
    | tup h1 h3 =>
      refine .tup (by omega) fun i c b hc hb => ?_
      have hi := (List.getElem?_eq_some_iff.1 hb).1
      exact ih i _ b (List.getElem?_eq_getElem (by omega)) hb (h3 i c _ hc (List.getElem?_eq_getElem (by omega)))
  | sl hl he hd h ih =>
    intro κ v hr
    cases hr with
    | slnil =>
      rename_i e bs
      have : bs = [] := List.eq_nil_of_length_eq_zero (by simpa using hl.symm)
      subst this
      exact .slnil
    | sl cv hlen hcap hspot hesz hc hrr =>
      refine .sl cv (by omega) hcap hspot he (fun i j b hb => ?_) (fun i j b hb => ?_)
      · obtain ⟨a, ha⟩ := hd i j b hb
        exact hc i j a ha
      · obtain ⟨a, ha⟩ := hd i j b hb
        exact ih i j a b ha hb (hrr i j a ha)

/-- A state said in less, step by step; a nil slice can be said to lie in an empty block of one's own. -/
inductive Weaks (k : Nat) : Fr → List Blk → Fr → List Blk → Prop
  | refl {fr h} : Weaks k fr h fr h
  | step {fr h fr1 h1 fr2 h2} (hw : Weak k fr h fr1 h1) (hr : Weaks k fr1 h1 fr2 h2) : Weaks k fr h fr2 h2
  | sub {fr h fr1 fr2 h2} (hw : ∀ i, Sub (lk fr i) (lk fr1 i)) (hr : Weaks k fr1 h fr2 h2) : Weaks k fr h fr2 h2
  | virt {fr h fr1 fr2 h2} (e : Nat) (he : 0 < e) (hw : ∀ i, lk fr1 i = lk fr i ∨ (lk fr i = .c (.slice none 0 0) ∧ lk fr1 i = .psl h.length 1 0 0)) (hr : Weaks k fr1 (h ++ [⟨1, e, []⟩]) fr2 h2) : Weaks k fr h fr2 h2
theorem Weaks.of {k : Nat} {fr h fr1 h1} (hw : Weak k fr h fr1 h1) : Weaks k fr h fr1 h1 := .step hw .refl

theorem St.weaks {X : Nat → Prop} {w0 : World} {ι0 : List Place} {n : Nat} {fr fr' : Fr} {h h' : List Blk} (hW : Weaks ι0.length fr h fr' h') : ∀ {a : Act} {w : World}, St X w0 ι0 n fr h a w → St X w0 ι0 n fr' h' a w := by
  induction hW with
  | refl => intro a w hS; exact hS
  | step hw _ ih => intro a w hS; exact ih (hS.weak hw)
  | sub hw _ ih =>
    intro a w hS
    obtain ⟨⟨ι, H, hFr, hRf, hSl⟩, hn, hdef⟩ := hS
    exact ih ⟨⟨ι, H, hFr, hRf, fun i => (hSl i).sub (hw i)⟩, hn, hdef⟩
  | @virt fr h fr1 fr2 h2 e he hw _ ih =>
    intro a w hS
    obtain ⟨⟨ι, H, hFr, hRf, hSl⟩, hn, hdef⟩ := hS
    have hp := H.push (w' := w) ⟨0, 0, e, 0, 0, 1, false⟩ ⟨1, e, []⟩ (Nat.le_refl _) (fun _ _ => rfl) rfl rfl rfl (by simp) rfl rfl he rfl (Nat.le_refl _) (by simp) (by simp) (fun _ => rfl)
    refine ih ⟨⟨_, hp.1, hFr.trans hp.2.1, hRf.trans hp.2.2, fun i => ?_⟩, hn, hdef⟩
    have h0 := (hSl i).mono (hp.2.1.x X) hp.2.2
    rcases hw i with e1 | ⟨e1, e2⟩
    · rw [e1]; exact h0
    · rw [e2]
      rw [e1] at h0
      rw [h0.c_eq]
      refine .psl ⟨0, 0, e, 0, 0, 1, false⟩ (by rw [← H.len, List.getElem?_append_right (Nat.le_refl _)]; simp) (Nat.le_refl _) fun _ => ?_
      exact ⟨none, 0, rfl, Nat.le_refl _, Nat.le_refl _, Nat.le_refl _, .inl rfl⟩

def boolOf : V → Option Bool
  | .c (.bool b) => some b
  | _ => none

/-- Code does over abstract values what is wanted; k: how many blocks came in. -/
def AW (P : Program) (k : Nat) : AC → (Exit → Fr → List Blk → Prop) → Fr → List Blk → Prop
  | .skip, Q, fr, h => Q .normal fr h
  | .reg ops live, Q, fr, h => WOps P ops fr h fun fr' h' => Q .normal (keep live fr') h'
  | .dreg ops bef live, Q, fr, h => WOpsT P ops [] fr h fun tr fr' h' => okTr bef tr = true ∧ Q .normal (keep live fr') h'
  | .seq a b, Q, fr, h => AW P k a (fun e fr' h' => match e with
      | .normal => ∃ fr2 h2, Weaks k fr' h' fr2 h2 ∧ AW P k b Q fr2 h2
      | e => Q e fr' h') fr h
  | .cond x a b, Q, fr, h => match boolOf (x.ev (lk fr)) with
      | some t => if t = true then AW P k a Q fr h else AW P k b Q fr h
      | none => x.ev (lk fr) = .bit ∧ AW P k a Q fr h ∧ AW P k b Q fr h
  | .block id b, Q, fr, h => AW P k b (fun e fr' h' => match e with
      | .exit i => if i = id then Q .normal fr' h' else Q (.exit i) fr' h'
      | e => Q e fr' h') fr h
  | .loop b, Q, fr, h => ∃ (I : Fr → List Blk → Prop) (μ : Fr → List Blk → Nat), (∃ fr' h', Weaks k fr h fr' h' ∧ I fr' h') ∧
      ∀ fr h, I fr h → AW P k b (fun e fr' h' => match e with
        | .normal => ∃ fr'' h'', Weaks k fr' h' fr'' h'' ∧ I fr'' h'' ∧ μ fr'' h'' < μ fr h
        | e => Q e fr' h') fr h
  | .exit id, Q, fr, h => Q (.exit id) fr h
  | .ret, Q, fr, h => Q .ret fr h

/-- Which slots are kept behind a region. -/
def lkv : List (Nat × List Nat) → Nat → List Nat
  | [], _ => []
  | (i, l) :: r, j => if i = j then l else lkv r j
def compC (P : Program) (n : Nat) (vars : List (Nat × List Nat)) : Code → Option AC
  | .skip => some .skip
  | .region id ops draw => if draw then
      (if P.follows .mixedOrders = true then do
        let l ← compR P n ops
        let B ← befGo ops.toList []
        if slotsOk B l = true then some (.dreg l B (lkv vars id)) else none
      else none) else (compR P n ops).map fun l => .reg l (lkv vars id)
  | .seq a b => do pure (.seq (← compC P n vars a) (← compC P n vars b))
  | .cond c a b => do pure (.cond (← compO c) (← compC P n vars a) (← compC P n vars b))
  | .block id b => (compC P n vars b).map (.block id)
  | .loop b => (compC P n vars b).map .loop
  | .exit id => some (.exit id)
  | .ret => some .ret
  | _ => none

def Lift (X : Nat → Prop) (w0 : World) (ι0 : List Place) (n : Nat) (Q : Exit → Fr → List Blk → Prop) : Exit → Act → World → Prop
  | .normal, a, w => ∃ fr h, St X w0 ι0 n fr h a w ∧ Q .normal fr h
  | .exit i, a, w => ∃ fr h, St X w0 ι0 n fr h a w ∧ Q (.exit i) fr h
  | .ret, a, w => ∃ fr h, St X w0 ι0 n fr h a w ∧ Q .ret fr h
  | _, _, _ => False

theorem aw_sound {vars : List (Nat × List Nat)} : ∀ (c : Code) (ac : AC), compC P n vars c = some ac → ∀ (Q : Exit → Fr → List Blk → Prop) (fr : Fr) (h : List Blk) (a : Act) (w : World),
    St X w0 ι0 n fr h a w → AW P ι0.length ac Q fr h → c.wp P (Lift X w0 ι0 n Q) a w := by
  intro c
  induction c with
  | skip => intro ac hc Q fr h a w hS hA; cases hc; exact wp_skip ⟨fr, h, hS, hA⟩
  | exit id => intro ac hc Q fr h a w hS hA; cases hc; exact wp_exit ⟨fr, h, hS, hA⟩
  | ret => intro ac hc Q fr h a w hS hA; cases hc; exact wp_ret ⟨fr, h, hS, hA⟩
  | region id ops draw =>
    intro ac hc Q fr h a w hS hA
    simp only [compC] at hc
    split at hc
    · rename_i hd
      subst hd
      split at hc
      · rename_i hmx
        obtain ⟨l, h1, hc⟩ := bind_some hc
        obtain ⟨B, h2, hc⟩ := bind_some hc
        split at hc
        · rename_i hsl
          cases hc
          refine wp_region_any hmx (dreg_sound (K := fun fr' h' => Q .normal (keep (lkv vars id) fr') h') h1 h2 hsl (fun fr h a w hK hS => ⟨keep (lkv vars id) fr, h, hS.weak (.inl ⟨rfl, fun i => lk_keep (lkv vars id) fr i⟩), hK⟩) ?_ hA)
          obtain ⟨⟨ι, H, hFr, hRf, hSl⟩, hn, hdef⟩ := hS
          have hF : Frm w (Own ι) { w with drawn := w.drawn + 1 } (Own ι) := ⟨Nat.le_refl _, fun _ _ _ => rfl, fun r hr => .inl hr, rfl, rfl, rfl⟩
          exact ⟨⟨ι, H.grown hF (fun _ _ => rfl), hFr.trans hF, hRf, hSl.mono hF (Refs.refl _)⟩, hn, hdef⟩
        · cases hc
      · cases hc
    · rename_i hd
      have hd : draw = false := by simpa using hd
      subst hd
      obtain ⟨l, h1, rfl⟩ := Option.map_eq_some_iff.1 hc
      refine wp_region (wops_sound (K := fun fr' h' => Q .normal (keep (lkv vars id) fr') h') (fun fr h a w hK hS => ⟨keep (lkv vars id) fr, h, hS.weak (.inl ⟨rfl, fun i => lk_keep (lkv vars id) fr i⟩), hK⟩) _ l h1 fr h a w hS hA)
  | seq x y ihx ihy =>
    intro ac hc Q fr h a w hS hA
    simp only [compC] at hc
    obtain ⟨ax, h1, hc⟩ := bind_some hc
    obtain ⟨ay, h2, hc⟩ := bind_some hc
    cases hc
    refine wp_seq (wp_mono (ihx ax h1 _ fr h a w hS hA) fun e a' w' hL => ?_)
    cases e <;> simp only [Lift, Exit.then] at hL ⊢
    · obtain ⟨fr', h', hS', fr2, h2', hW, hA'⟩ := hL
      exact ihy ay h2 Q fr2 h2' a' w' (hS'.weaks hW) hA'
    · exact hL
    · exact hL
  | cond x y z ihy ihz =>
    intro ac hc Q fr h a w hS hA
    simp only [compC] at hc
    obtain ⟨x', h0, hc⟩ := bind_some hc
    obtain ⟨ay, h1, hc⟩ := bind_some hc
    obtain ⟨az, h2, hc⟩ := bind_some hc
    cases hc
    simp only [AW] at hA
    split at hA
    · rename_i t ht
      have hv : a.eval x = .bool t := by
        obtain ⟨⟨ι, H, hFr, hRf, hSl⟩, _⟩ := hS
        have := AO.ev_rel hSl h0
        unfold boolOf at ht
        split at ht
        · rename_i b e; rw [e] at this; cases ht; exact this.c_eq
        · cases ht
      cases t
      · exact wp_cond_false hv (ihz az h2 Q fr h a w hS (by simpa using hA))
      · exact wp_cond_true hv (ihy ay h1 Q fr h a w hS (by simpa using hA))
    · obtain ⟨hb, hA1, hA2⟩ := hA
      have hv : ∃ t, a.eval x = .bool t := by
        obtain ⟨⟨ι, H, hFr, hRf, hSl⟩, _⟩ := hS
        have := AO.ev_rel hSl h0
        rw [hb] at this
        generalize a.eval x = v at this
        cases this with
        | bit => exact ⟨_, rfl⟩
      obtain ⟨t, hv⟩ := hv
      cases t
      · exact wp_cond_false hv (ihz az h2 Q fr h a w hS hA2)
      · exact wp_cond_true hv (ihy ay h1 Q fr h a w hS hA1)
  | block id b ih =>
    intro ac hc Q fr h a w hS hA
    simp only [compC] at hc
    obtain ⟨ab, h1, rfl⟩ := Option.map_eq_some_iff.1 hc
    refine wp_block (wp_mono (ih ab h1 _ fr h a w hS hA) fun e a' w' hL => ?_)
    cases e <;> simp only [Lift, Exit.inBlock] at hL ⊢
    · exact hL
    · obtain ⟨fr', h', hS', hA'⟩ := hL
      split at hA'
      · rename_i hid; rw [if_pos hid]; exact ⟨fr', h', hS', hA'⟩
      · rename_i hid; rw [if_neg hid]; exact ⟨fr', h', hS', hA'⟩
    · exact hL
  | loop b ih =>
    intro ac hc Q fr h a w hS hA
    simp only [compC] at hc
    obtain ⟨ab, h1, rfl⟩ := Option.map_eq_some_iff.1 hc
    obtain ⟨I, μ, ⟨fr1, h1', hWk, hI⟩, hround⟩ := hA
    intro bf k cs
    have key : ∀ m (fr : Fr) (h : List Blk) a w, μ fr h = m → St X w0 ι0 n fr h a w → I fr h →
        ∃ e a' w', Lift X w0 ι0 n Q e a' w' ∧ Arrives P (lone (bf.at a (.code b :: .inLoop b :: k)) cs w) bf k cs e a' w' := by
      intro m
      induction m using Nat.strongRecOn with
      | _ m ihm =>
        intro fr h a w hm hS hI
        obtain ⟨e, a1, w1, hq, harr⟩ := ih ab h1 _ fr h a w hS (hround fr h hI) bf (.inLoop b :: k) cs
        cases e <;> simp only [Lift] at hq
        · obtain ⟨fr', h', hS', fr'', h'', hW', hI', hlt⟩ := hq
          obtain ⟨e2, a2, w2, hq2, harr2⟩ := ihm (μ fr'' h'') (hm ▸ hlt) fr'' h'' a1 w1 rfl (hS'.weaks hW') hI'
          exact ⟨e2, a2, w2, hq2, .of_steps (Steps.trans harr (.one step_inLoop)) harr2⟩
        · exact ⟨.exit _, a1, w1, hq, .pass (x := .inLoop b) rfl (fun _ _ => .inl (by simp)) harr⟩
        · exact ⟨.ret, a1, w1, hq, .pass (x := .inLoop b) rfl (fun _ _ => .inl (by simp)) harr⟩
    obtain ⟨e, a', w', hq, harr⟩ := key _ fr1 h1' a w rfl (hS.weaks hWk) hI
    exact ⟨e, a', w', hq, .of_steps (.one step_loop) harr⟩
  | rangeFunc => intro ac hc; cases hc
  | scope => intro ac hc; cases hc
  | label => intro ac hc; cases hc
  | goto => intro ac hc; cases hc
  | refuse => intro ac hc; cases hc
end
end Go.Proofs.Ytjmmompbmjhkpaa.Calc
