/- The calculus, part 25: code with what comes behind it as a list, so that a proof goes through a function's code without names for its parts. No condition beyond those in each lemma. -/
import Derived.Test.YtjmmompbmjhkpaaCalcP
namespace Go.Proofs.Ytjmmompbmjhkpaa.Calc
open Go
set_option linter.unusedSimpArgs false

theorem WOps.mono {P : Program} {K K' : Fr → List Blk → Prop} (hK : ∀ fr h, K fr h → K' fr h) : ∀ (ops : List AOper) (fr : Fr) (h : List Blk), WOps P ops fr h K → WOps P ops fr h K' := by
  intro ops
  induction ops with
  | nil => intro fr h hW; exact hK _ _ hW
  | cons o rest ih =>
    intro fr h hW
    have one : WOp P o.op fr h (fun x h' => WOps P rest (put fr o.dst x) h' K) → WOp P o.op fr h (fun x h' => WOps P rest (put fr o.dst x) h' K') := by
      intro hW
      cases hop : o.op <;> rw [hop] at hW
      case call f args =>
        obtain ⟨perm, m, r, hout, h1, h2, h3, h4, h5, h6, h7⟩ := hW
        exact ⟨perm, m, r, hout, h1, h2, h3, h4, h5, h6, ih _ _ h7⟩
      case callc x args =>
        simp only [WOp] at hW ⊢
        split at hW
        · obtain ⟨perm, m, r, hout, h1, h2, h3, h4, h5, h6, h7⟩ := hW
          exact ⟨perm, m, r, hout, h1, h2, h3, h4, h5, h6, ih _ _ h7⟩
        · exact hW.elim
      case xcall f args =>
        obtain ⟨r, h1, h2⟩ := hW
        exact ⟨r, h1, ih _ _ h2⟩
      case inv tab x args =>
        simp only [WOp] at hW ⊢
        split at hW
        · obtain ⟨perm, m, r, hout, h1, h2, h3, h4, h5, h6, h7⟩ := hW
          exact ⟨perm, m, r, hout, h1, h2, h3, h4, h5, h6, ih _ _ h7⟩
        · exact hW.elim
      all_goals
        simp only [WOp] at hW ⊢
        split at hW
        · rename_i hst
          exact ih _ _ hW
        · exact hW.elim
    simp only [WOps] at hW ⊢
    split at hW
    · exact one hW
    · split at hW
      · split at hW
        · rename_i he; rw [if_pos he]; exact one hW
        · rename_i he; rw [if_neg he]; exact ih _ _ hW
      · exact ih _ _ hW
      · exact hW.elim
theorem WOpsT.mono {P : Program} {K K' : KT} (hK : ∀ tr fr h, K tr fr h → K' tr fr h) : ∀ (ops : List AOper) (tr : Tr) (fr : Fr) (h : List Blk), WOpsT P ops tr fr h K → WOpsT P ops tr fr h K' := by
  intro ops
  induction ops with
  | nil => intro tr fr h hW; exact hK _ _ _ hW
  | cons o rest ih =>
    intro tr fr h hW
    have one : WOpT P o.op fr h (fun R W x h' => WOpsT P rest (tr ++ [(R, W)]) (put fr o.dst x) h' K) → WOpT P o.op fr h (fun R W x h' => WOpsT P rest (tr ++ [(R, W)]) (put fr o.dst x) h' K') := by
      intro hW
      cases hop : o.op <;> rw [hop] at hW
      case call f args =>
        obtain ⟨perm, m, r, hout, W', h1, h2, h3, h4, h5, h6, h8, h7⟩ := hW
        exact ⟨perm, m, r, hout, W', h1, h2, h3, h4, h5, h6, h8, ih _ _ _ h7⟩
      case callc x args =>
        simp only [WOpT] at hW ⊢
        split at hW
        · obtain ⟨perm, m, r, hout, W', h1, h2, h3, h4, h5, h6, h8, h7⟩ := hW
          exact ⟨perm, m, r, hout, W', h1, h2, h3, h4, h5, h6, h8, ih _ _ _ h7⟩
        · exact hW.elim
      case xcall f args =>
        obtain ⟨r, h1, h2⟩ := hW
        exact ⟨r, h1, ih _ _ _ h2⟩
      case inv tab x args =>
        simp only [WOpT] at hW ⊢
        split at hW
        · obtain ⟨perm, m, r, hout, W', h1, h2, h3, h4, h5, h6, h8, h7⟩ := hW
          exact ⟨perm, m, r, hout, W', h1, h2, h3, h4, h5, h6, h8, ih _ _ _ h7⟩
        · exact hW.elim
      all_goals
        simp only [WOpT] at hW ⊢
        split at hW
        · rename_i hst
          exact ih _ _ _ hW
        · exact hW.elim
    simp only [WOpsT] at hW ⊢
    split at hW
    · exact one hW
    · split at hW
      · split at hW
        · rename_i he; rw [if_pos he]; exact one hW
        · rename_i he; rw [if_neg he]; exact ih _ _ _ hW
      · exact ih _ _ _ hW
      · exact hW.elim
theorem AW.mono' {P : Program} {k : Nat} : ∀ {c : AC} {Q Q' : Exit → Fr → List Blk → Prop} {fr : Fr} {h : List Blk}, (∀ e fr h, Q e fr h → Q' e fr h) → AW P k c Q fr h → AW P k c Q' fr h := by
  intro c
  induction c with
  | skip => intro Q Q' fr h hq hA; exact hq _ _ _ hA
  | exit i => intro Q Q' fr h hq hA; exact hq _ _ _ hA
  | ret => intro Q Q' fr h hq hA; exact hq _ _ _ hA
  | reg ops live => intro Q Q' fr h hq hA; simp only [AW] at hA ⊢; exact WOps.mono (fun _ _ h => hq _ _ _ h) _ _ _ hA
  | dreg ops bef live => intro Q Q' fr h hq hA; simp only [AW] at hA ⊢; exact WOpsT.mono (fun _ _ _ h => ⟨h.1, hq _ _ _ h.2⟩) _ _ _ _ hA
  | seq a b iha ihb =>
    intro Q Q' fr h hq hA
    simp only [AW] at hA ⊢
    refine iha (fun e fr h hh => ?_) hA
    cases e with
    | normal => obtain ⟨fr2, h2, hw, h3⟩ := hh; exact ⟨fr2, h2, hw, ihb hq h3⟩
    | _ => exact hq _ _ _ hh
  | cond x a b iha ihb =>
    intro Q Q' fr h hq hA
    simp only [AW] at hA ⊢
    split at hA
    · split at hA
      · rename_i ht; rw [if_pos ht]; exact iha hq hA
      · rename_i ht; rw [if_neg ht]; exact ihb hq hA
    · exact ⟨hA.1, iha hq hA.2.1, ihb hq hA.2.2⟩
  | block id b ih =>
    intro Q Q' fr h hq hA
    simp only [AW] at hA ⊢
    refine ih (fun e fr h hh => ?_) hA
    cases e with
    | exit i =>
      dsimp only at hh ⊢
      split at hh
      · rename_i hi; rw [if_pos hi]; exact hq _ _ _ hh
      · rename_i hi; rw [if_neg hi]; exact hq _ _ _ hh
    | _ => exact hq _ _ _ hh
  | loop b ih =>
    intro Q Q' fr h hq hA
    simp only [AW] at hA ⊢
    obtain ⟨I, μ, h1, h2⟩ := hA
    refine ⟨I, μ, h1, fun fr h hI => ih (fun e fr h hh => ?_) (h2 fr h hI)⟩
    cases e with
    | normal => exact hh
    | _ => exact hq _ _ _ hh
/-- What comes behind a piece of code. -/
inductive KF where
  | seq (b : AC)
  | block (id : Nat)
  | loop (C : Fr → List Blk → Prop)
  | cut (id : Option Nat) (C : Fr → List Blk → Prop)

def RK (P : Program) (k : Nat) : List KF → (Exit → Fr → List Blk → Prop) → Exit → Fr → List Blk → Prop
  | [], Q, e, fr, h => Q e fr h
  | .seq b :: st, Q, e, fr, h => match e with
    | .normal => ∃ fr2 h2, Weaks k fr h fr2 h2 ∧ AW P k b (RK P k st Q) fr2 h2
    | e => RK P k st Q e fr h
  | .block id :: st, Q, e, fr, h => match e with
    | .exit i => if i = id then RK P k st Q .normal fr h else RK P k st Q (.exit i) fr h
    | e => RK P k st Q e fr h
  | .loop C :: st, Q, e, fr, h => match e with
    | .normal => C fr h
    | e => RK P k st Q e fr h
  | .cut id C :: st, Q, e, fr, h => match e with
    | .normal => C fr h
    | .exit i => if some i = id then C fr h else RK P k st Q (.exit i) fr h
    | e => RK P k st Q e fr h
def AK (P : Program) (k : Nat) (c : AC) (st : List KF) (Q : Exit → Fr → List Blk → Prop) (fr : Fr) (h : List Blk) : Prop := AW P k c (RK P k st Q) fr h
def AKW (P : Program) (k : Nat) (c : AC) (st : List KF) (Q : Exit → Fr → List Blk → Prop) (fr : Fr) (h : List Blk) : Prop := ∃ fr2 h2, Weaks k fr h fr2 h2 ∧ AW P k c (RK P k st Q) fr2 h2
theorem Weaks.trans {k : Nat} {fr h fr1 h1 fr2 h2} (a : Weaks k fr h fr1 h1) (b : Weaks k fr1 h1 fr2 h2) : Weaks k fr h fr2 h2 := by
  induction a with
  | refl => exact b
  | step hw _ ih => exact .step hw (ih b)
  | sub hw _ ih => exact .sub hw (ih b)
  | virt e he hw _ ih => exact .virt e he hw (ih b)
/-- A function's end said in less. -/
def WeakS (k : Nat) (x : V) (h : List Blk) (r : V) (h' : List Blk) : Prop := ∃ r0, WeakV k x h r0 h' ∧ Sub r0 r

section
variable {P : Program} {rest : List AOper} {tr : Tr} {fr : Fr} {h : List Blk} {K : KT} {d : Option Nat} {k : Nat} {st : List KF} {Q : Exit → Fr → List Blk → Prop}

theorem N.regS {ops : List AOper} {live : List Nat} {b : AC} (hW : ∀ K : KT, (∀ tr fr' h', AKW P k b st Q (keep live fr') h' → K tr fr' h') → WOpsT P ops [] fr h K) : AK P k (.seq (.reg ops live) b) st Q fr h := by
  unfold AK
  simp only [AW]
  exact WOps.ofT _ [] _ _ _ (hW _ fun _ _ _ hh => hh)
theorem N.dregS {ops : List AOper} {bef : List (List Nat)} {live : List Nat} {b : AC} (hW : ∀ K : KT, (∀ tr fr' h', okTr bef tr = true → AKW P k b st Q (keep live fr') h' → K tr fr' h') → WOpsT P ops [] fr h K) : AK P k (.seq (.dreg ops bef live) b) st Q fr h := by
  unfold AK
  simp only [AW]
  exact hW _ fun _ _ _ h1 h2 => ⟨h1, h2⟩
theorem N.regN {ops : List AOper} {live : List Nat} (hW : ∀ K : KT, (∀ tr fr' h', RK P k st Q .normal (keep live fr') h' → K tr fr' h') → WOpsT P ops [] fr h K) : AK P k (.reg ops live) st Q fr h := AW.regN hW
theorem N.dregN {ops : List AOper} {bef : List (List Nat)} {live : List Nat} (hW : ∀ K : KT, (∀ tr fr' h', okTr bef tr = true → RK P k st Q .normal (keep live fr') h' → K tr fr' h') → WOpsT P ops [] fr h K) : AK P k (.dreg ops bef live) st Q fr h := AW.dregN hW
theorem N.now {c : AC} (hA : AK P k c st Q fr h) : AKW P k c st Q fr h := ⟨_, _, .refl, hA⟩
theorem N.weak {c : AC} {fr1 : Fr} {h1 : List Blk} (hw : Weaks k fr h fr1 h1) (hA : AKW P k c st Q fr1 h1) : AKW P k c st Q fr h := by
  obtain ⟨fr2, h2, hw2, h3⟩ := hA
  exact ⟨fr2, h2, hw.trans hw2, h3⟩
theorem AW.same {c : AC} {Q Q' : Exit → Fr → List Blk → Prop} (e : ∀ e fr h, Q e fr h = Q' e fr h) (hA : AW P k c Q fr h) : AW P k c Q' fr h := by
  have : Q = Q' := by funext a b c; exact e a b c
  rw [← this]; exact hA
theorem N.seq {a b : AC} (hA : AK P k a (.seq b :: st) Q fr h) : AK P k (.seq a b) st Q fr h := by
  unfold AK at hA ⊢
  simp only [AW]
  refine AW.same (fun e fr h => ?_) hA
  cases e <;> rfl
theorem N.block {id : Nat} {b : AC} (hA : AK P k b (.block id :: st) Q fr h) : AK P k (.block id b) st Q fr h := by
  unfold AK at hA ⊢
  simp only [AW]
  refine AW.same (fun e fr h => ?_) hA
  cases e <;> rfl
theorem N.condT {x : AO} {a b : AC} {t : Bool} (hx : x.ev (lk fr) = .c (.bool t)) (ht : t = true) (hA : AK P k a st Q fr h) : AK P k (.cond x a b) st Q fr h := AW.condT hx ht hA
theorem N.condF {x : AO} {a b : AC} {t : Bool} (hx : x.ev (lk fr) = .c (.bool t)) (ht : t = false) (hA : AK P k b st Q fr h) : AK P k (.cond x a b) st Q fr h := AW.condF hx ht hA
theorem N.condB {x : AO} {a b : AC} {t : Bool} (hx : x.ev (lk fr) = .c (.bool t)) (hA : t = true → AK P k a st Q fr h) (hB : t = false → AK P k b st Q fr h) : AK P k (.cond x a b) st Q fr h := AW.condB hx hA hB
theorem N.condD {x : AO} {a b : AC} {p : Prop} {i : Decidable p} (hx : x.ev (lk fr) = .c (.bool (decide p))) (hA : p → AK P k a st Q fr h) (hB : ¬ p → AK P k b st Q fr h) : AK P k (.cond x a b) st Q fr h :=
  AW.condB hx (fun h => hA (of_decide_eq_true h)) (fun h => hB (of_decide_eq_false h))
theorem N.skip (hQ : RK P k st Q .normal fr h) : AK P k .skip st Q fr h := hQ
theorem N.exit {i : Nat} (hQ : RK P k st Q (.exit i) fr h) : AK P k (.exit i) st Q fr h := hQ
theorem N.ret (hQ : RK P k st Q .ret fr h) : AK P k .ret st Q fr h := hQ
theorem N.seqN {b : AC} (hA : AKW P k b st Q fr h) : RK P k (.seq b :: st) Q .normal fr h := hA
theorem N.seqX {b : AC} {i : Nat} (hA : RK P k st Q (.exit i) fr h) : RK P k (.seq b :: st) Q (.exit i) fr h := hA
theorem N.seqR {b : AC} (hA : RK P k st Q .ret fr h) : RK P k (.seq b :: st) Q .ret fr h := hA
theorem N.blkN {id : Nat} (hA : RK P k st Q .normal fr h) : RK P k (.block id :: st) Q .normal fr h := hA
theorem N.blkE {id i : Nat} (hi : i = id) (hA : RK P k st Q .normal fr h) : RK P k (.block id :: st) Q (.exit i) fr h := by
  simp only [RK]; rw [if_pos hi]; exact hA
theorem N.blkX {id i : Nat} (hi : i ≠ id) (hA : RK P k st Q (.exit i) fr h) : RK P k (.block id :: st) Q (.exit i) fr h := by
  simp only [RK]; rw [if_neg hi]; exact hA
theorem N.blkR {id : Nat} (hA : RK P k st Q .ret fr h) : RK P k (.block id :: st) Q .ret fr h := hA
theorem N.lpN {C : Fr → List Blk → Prop} (hA : C fr h) : RK P k (.loop C :: st) Q .normal fr h := hA
theorem N.lpX {C : Fr → List Blk → Prop} {i : Nat} (hA : RK P k st Q (.exit i) fr h) : RK P k (.loop C :: st) Q (.exit i) fr h := hA
theorem N.lpR {C : Fr → List Blk → Prop} (hA : RK P k st Q .ret fr h) : RK P k (.loop C :: st) Q .ret fr h := hA
theorem N.nil {e : Exit} (hA : Q e fr h) : RK P k [] Q e fr h := hA
theorem N.loop {b : AC} {σ : Type} (F : σ → Fr) (H : σ → List Blk) (inv : σ → Prop) (m : σ → Nat) (s0 : σ) (h0 : inv s0) (hw : Weaks k fr h (F s0) (H s0))
    (hA : ∀ s, inv s → ∀ C : Fr → List Blk → Prop, (∀ fr1 h1 s', inv s' → m s' < m s → Weaks k fr1 h1 (F s') (H s') → C fr1 h1) → AK P k b (.loop C :: st) Q (F s) (H s)) :
    AK P k (.loop b) st Q fr h := by
  unfold AK
  simp only [AW]
  classical
  let S : Fr → List Blk → Nat → Prop := fun fr h n => ∃ s, inv s ∧ F s = fr ∧ H s = h ∧ m s = n
  have hmin : ∀ n fr h, S fr h n → ∃ n', S fr h n' ∧ ∀ n'', S fr h n'' → n' ≤ n'' := by
    intro n
    induction n using Nat.strongRecOn with
    | _ n ih =>
      intro fr h hS
      by_cases hlt : ∃ n', n' < n ∧ S fr h n'
      · obtain ⟨n', h1, h2⟩ := hlt
        exact ih n' h1 fr h h2
      · exact ⟨n, hS, fun n'' h2 => Nat.le_of_not_lt fun h3 => hlt ⟨n'', h3, h2⟩⟩
  let μ : Fr → List Blk → Nat := fun fr h => if hx : ∃ n, S fr h n ∧ ∀ n'', S fr h n'' → n ≤ n'' then hx.choose else 0
  have hμ : ∀ fr h n, S fr h n → S fr h (μ fr h) ∧ μ fr h ≤ n := by
    intro fr h n hS
    have hx := hmin n fr h hS
    have e : μ fr h = hx.choose := by simp only [μ]; rw [dif_pos hx]
    rw [e]
    exact ⟨hx.choose_spec.1, hx.choose_spec.2 n hS⟩
  refine ⟨fun fr h => ∃ s, inv s ∧ F s = fr ∧ H s = h, μ, ⟨F s0, H s0, hw, s0, h0, rfl, rfl⟩, ?_⟩
  rintro fr h ⟨s1, hs1, rfl, rfl⟩
  obtain ⟨⟨s, hs, hF, hH, hm⟩, _⟩ := hμ (F s1) (H s1) (m s1) ⟨s1, hs1, rfl, rfl, rfl⟩
  rw [← hF, ← hH]
  have := hA s hs (fun fr' h' => ∃ fr'' h'', Weaks k fr' h' fr'' h'' ∧ (∃ s, inv s ∧ F s = fr'' ∧ H s = h'') ∧ μ fr'' h'' < μ (F s) (H s)) (fun fr1 h1 s' hi hlt hwk => by
    refine ⟨F s', H s', hwk, ⟨s', hi, rfl, rfl⟩, ?_⟩
    have := (hμ (F s') (H s') (m s') ⟨s', hi, rfl, rfl, rfl⟩).2
    rw [hF, hH, ← hm]
    omega)
  unfold AK at this
  refine AW.same (fun e fr h => ?_) this
  cases e <;> rfl
theorem FnE.sub {f : FuncId} {args : List V} {h h' : List Blk} {r r' : V} (hF : FnE P f args h r h') (hs : Sub r r') : FnE P f args h r' h' := by
  intro X w ι vs H hsz hargs
  refine (hF X w ι vs H hsz hargs).mono ?_
  rintro e w' ⟨v, ι', rfl, H', hr, hFr, hR⟩
  exact ⟨v, ι', rfl, H', hr.sub hs, hFr, hR⟩
theorem FnE.args {f : FuncId} {args args' : List V} {h h' : List Blk} {r : V} (hF : FnE P f args h r h') (hl : args'.length = args.length) (hs : ∀ (i : Nat) (a b : V), args'[i]? = some a → args[i]? = some b → Sub a b) : FnE P f args' h r h' := by
  intro X w ι vs H hsz hargs
  refine hF X w ι vs H (by omega) fun i v y hv hy => ?_
  have hi := (List.getElem?_eq_some_iff.1 hy).1
  have ha : args'[i]? = some (args'[i]'(by omega)) := List.getElem?_eq_getElem _
  exact (hargs i v _ hv ha).sub (hs i _ y ha hy)
/-- The first argument is said in more. -/
theorem FnE.arg0 {f : FuncId} {a b : V} {as : List V} {h h' : List Blk} {r : V} (hF : FnE P f (b :: as) h r h') (hs : Sub a b) : FnE P f (a :: as) h r h' := by
  refine hF.args rfl fun i x y hx hy => ?_
  cases i with
  | zero => simp at hx hy; subst hx; subst hy; exact hs
  | succ i => simp at hx hy; rw [hx] at hy; cases hy; exact .rfl
theorem FnE.arg1 {f : FuncId} {a b c : V} {as : List V} {h h' : List Blk} {r : V} (hF : FnE P f (c :: b :: as) h r h') (hs : Sub a b) : FnE P f (c :: a :: as) h r h' := by
  refine hF.args rfl fun i x y hx hy => ?_
  match i with
  | 0 => simp at hx hy; subst hx; subst hy; exact .rfl
  | 1 => simp at hx hy; subst hx; subst hy; exact hs
  | i + 2 => simp at hx hy; rw [hx] at hy; cases hy; exact .rfl
/-- A contract, out of the code: the result may be said in less. -/
theorem N.fn {f : FuncId} {fn : Func} {ac : AC} {vars : List (Nat × List Nat)} {ars : List AR} {args : List V} {h0 : List Blk} {r : V} {h' : List Blk}
    (hf : P.funcs[f]? = some fn) (hbc : fn.body.bind (compC P fn.ntmps vars) = some ac) (hn : args.length ≤ fn.ntmps) (hr : fn.results.toList.mapM (compRes P) = some ars)
    (hA : ∀ Q : Exit → Fr → List Blk → Prop, (∀ fr h x, resV ars fr h = some x → WeakS h0.length x h r h' → Q .ret fr h) → (∀ fr h x, resV ars fr h = some x → WeakS h0.length x h r h' → Q .normal fr h) → AK P h0.length ac [] Q (enter 0 args) h0) : FnE P f args h0 r h' := by
  intro X w ι vs H hsz hargs
  obtain ⟨c, hb, hc⟩ := Option.bind_eq_some_iff.1 hbc
  refine calls_of_wp hf hb ?_
  have hS : St X w ι fn.ntmps (enter 0 args) h0 { tmps := vs ++ Array.replicate (fn.ntmps - vs.size) undef, defers := [] } w := by
    refine ⟨⟨ι, H, Frm.refl _ _, Refs.refl _, fun i => ?_⟩, by simp; omega, rfl⟩
    rw [lk_enter, if_pos (Nat.zero_le _), Nat.sub_zero]
    cases hi : args[i]? with
    | none => exact .any
    | some y =>
      have hlt := (List.getElem?_eq_some_iff.1 hi).1
      have hv : vs[i]? = some (vs[i]'(by omega)) := Array.getElem?_eq_getElem _
      have : (vs ++ Array.replicate (fn.ntmps - vs.size) undef).getD i undef = vs[i]'(by omega) := by
        rw [Array.getD_eq_getD_getElem?, Array.getElem?_append_left (by omega), hv]; rfl
      rw [this]
      exact hargs i _ y hv hi
  have := aw_sound c ac hc _ _ _ _ _ hS (by rw [H.len]; exact hA (fun e fr h => (e = .ret ∨ e = .normal) ∧ ∃ x, resV ars fr h = some x ∧ WeakS h0.length x h r h') (fun fr h x h1 h2 => ⟨.inl rfl, x, h1, h2⟩) (fun fr h x h1 h2 => ⟨.inr rfl, x, h1, h2⟩))
  refine wp_mono this fun e a' w' hL => ?_
  have fin : ∀ fr h, St X w ι fn.ntmps fr h a' w' → (∃ x, resV ars fr h = some x ∧ WeakS h0.length x h r h') →
      a'.defers = [] ∧ ∃ v, (results fn a'.tmps).run P w' = .ok v w' ∧ ∃ v_1 ι', Ending.returned v = .returned v_1 ∧ HRel X w' ι' h' ∧ Rel w' (OX X ι') ι' v_1 r ∧ Frm w (Own ι) w' (Own ι') ∧ Refs ι ι' := by
    rintro fr h ⟨⟨ι1, H1, hF1, hR1, hS1⟩, _, hdef⟩ ⟨x, hx, r0, ⟨ids, m, hnd, hlt, hpre, rfl, rfl⟩, hsub⟩
    obtain ⟨v, g1, g2⟩ := results_run (P := P) H1 hS1 hr hx
    obtain ⟨ι', rfl, H', hrel, hown⟩ := reindex H1 ids hnd hlt m
    refine ⟨hdef, v, g1, v, _, rfl, H', (hrel _ _ g2).sub hsub, ⟨hF1.size, hF1.same, fun r hr => hF1.own r (hown r hr), hF1.os, hF1.tape, hF1.output⟩, fun b p hp => ?_⟩
    obtain ⟨p', h1, h2⟩ := hR1 b p hp
    have hb := (List.getElem?_eq_some_iff.1 hp).1
    refine ⟨p', ?_, h2⟩
    rw [List.getElem?_map, hpre b (by rw [← H.len]; exact hb), Option.map_some, List.getD_eq_getElem?_getD, h1]; rfl
  cases e <;> simp only [Lift] at hL
  · obtain ⟨fr, h, hS', _, hx⟩ := hL; exact fin fr h hS' hx
  · obtain ⟨fr, h, hS', he, _⟩ := hL; rcases he with he | he <;> cases he
  · obtain ⟨fr, h, hS', _, hx⟩ := hL; exact fin fr h hS' hx
theorem WeakS.of {k : Nat} {x r : V} {h h' : List Blk} (hw : WeakV k x h r h') : WeakS k x h r h' := ⟨r, hw, .rfl⟩
theorem WS.drop {k n : Nat} {x r : V} {h : List Blk} (hk : k = 0) (hr : r = out h [] n x) : WeakS k x h r [] := .of (WeakV.drop hk hr)
theorem WS.c {k : Nat} {v v' : Value} {h : List Blk} (hk : k = 0) (hv : v = v') : WeakS k (.c v) h (.c v') [] := .of (WeakV.cE hk hv)
theorem WS.bool {k : Nat} {u v : Bool} {h : List Blk} (hk : k = 0) (hv : u = true ↔ v = true) : WeakS k (.c (.bool u)) h (.c (.bool v)) [] := WS.c hk (by rw [Bool.eq_iff_iff.2 hv])
theorem WS.tup2 {k : Nat} {u u' v v' : Value} {h : List Blk} (hk : k = 0) (hu : u = u') (hv : v = v') : WeakS k (.tup [.c u, .c v]) h (.tup [.c u', .c v']) [] := .of (WeakV.tup2 hk hu hv)
theorem WS.keep1 {b len : Nat} {h : List Blk} {ys zs : List Int} (hb : h[b]? = some ⟨1, 1, cells ys⟩) (hz : ys = zs) : WeakS 0 (.psl b 1 0 len) h (.psl 0 1 0 len) [⟨1, 1, cells zs⟩] := by
  subst hz; exact .of (WeakV.keep1 hb)
/-- Bytes as rows of one cell. -/
def bcells (xs : List Int) : List (List V) := xs.map fun x => [.c (.int .u8 x)]
theorem bcells_get (xs : List Int) (i : Nat) : (bcells xs)[i]? = (xs[i]?).map fun x => [.c (.int .u8 x)] := by simp [bcells]
theorem bcells_set (xs : List Int) (i : Nat) (y : Int) : (bcells xs).set i [.c (.int .u8 y)] = bcells (xs.set i y) := by simp [bcells, List.map_set]
theorem bcells_len (xs : List Int) : (bcells xs).length = xs.length := by simp [bcells]
theorem bcells_drop (xs : List Int) (i : Nat) : (bcells xs).drop i = bcells (xs.drop i) := by simp [bcells, List.map_drop]
theorem bcells_take (xs : List Int) (i : Nat) : (bcells xs).take i = bcells (xs.take i) := by simp [bcells, List.map_take]
theorem bcells_append (xs ys : List Int) : bcells xs ++ bcells ys = bcells (xs ++ ys) := by simp [bcells]
theorem bcells_frz {h : List Blk} {kp : Nat → Bool} {n : Nat} (xs : List Int) : (bcells xs).map (·.map (frz h kp n)) = bcells xs := by
  simp [bcells, Function.comp_def, frz_c]
theorem bcells_out {h : List Blk} {ids : List Nat} {n : Nat} (xs : List Int) : (bcells xs).map (·.map (out h ids n)) = bcells xs := by
  simp [bcells, Function.comp_def, out_c]
theorem bcells_ren {ks : List Nat} (xs : List Int) : (bcells xs).map (·.map (ren ks)) = bcells xs := by
  simp [bcells, Function.comp_def, ren_c]
theorem bcells_pas {ks : List Nat} (xs : List Int) : (bcells xs).map (·.map (pas ks)) = bcells xs := by
  simp only [bcells, List.map_map, Function.comp_def]; rfl
/-- A chip's state. -/
abbrev dev (n m : List Int) : V := .agg [.sl 1 (cells n), .sl 1 (bcells m)]
theorem Sub.devN {n n' : List Int} (hn : n = n') : Sub (.agg [.sl 1 (cells n), .c (.slice none 0 0)]) (dev n' []) := by
  subst hn
  refine .agg (Eq.refl _) fun i a b ha hb => ?_
  match i with
  | 0 => simp at ha hb; subst ha; subst hb; exact .rfl
  | 1 => simp at ha hb; subst ha; subst hb; exact .nil
  | i + 2 => simp at ha
theorem WS.devN {k m : Nat} {x : V} {h : List Blk} {n : List Int} (hk : k = 0) (hr : .agg [.sl 1 (cells n), .c (.slice none 0 0)] = out h [] m x) : WeakS k x h (dev n []) [] :=
  ⟨_, WeakV.drop hk hr, Sub.devN rfl⟩
theorem Sub.tup2 {a a' b b' : V} (h1 : Sub a a') (h2 : Sub b b') : Sub (.tup [a, b]) (.tup [a', b']) := by
  refine .tup (Eq.refl _) fun i x y hx hy => ?_
  match i with
  | 0 => simp at hx hy; subst hx; subst hy; exact h1
  | 1 => simp at hx hy; subst hx; subst hy; exact h2
  | i + 2 => simp at hx
theorem WS.devN2 {k m : Nat} {x : V} {h : List Blk} {n : List Int} {y : V} (hk : k = 0) (hr : .tup [.agg [.sl 1 (cells n), .c (.slice none 0 0)], y] = out h [] m x) : WeakS k x h (.tup [dev n [], y]) [] :=
  ⟨_, WeakV.drop hk hr, Sub.tup2 (Sub.devN rfl) .rfl⟩

/-! ### Tests inside a region -/
theorem T.pU {op : AOp} {g : Nat} {want : Bool} {t : Array Value} (hg : lk fr g = .c (.tuple t)) (hK : WOpsT P rest (tr ++ [([], [])]) (put fr d (.c undef)) h K) : WOpsT P (⟨d, op, some (g, want)⟩ :: rest) tr fr h K := by
  simp only [WOpsT, hg]
  exact hK
theorem T.gT {op : AOp} {g : Nat} {p : Prop} {i : Decidable p} (hg : lk fr g = .c (.bool (decide p))) (hA : p → WOpsT P (⟨d, op, none⟩ :: rest) tr fr h K) (hB : ¬ p → WOpsT P rest (tr ++ [([], [])]) (put fr d (.c undef)) h K) :
    WOpsT P (⟨d, op, some (g, true)⟩ :: rest) tr fr h K := by
  by_cases hp : p
  · exact T.go hg (decide_eq_true hp) (hA hp)
  · exact T.pass hg (decide_eq_false hp) (hB hp)
theorem T.gF {op : AOp} {g : Nat} {p : Prop} {i : Decidable p} (hg : lk fr g = .c (.bool (decide p))) (hA : ¬ p → WOpsT P (⟨d, op, none⟩ :: rest) tr fr h K) (hB : p → WOpsT P rest (tr ++ [([], [])]) (put fr d (.c undef)) h K) :
    WOpsT P (⟨d, op, some (g, false)⟩ :: rest) tr fr h K := by
  by_cases hp : p
  · exact T.pass hg (decide_eq_true hp) (hB hp)
  · exact T.go hg (decide_eq_false hp) (hA hp)
theorem T.pkD {c a b : AO} {p : Prop} {i : Decidable p} (hc : c.ev (lk fr) = .c (.bool (decide p))) (hA : p → WOpsT P rest (tr ++ [([], [])]) (put fr d (a.ev (lk fr))) h K) (hB : ¬ p → WOpsT P rest (tr ++ [([], [])]) (put fr d (b.ev (lk fr))) h K) :
    WOpsT P (⟨d, .pick c a b, none⟩ :: rest) tr fr h K := by
  by_cases hp : p
  · exact T.pickT hc (decide_eq_true hp) (hA hp)
  · exact T.pickF hc (decide_eq_false hp) (hB hp)
theorem T.goT {op : AOp} {g : Nat} {p : Prop} {i : Decidable p} (hg : lk fr g = .c (.bool (decide p))) (hp : p) (hK : WOpsT P (⟨d, op, none⟩ :: rest) tr fr h K) : WOpsT P (⟨d, op, some (g, true)⟩ :: rest) tr fr h K := T.go hg (decide_eq_true hp) hK
theorem T.goF {op : AOp} {g : Nat} {p : Prop} {i : Decidable p} (hg : lk fr g = .c (.bool (decide p))) (hp : ¬ p) (hK : WOpsT P (⟨d, op, none⟩ :: rest) tr fr h K) : WOpsT P (⟨d, op, some (g, false)⟩ :: rest) tr fr h K := T.go hg (decide_eq_false hp) hK
theorem T.paT {op : AOp} {g : Nat} {p : Prop} {i : Decidable p} (hg : lk fr g = .c (.bool (decide p))) (hp : ¬ p) (hK : WOpsT P rest (tr ++ [([], [])]) (put fr d (.c undef)) h K) : WOpsT P (⟨d, op, some (g, true)⟩ :: rest) tr fr h K := T.pass hg (decide_eq_false hp) hK
theorem T.paF {op : AOp} {g : Nat} {p : Prop} {i : Decidable p} (hg : lk fr g = .c (.bool (decide p))) (hp : p) (hK : WOpsT P rest (tr ++ [([], [])]) (put fr d (.c undef)) h K) : WOpsT P (⟨d, op, some (g, false)⟩ :: rest) tr fr h K := T.pass hg (decide_eq_true hp) hK
theorem T.pkT {c a b : AO} {p : Prop} {i : Decidable p} (hc : c.ev (lk fr) = .c (.bool (decide p))) (hp : p) (hK : WOpsT P rest (tr ++ [([], [])]) (put fr d (a.ev (lk fr))) h K) : WOpsT P (⟨d, .pick c a b, none⟩ :: rest) tr fr h K := T.pickT hc (decide_eq_true hp) hK
theorem T.pkF {c a b : AO} {p : Prop} {i : Decidable p} (hc : c.ev (lk fr) = .c (.bool (decide p))) (hp : ¬ p) (hK : WOpsT P rest (tr ++ [([], [])]) (put fr d (b.ev (lk fr))) h K) : WOpsT P (⟨d, .pick c a b, none⟩ :: rest) tr fr h K := T.pickF hc (decide_eq_false hp) hK
theorem N.cT {x : AO} {a b : AC} {p : Prop} {i : Decidable p} (hx : x.ev (lk fr) = .c (.bool (decide p))) (hp : p) (hA : AK P k a st Q fr h) : AK P k (.cond x a b) st Q fr h := N.condT hx (decide_eq_true hp) hA
theorem N.cF {x : AO} {a b : AC} {p : Prop} {i : Decidable p} (hx : x.ev (lk fr) = .c (.bool (decide p))) (hp : ¬ p) (hA : AK P k b st Q fr h) : AK P k (.cond x a b) st Q fr h := N.condF hx (decide_eq_false hp) hA
theorem T.eqb0 {x y : AO} {u v : Bool} (hx : x.ev (lk fr) = .c (.bool u)) (hy : y.ev (lk fr) = .c (.bool v)) (hK : WOpsT P rest (tr ++ [([], [])]) (put fr d (.c (.bool (decide (u = true ↔ v = true))))) h K) : WOpsT P (⟨d, .eqb false x y, none⟩ :: rest) tr fr h K :=
  T.pure nofun nofun (by simp only [stepA, hx, hy, pureS, Option.map_some]; congr 4; cases u <;> cases v <;> rfl) hK
theorem T.eqb1 {x y : AO} {u v : Bool} (hx : x.ev (lk fr) = .c (.bool u)) (hy : y.ev (lk fr) = .c (.bool v)) (hK : WOpsT P rest (tr ++ [([], [])]) (put fr d (.c (.bool (decide (¬ (u = true ↔ v = true)))))) h K) : WOpsT P (⟨d, .eqb true x y, none⟩ :: rest) tr fr h K :=
  T.pure nofun nofun (by simp only [stepA, hx, hy, pureS, Option.map_some]; congr 4; cases u <;> cases v <;> rfl) hK
theorem T.notD {x : AO} {p : Prop} {i : Decidable p} (hx : x.ev (lk fr) = .c (.bool (decide p))) (hK : WOpsT P rest (tr ++ [([], [])]) (put fr d (.c (.bool (decide (¬ p))))) h K) : WOpsT P (⟨d, .not x, none⟩ :: rest) tr fr h K :=
  T.not hx (by rw [decide_not] at hK; exact hK)
/-! ### Less said, of lists of slots -/
def selB (fr : Fr) : Fr → Prop
  | [] => True
  | (i, u) :: r => Sub (lk fr i) u ∧ selB fr r
theorem selB_lk {fr : Fr} : ∀ {fr' : Fr}, selB fr fr' → ∀ i, Sub (lk fr i) (lk fr' i) := by
  intro fr'
  induction fr' with
  | nil => intro _ i; exact .any
  | cons p r ih =>
    intro hb i
    obtain ⟨j, u⟩ := p
    simp only [lk]
    split
    · rename_i e; subst e; exact hb.1
    · exact ih hb.2 i
theorem Weaks.sel {k : Nat} {fr fr' : Fr} {h h' : List Blk} (hb : selB fr fr') (hh : h' = h) : Weaks k fr h fr' h' := by
  subst hh; exact .sub (selB_lk hb) .refl
def selO (h : List Blk) (ids : List Nat) (m : Nat) (fr : Fr) : Fr → Prop
  | [] => True
  | (i, u) :: r => Sub (out h ids m (lk fr i)) u ∧ selO h ids m fr r
theorem out_any {h : List Blk} {ids : List Nat} {m : Nat} : out h ids m .any = .any := rfl
def gcOk (k n : Nat) (ids : List Nat) : Bool := decide ids.Nodup && ids.all (fun b => Nat.blt b n) && (List.range k).all fun b => ids[b]? == some b
theorem gcOk_ok {k n : Nat} {ids : List Nat} (h : gcOk k n ids = true) : ids.Nodup ∧ (∀ b ∈ ids, b < n) ∧ (∀ b, b < k → ids[b]? = some b) := by
  simp only [gcOk, Bool.and_eq_true, decide_eq_true_eq, List.all_eq_true, List.mem_range, beq_iff_eq] at h
  exact ⟨h.1.1, fun b hb => by have := h.1.2 b hb; simpa using this, h.2⟩
/-- Blocks are dropped, or renumbered. -/
theorem Weaks.gc {k : Nat} {fr fr' : Fr} {h h' : List Blk} (ids : List Nat) (m : Nat) (hids : gcOk k h.length ids = true) (hb : selO h ids m fr fr') (hh : h' = outH h ids m) : Weaks k fr h fr' h' := by
  subst hh
  obtain ⟨hnd, hlt, hpre⟩ := gcOk_ok hids
  let fr1 : Fr := fr.map fun p => (p.1, out h ids m p.2)
  have e : ∀ i, lk fr1 i = out h ids m (lk fr i) := by
    intro i
    show lk (fr.map _) i = _
    clear hb
    induction fr with
    | nil => rfl
    | cons p r ih =>
      simp only [List.map_cons, lk]
      split
      · rfl
      · exact ih
  refine .step (.inr ⟨ids, m, hnd, hlt, hpre, rfl, fun i => .inr (e i)⟩) (.sub (fun i => ?_) .refl)
  rw [e]
  clear_value fr1
  clear e
  induction fr' with
  | nil => exact .any
  | cons p r ih =>
    obtain ⟨j, u⟩ := p
    simp only [lk]
    split
    · rename_i e; subst e; exact hb.1
    · exact ih hb.2
def frO (h : List Blk) (ids : List Nat) (m : Nat) (fr : Fr) : Fr := fr.map fun p => (p.1, out h ids m p.2)
theorem frO_lk {h : List Blk} {ids : List Nat} {m : Nat} {fr : Fr} (i : Nat) : lk (frO h ids m fr) i = out h ids m (lk fr i) := by
  induction fr with
  | nil => rfl
  | cons p r ih =>
    simp only [frO, List.map_cons, lk] at ih ⊢
    split
    · rfl
    · exact ih
theorem Weaks.gcA {k : Nat} {fr : Fr} {h : List Blk} (ids : List Nat) (m : Nat) (hids : gcOk k h.length ids = true) : Weaks k fr h (frO h ids m fr) (outH h ids m) := by
  obtain ⟨hnd, hlt, hpre⟩ := gcOk_ok hids
  exact .of (.inr ⟨ids, m, hnd, hlt, hpre, rfl, fun i => .inr (frO_lk i)⟩)
/-- A function's end: these blocks are left. -/
theorem WS.gc {k : Nat} {x r : V} {h h' : List Blk} (ids : List Nat) (m : Nat) (hids : gcOk k h.length ids = true) (hh : h' = outH h ids m) (hr : Sub (out h ids m x) r) : WeakS k x h r h' := by
  obtain ⟨hnd, hlt, hpre⟩ := gcOk_ok hids
  exact ⟨_, ⟨ids, m, hnd, hlt, hpre, hh, rfl⟩, hr⟩
/-- A call that passes one block, and makes none. -/
theorem T.call1 (b : Nat) {f : FuncId} {args : List AO} {vs : List V} {r : V} {B B' : Blk} (he : enters P f = true) (hb : h[b]? = some B) (hv : args.map (AO.ev (lk fr)) = vs) (hF : FnE P f (vs.map (pas [b])) [pasB [b] B] r [B'])
    (hK : WOpsT P rest (tr ++ [([b], [b])]) (put fr d (ren [b] r)) (h.set b (renB [b] B')) K) : WOpsT P (⟨d, .call f args, none⟩ :: rest) tr fr h K := by
  have hlt := (List.getElem?_eq_some_iff.1 hb).1
  refine T.call (perm := [b]) (m := 0) (keys := [b]) he hv (by simp) (by simpa using hlt) (hout := [B']) (by
    have e : pasH h [b] = [pasB [b] B] := by simp [pasH, List.getD_eq_getElem?_getD, hb]
    rw [e]; exact hF) rfl (by simp) rfl (h' := h.set b (renB [b] B')) ?_ hK
  apply List.ext_getElem?
  intro i
  simp only [List.replicate, List.append_nil, back, List.getElem?_map]
  by_cases hi : i < h.length
  · rw [List.getElem?_range hi, Option.map_some]
    by_cases hbi : b = i
    · subst hbi
      rw [List.getElem?_set_self hlt]
      simp [pos]
    · rw [List.getElem?_set_ne hbi]
      simp [pos, hbi, List.getD_eq_getElem?_getD, List.getElem?_eq_getElem hi]
  · rw [List.getElem?_eq_none (by simp; omega), List.getElem?_eq_none (by simp; omega)]; rfl
/-! ### Loops, round by round -/
def UK (P : Program) (k : Nat) (b : AC) (st : List KF) (Q : Exit → Fr → List Blk → Prop) : Nat → Fr → List Blk → Prop
  | 0, _, _ => False
  | n + 1, fr, h => AK P k b (.loop (fun fr' h' => ∃ fr2 h2, Weaks k fr' h' fr2 h2 ∧ UK P k b st Q n fr2 h2) :: st) Q fr h
def UC (P : Program) (k : Nat) (b : AC) (st : List KF) (Q : Exit → Fr → List Blk → Prop) (n : Nat) (fr : Fr) (h : List Blk) : Prop := ∃ fr2 h2, Weaks k fr h fr2 h2 ∧ UK P k b st Q n fr2 h2
theorem N.round {b : AC} {n : Nat} (hA : AK P k b (.loop (UC P k b st Q n) :: st) Q fr h) : UK P k b st Q (n + 1) fr h := hA
theorem N.ucN {b : AC} {n : Nat} (hA : UK P k b st Q n fr h) : UC P k b st Q n fr h := ⟨_, _, .refl, hA⟩
theorem N.ucW {b : AC} {n : Nat} {fr1 : Fr} {h1 : List Blk} (hw : Weaks k fr h fr1 h1) (hA : UC P k b st Q n fr1 h1) : UC P k b st Q n fr h := by
  obtain ⟨fr2, h2, hw2, h3⟩ := hA
  exact ⟨fr2, h2, hw.trans hw2, h3⟩
/-- A loop of at most n rounds. -/
theorem N.unroll (n : Nat) {b : AC} (hA : UK P k b st Q n fr h) : AK P k (.loop b) st Q fr h := by
  unfold AK
  simp only [AW]
  classical
  have hmin : ∀ n fr h, UK P k b st Q n fr h → ∃ n', UK P k b st Q n' fr h ∧ ∀ n'', UK P k b st Q n'' fr h → n' ≤ n'' := by
    intro n
    induction n using Nat.strongRecOn with
    | _ n ih =>
      intro fr h hS
      by_cases hlt : ∃ n', n' < n ∧ UK P k b st Q n' fr h
      · obtain ⟨n', h1, h2⟩ := hlt
        exact ih n' h1 fr h h2
      · exact ⟨n, hS, fun n'' h2 => Nat.le_of_not_lt fun h3 => hlt ⟨n'', h3, h2⟩⟩
  let μ : Fr → List Blk → Nat := fun fr h => if hx : ∃ n, UK P k b st Q n fr h ∧ ∀ n'', UK P k b st Q n'' fr h → n ≤ n'' then hx.choose else 0
  have hμ : ∀ fr h n, UK P k b st Q n fr h → UK P k b st Q (μ fr h) fr h ∧ μ fr h ≤ n := by
    intro fr h n hS
    have hx := hmin n fr h hS
    have e : μ fr h = hx.choose := by simp only [μ]; rw [dif_pos hx]
    rw [e]
    exact ⟨hx.choose_spec.1, hx.choose_spec.2 n hS⟩
  refine ⟨fun fr h => ∃ n, UK P k b st Q n fr h, μ, ⟨_, _, .refl, n, hA⟩, ?_⟩
  rintro fr h ⟨n1, hn1⟩
  obtain ⟨h1, h2⟩ := hμ fr h n1 hn1
  cases hm : μ fr h with
  | zero => rw [hm] at h1; exact h1.elim
  | succ m =>
    rw [hm] at h1
    have h1 : AW P k b (RK P k (.loop (UC P k b st Q m) :: st) Q) fr h := h1
    refine AW.mono' (fun e fr h hh => ?_) h1
    cases e with
    | normal =>
      obtain ⟨fr2, h2, hw, hU⟩ := hh
      exact ⟨fr2, h2, hw, ⟨m, hU⟩, Nat.lt_succ_of_le (hμ fr2 h2 m hU).2⟩
    | _ => exact hh
/-! ### A call in general, with what comes back in place -/
def setAll (h : List Blk) : List Nat → List Blk → List Blk
  | [], _ => h
  | _ :: _, [] => h
  | b :: bs, B :: Bs => setAll (h.set b B) bs Bs
theorem setAll_length : ∀ (bs : List Nat) (Bs h : List Blk), (setAll h bs Bs).length = h.length := by
  intro bs
  induction bs with
  | nil => intro Bs h; simp [setAll]
  | cons b bs ih => intro Bs h; cases Bs with
    | nil => simp [setAll]
    | cons B Bs => simp only [setAll]; rw [ih]; simp
theorem setAll_get : ∀ (bs : List Nat) (Bs h : List Blk) (i : Nat), bs.Nodup → bs.length = Bs.length → (∀ b ∈ bs, b < h.length) → (setAll h bs Bs)[i]? = match pos bs i with
    | some j => Bs[j]?
    | none => h[i]? := by
  intro bs
  induction bs with
  | nil => intro Bs h i _ _ _; simp [setAll, pos]
  | cons b bs ih =>
    intro Bs h i hnd hl hlt
    cases Bs with
    | nil => simp at hl
    | cons B Bs =>
      simp only [setAll]
      rw [ih Bs (h.set b B) i (List.nodup_cons.1 hnd).2 (by simpa using hl) (fun c hc => by simpa using hlt c (by simp [hc]))]
      simp only [pos]
      by_cases hb : b = i
      · subst hb
        rw [if_pos rfl]
        cases hp : pos bs b with
        | none => dsimp only; rw [List.getElem?_set_self (hlt b (by simp))]; simp
        | some j => exact absurd (List.mem_of_getElem? (pos_get hp)) (List.nodup_cons.1 hnd).1
      · rw [if_neg hb]
        cases hp : pos bs i with
        | none => simp [List.getElem?_set_ne hb]
        | some j => simp
theorem pos_app {l m : List Nat} {b : Nat} : pos (l ++ m) b = match pos l b with
    | some j => some j
    | none => (pos m b).map (· + l.length) := by
  induction l with
  | nil => simp [pos]
  | cons x l ih =>
    simp only [List.cons_append, pos]
    split
    · rfl
    · rw [ih]
      cases pos l b with
      | none => cases pos m b with
        | none => rfl
        | some j => simp; omega
      | some j => rfl
theorem back_all (h : List Blk) (perm : List Nat) (hout : List Blk) (m : Nat) (hnd : perm.Nodup) (hlt : ∀ b ∈ perm, b < h.length) (hl : hout.length = perm.length + m) (keys : List Nat) :
    keys = perm ++ upto h.length m → back (h ++ List.replicate m dum) keys hout = setAll h perm ((hout.take perm.length).map (renB keys)) ++ (hout.drop perm.length).map (renB keys) := by
  intro hk
  apply List.ext_getElem?
  intro i
  unfold back
  rw [List.getElem?_map]
  by_cases hi : i < h.length + m
  · rw [List.getElem?_range (by simpa using hi), Option.map_some]
    rw [hk]
    rw [pos_app]
    by_cases hi2 : i < h.length
    · rw [List.getElem?_append_left (by rw [setAll_length]; exact hi2), setAll_get _ _ _ _ hnd (by simp; omega) hlt]
      cases hp : pos perm i with
      | some j =>
        have hj := (List.getElem?_eq_some_iff.1 (pos_get hp)).1
        simp only [List.getElem?_map, List.getElem?_take, if_pos hj]
        rw [List.getElem?_eq_getElem (by omega)]
        simp [List.getD_eq_getElem?_getD, List.getElem?_eq_getElem (show j < hout.length by omega)]
      | none =>
        have : pos (upto h.length m) i = none := by
          cases hq : pos (upto h.length m) i with
          | none => rfl
          | some j => have := (upto_mem (List.mem_of_getElem? (pos_get hq))).1; omega
        simp only [this, Option.map_none]
        simp [List.getD_eq_getElem?_getD, List.getElem?_append_left hi2, List.getElem?_eq_getElem hi2]
    · obtain ⟨j, rfl⟩ : ∃ j, i = h.length + j := ⟨i - h.length, by omega⟩
      have hj : j < m := by omega
      have hp : pos perm (h.length + j) = none := by
        cases hq : pos perm (h.length + j) with
        | none => rfl
        | some q => have := hlt _ (List.mem_of_getElem? (pos_get hq)); omega
      rw [hp, upto_pos _ _ _ hj, List.getElem?_append_right (by rw [setAll_length]; omega), setAll_length, show h.length + j - h.length = j by omega]
      simp only [List.getElem?_map, List.getElem?_drop, Option.map_some]
      rw [List.getElem?_eq_getElem (by omega)]
      simp [List.getD_eq_getElem?_getD, List.getElem?_eq_getElem (show j + perm.length < hout.length by omega), Nat.add_comm]
  · rw [List.getElem?_eq_none (by simp; omega), List.getElem?_eq_none (by simp [setAll_length]; omega)]; rfl
def permOk (n : Nat) (perm : List Nat) : Bool := decide perm.Nodup && perm.all fun b => Nat.blt b n
theorem permOk_ok {n : Nat} {perm : List Nat} (h : permOk n perm = true) : perm.Nodup ∧ ∀ b ∈ perm, b < n := by
  simp only [permOk, Bool.and_eq_true, decide_eq_true_eq, List.all_eq_true] at h
  exact ⟨h.1, fun b hb => by have := h.2 b hb; simpa using this⟩
/-- A call that passes these blocks. -/
theorem T.callP (perm : List Nat) {f : FuncId} {args : List AO} {vs : List V} {r : V} {hin hout : List Blk} (he : enters P f = true) (hv : args.map (AO.ev (lk fr)) = vs) (hF : FnE P f (vs.map (pas perm)) hin r hout)
    (hH : pasH h perm = hin) (hp : permOk h.length perm = true) (hl : (hout.length == perm.length + (hout.drop perm.length).length) = true) (hver : ((hout.drop perm.length).all fun k => Nat.blt 0 k.ver) = true)
    (hK : WOpsT P rest (tr ++ [(perm, perm ++ upto h.length (hout.drop perm.length).length)]) (put fr d (ren (perm ++ upto h.length (hout.drop perm.length).length) r)) (setAll h perm ((hout.take perm.length).map (renB (perm ++ upto h.length (hout.drop perm.length).length))) ++ (hout.drop perm.length).map (renB (perm ++ upto h.length (hout.drop perm.length).length))) K) :
    WOpsT P (⟨d, .call f args, none⟩ :: rest) tr fr h K := by
  obtain ⟨h1, h2⟩ := permOk_ok hp
  subst hH
  have hl' : hout.length = perm.length + (hout.drop perm.length).length := by simpa using hl
  refine T.call (perm := perm) (m := (hout.drop perm.length).length) he hv h1 h2 hF hl' (fun k hk => by
    rw [List.all_eq_true] at hver
    have := hver k hk; simpa using this) rfl rfl ?_
  rw [back_all h perm hout _ h1 h2 hl' _ rfl]
  exact hK
/-! ### Slices of a block that become trees -/
theorem out_bytes {h : List Blk} {n b v len : Nat} {m : List Int} (hb : h[b]? = some ⟨v, 1, bcells m⟩) (hl : m.length ≤ len) : out h [] (n + 1) (.psl b v 0 len) = .sl 1 (bcells m) := by
  rw [out_psl hb rfl, List.drop_zero, bcells_take, List.take_of_length_le hl, bcells_frz]
theorem out_ints {h : List Blk} {n b v len : Nat} {m : List Int} (hb : h[b]? = some ⟨v, 1, cells m⟩) (hl : m.length ≤ len) : out h [] (n + 1) (.psl b v 0 len) = .sl 1 (cells m) := by
  rw [out_psl hb rfl, List.drop_zero, cells_take, List.take_of_length_le hl, cells_frz]
theorem WS.dev2 {k b v len b' v' len' : Nat} {h : List Blk} {n m : List Int} (hk : k = 0) (h1 : h[b]? = some ⟨v, 1, cells n⟩) (l1 : n.length ≤ len) (h2 : h[b']? = some ⟨v', 1, bcells m⟩) (l2 : m.length ≤ len') :
    WeakS k (.agg [.psl b v 0 len, .psl b' v' 0 len']) h (dev n m) [] :=
  WS.drop (n := 1) hk (by rw [out_agg]; simp only [List.map]; rw [out_ints h1 l1, out_bytes h2 l2])
theorem WS.dev2t {k b v len b' v' len' : Nat} {h : List Blk} {n m : List Int} {x : Value} (hk : k = 0) (h1 : h[b]? = some ⟨v, 1, cells n⟩) (l1 : n.length ≤ len) (h2 : h[b']? = some ⟨v', 1, bcells m⟩) (l2 : m.length ≤ len') :
    WeakS k (.tup [.agg [.psl b v 0 len, .psl b' v' 0 len'], .c x]) h (.tup [dev n m, .c x]) [] :=
  WS.drop (n := 1) hk (by rw [out_tup]; simp only [List.map]; rw [out_agg]; simp only [List.map]; rw [out_ints h1 l1, out_bytes h2 l2]; rfl)
theorem bget {m : List Int} {i : Nat} (hi : i < m.length) : (bcells m)[i]? = some [.c (.int .u8 (m.getD i 0))] := by
  rw [bcells_get, List.getElem?_eq_getElem hi, List.getD_eq_getElem?_getD, List.getElem?_eq_getElem hi]; rfl
theorem iget {m : List Int} {i : Nat} (hi : i < m.length) : (cells m)[i]? = some [.c (.int .i64 (m.getD i 0))] := by
  rw [cells_get, List.getElem?_eq_getElem hi, List.getD_eq_getElem?_getD, List.getElem?_eq_getElem hi]; rfl
theorem Sub.b {u v : Bool} (h : u = true ↔ v = true) : Sub (.c (.bool u)) (.c (.bool v)) := by rw [Bool.eq_iff_iff.2 h]; exact .rfl
theorem Sub.c {u v : Value} (h : u = v) : Sub (.c u) (.c v) := by rw [h]; exact .rfl
theorem T.eqnP {ne : Bool} {x : AO} {b ver off len : Nat} {B : Blk} (hx : x.ev (lk fr) = .psl b ver off len) (hb : h[b]? = some B) (hv : B.ver = ver ∧ 0 < len) (hK : WOpsT P rest (tr ++ [([b], [])]) (put fr d (.c (.bool ne))) h K) : WOpsT P (⟨d, .eqn ne x, none⟩ :: rest) tr fr h K :=
  T.pure nofun nofun (by simp only [stepA, hx, hb]; rw [if_pos hv]) hK
theorem T.eqnN {ne : Bool} {x : AO} (hx : x.ev (lk fr) = .c (.slice none 0 0)) (hK : WOpsT P rest (tr ++ [([], [])]) (put fr d (.c (.bool (!ne)))) h K) : WOpsT P (⟨d, .eqn ne x, none⟩ :: rest) tr fr h K :=
  T.pure nofun nofun (by simp only [stepA, hx]) hK
theorem T.eqnS {ne : Bool} {x : AO} {e : Nat} {rows : List (List V)} (hx : x.ev (lk fr) = .sl e rows) (hl : 0 < rows.length) (hK : WOpsT P rest (tr ++ [([], [])]) (put fr d (.c (.bool ne))) h K) : WOpsT P (⟨d, .eqn ne x, none⟩ :: rest) tr fr h K :=
  T.pure nofun nofun (by simp only [stepA, hx]; rw [if_pos hl]) hK
/-! ### Ways that meet -/
theorem N.cuN {id : Option Nat} {C : Fr → List Blk → Prop} (hA : C fr h) : RK P k (.cut id C :: st) Q .normal fr h := hA
theorem N.cuE {id : Option Nat} {i : Nat} {C : Fr → List Blk → Prop} (hi : some i = id) (hA : C fr h) : RK P k (.cut id C :: st) Q (.exit i) fr h := by
  simp only [RK]; rw [if_pos hi]; exact hA
theorem N.cuX {id : Option Nat} {i : Nat} {C : Fr → List Blk → Prop} (hi : some i ≠ id) (hA : RK P k st Q (.exit i) fr h) : RK P k (.cut id C :: st) Q (.exit i) fr h := by
  simp only [RK]; rw [if_neg hi]; exact hA
theorem N.cuR {id : Option Nat} {C : Fr → List Blk → Prop} (hA : RK P k st Q .ret fr h) : RK P k (.cut id C :: st) Q .ret fr h := hA
def wkst : List KF → Bool
  | .seq _ :: _ => true
  | .block _ :: st => wkst st
  | _ => false
theorem RK.weak : ∀ {st : List KF}, wkst st = true → ∀ {fr fr1 : Fr} {h h1 : List Blk}, Weaks k fr h fr1 h1 → RK P k st Q .normal fr1 h1 → RK P k st Q .normal fr h := by
  intro st
  induction st with
  | nil => intro h; cases h
  | cons f st ih =>
    intro hw fr fr1 h h1 hW hR
    cases f with
    | seq b => exact N.seqN (N.weak hW hR)
    | block id => exact N.blkN (ih hw hW hR)
    | loop C => cases hw
    | cut id C => cases hw
/-- A block all of whose ways meet in one state. -/
theorem N.blockC {id : Nat} {b : AC} (fr1 : Fr) (h1 : List Blk) (hw : wkst st = true) (hA : ∀ C : Fr → List Blk → Prop, (∀ fr h, Weaks k fr h fr1 h1 → C fr h) → AK P k b (.cut (some id) C :: st) Q fr h) (hR : RK P k st Q .normal fr1 h1) : AK P k (.block id b) st Q fr h := by
  have := hA (fun fr h => RK P k st Q .normal fr h) (fun fr h hW => RK.weak hw hW hR)
  refine N.block ?_
  unfold AK at this ⊢
  refine AW.same (fun e fr h => ?_) this
  cases e <;> simp [RK]
/-- Code all of whose ways meet in one state, and what comes behind it. -/
theorem N.seqC {a b : AC} (fr1 : Fr) (h1 : List Blk) (hA : ∀ C : Fr → List Blk → Prop, (∀ fr h, Weaks k fr h fr1 h1 → C fr h) → AK P k a (.cut none C :: st) Q fr h) (hR : AK P k b st Q fr1 h1) : AK P k (.seq a b) st Q fr h := by
  have := hA (fun fr h => AKW P k b st Q fr h) (fun fr h hW => N.weak hW (N.now hR))
  refine N.seq ?_
  unfold AK at this ⊢
  refine AW.same (fun e fr h => ?_) this
  cases e <;> simp [RK, AKW]
theorem setAll_self (h : List Blk) (perm : List Nat) (hnd : perm.Nodup) (hlt : ∀ b ∈ perm, b < h.length) : setAll h perm (perm.map fun b => h.getD b default) = h := by
  apply List.ext_getElem?
  intro i
  rw [setAll_get _ _ _ _ hnd (by simp) hlt]
  cases hp : pos perm i with
  | none => rfl
  | some j =>
    have hj := pos_get hp
    have hi := hlt i (List.mem_of_getElem? hj)
    simp only [List.getElem?_map, hj, Option.map_some]
    rw [List.getD_eq_getElem?_getD, List.getElem?_eq_getElem hi]; rfl
/-- A call that leaves the blocks that it is passed as they were: they count as read. -/
theorem T.callQ (perm : List Nat) {f : FuncId} {args : List AO} {vs : List V} {r : V} {hin hout : List Blk} (he : enters P f = true) (hv : args.map (AO.ev (lk fr)) = vs) (hF : FnE P f (vs.map (pas perm)) hin r hout)
    (hH : pasH h perm = hin) (hp : permOk h.length perm = true) (hl : (hout.length == perm.length + (hout.drop perm.length).length) = true) (hver : ((hout.drop perm.length).all fun k => Nat.blt 0 k.ver) = true)
    (hS : (hout.take perm.length).map (renB (perm ++ upto h.length (hout.drop perm.length).length)) = perm.map fun b => h.getD b default)
    (hK : WOpsT P rest (tr ++ [(perm, upto h.length (hout.drop perm.length).length)]) (put fr d (ren (perm ++ upto h.length (hout.drop perm.length).length) r)) (h ++ (hout.drop perm.length).map (renB (perm ++ upto h.length (hout.drop perm.length).length))) K) :
    WOpsT P (⟨d, .call f args, none⟩ :: rest) tr fr h K := by
  obtain ⟨h1, h2⟩ := permOk_ok hp
  subst hH; subst hv
  have hl' : hout.length = perm.length + (hout.drop perm.length).length := by simpa using hl
  have hb := back_all h perm hout _ h1 h2 hl' _ rfl
  rw [hS, setAll_self h perm h1 h2] at hb
  simp only [WOpsT, WOpT]
  refine ⟨perm, (hout.drop perm.length).length, r, hout, upto h.length (hout.drop perm.length).length, h1, h2, hl', fun k hk => ?_, he, hF, ⟨fun b hb => List.mem_append_right _ hb, fun b hm hn => ?_⟩, ?_⟩
  · rw [List.all_eq_true] at hver
    have := hver k hk; simpa using this
  · have hbp : b ∈ perm := by
      rcases List.mem_append.1 hm with h | h
      · exact h
      · exact absurd h hn
    refine ⟨hbp, h2 b hbp, ?_⟩
    rw [hb, List.getElem?_append_left (h2 b hbp)]
  · rw [hb]; exact hK
end
end Go.Proofs.Ytjmmompbmjhkpaa.Calc
