/- The calculus, part 19: a function's contract out of its code. No condition beyond those in each lemma. -/
import Derived.Test.YtjmmompbmjhkpaaCalcI
import Derived.Below
namespace Go.Proofs.Ytjmmompbmjhkpaa.Calc
open Go
variable {X : Nat → Prop}

inductive AR where
  | t (i : Nat)
  | cell (n : Option Nat) (i : Nat)
  deriving Inhabited

def compRes (P : Program) : ResultVar → Option AR
  | .tmp t => some (.t t)
  | .cell a t => (aggOf P t).map fun n => .cell n a

def resOne (fr : Fr) (h : List Blk) : AR → Option V
  | .t i => some (lk fr i)
  | .cell n i => match stepA (.ld n (.t i)) (AO.ev (lk fr)) (fun b => h[b]?) h.length with
    | some (x, _, _, _) => some x
    | none => none
def tupOf : List V → V
  | [x] => x
  | l => .tup l
def resV (ars : List AR) (fr : Fr) (h : List Blk) : Option V := (ars.mapM (resOne fr h)).map tupOf

/-- A function's end said in less: blocks of its own are dropped, or kept as new ones; slices in them become trees. -/
def WeakV (k : Nat) (x : V) (h : List Blk) (r : V) (h' : List Blk) : Prop :=
  ∃ (ids : List Nat) (m : Nat), ids.Nodup ∧ (∀ b ∈ ids, b < h.length) ∧ (∀ b, b < k → ids[b]? = some b) ∧ h' = outH h ids m ∧ r = out h ids m x

def enter : Nat → List V → Fr
  | _, [] => []
  | i, v :: vs => (i, v) :: enter (i + 1) vs

theorem lk_enter : ∀ (vs : List V) (k i : Nat), lk (enter k vs) i = if k ≤ i then (vs[i - k]?).getD .any else .any := by
  intro vs
  induction vs with
  | nil => intro k i; simp [enter, lk]
  | cons v vs ih =>
    intro k i
    simp only [enter, lk, ih]
    by_cases h : k = i
    · subst h; simp
    · rw [if_neg h]
      by_cases h1 : k ≤ i
      · rw [if_pos h1, if_pos (by omega)]
        have : i - k = (i - (k + 1)) + 1 := by omega
        rw [this]; rfl
      · rw [if_neg h1, if_neg (by omega)]

section
variable {P : Program}

theorem run_asAddr {t : TypeId} {v cv : Value} {w : World} (h : (Instr.loadAt t v).run P w = .ok cv w) : (do loadVar t (← asAddr v)).run P w = .ok cv w := by
  cases v with
  | pointer a =>
    cases a with
    | none => simp [Instr.loadAt, Instr.sureAddr] at h
    | some a => simpa [Instr.loadAt, Instr.sureAddr, asAddr] using h
  | _ => simp [Instr.loadAt, Instr.sureAddr] at h

def resF (tmps : Array Value) : ResultVar → Sem Value
  | .tmp t => pure (tmps.getD t undef)
  | .cell a t => do loadVar t (← asAddr (tmps.getD a undef))
theorem results_eq (fn : Func) (tmps : Array Value) : results fn tmps = (do
    let vs ← fn.results.mapM (resF tmps)
    pure (if h : vs.size = 1 then vs[0] else .tuple vs)) := rfl

theorem res_run {w : World} {ι : List Place} {fr : Fr} {h : List Blk} {a : Act} (H : HRel X w ι h) (hs : SlRel X w ι (lk fr) a) : ∀ (rs : List ResultVar) (ars : List AR) (xs : List V), rs.mapM (compRes P) = some ars → ars.mapM (resOne fr h) = some xs →
    ∃ vs : List Value, (rs.mapM (resF a.tmps)).run P w = .ok vs w ∧ vs.length = xs.length ∧ ∀ (i : Nat) (v : Value) (x : V), vs[i]? = some v → xs[i]? = some x → Rel w (OX X ι) ι v x := by
  intro rs
  induction rs with
  | nil =>
    intro ars xs h1 h2
    simp at h1; subst h1
    simp at h2; subst h2
    exact ⟨[], by simp, rfl, by simp⟩
  | cons r rs ih =>
    intro ars xs h1 h2
    simp only [List.mapM_cons] at h1
    obtain ⟨ar, h3, h1⟩ := bind_some h1
    obtain ⟨ars', h4, h1⟩ := bind_some h1
    cases h1
    simp only [List.mapM_cons] at h2
    obtain ⟨x, h5, h2⟩ := bind_some h2
    obtain ⟨xs', h6, h2⟩ := bind_some h2
    cases h2
    obtain ⟨vs, g1, g2, g3⟩ := ih ars' xs' h4 h6
    have one : ∃ v, (resF a.tmps r).run P w = .ok v w ∧ Rel w (OX X ι) ι v x := by
      cases r with
      | tmp t =>
        simp only [compRes, Option.some.injEq] at h3; subst h3
        simp only [resOne, Option.some.injEq] at h5; subst h5
        exact ⟨_, rfl, hs t⟩
      | cell ad t =>
        simp only [compRes] at h3
        obtain ⟨m, h7, rfl⟩ := Option.map_eq_some_iff.1 h3
        simp only [resOne] at h5
        split at h5
        · rename_i x' ups news R hst
          cases h5
          obtain ⟨⟨cv, r1, r2⟩, _⟩ := st_ld_same H h7 (hs ad) hst (fun b _ => rfl)
          exact ⟨cv, run_asAddr r1, r2⟩
        · cases h5
    obtain ⟨v, r1, r2⟩ := one
    refine ⟨v :: vs, ?_, by simp [g2], fun i u y hu hy => ?_⟩
    · rw [List.mapM_cons, Sem.run_bind, r1]
      simp only [Result.andThen_ok, Sem.run_bind, g1, Sem.run_pure]
    · cases i with
      | zero => simp at hu hy; subst hu; subst hy; exact r2
      | succ i => exact g3 i u y (by simpa using hu) (by simpa using hy)

theorem results_run {w : World} {ι : List Place} {fr : Fr} {h : List Blk} {a : Act} (H : HRel X w ι h) (hs : SlRel X w ι (lk fr) a) {fn : Func} {ars : List AR} {x : V} (hr : fn.results.toList.mapM (compRes P) = some ars) (hx : resV ars fr h = some x) :
    ∃ v, (results fn a.tmps).run P w = .ok v w ∧ Rel w (OX X ι) ι v x := by
  obtain ⟨xs, h1, rfl⟩ := Option.map_eq_some_iff.1 hx
  obtain ⟨vs, g1, g2, g3⟩ := res_run (P := P) H hs _ _ _ hr h1
  have hm : (fn.results.mapM (resF a.tmps)).run P w = .ok vs.toArray w := by
    rw [Array.mapM_eq_mapM_toList, Sem.run_map, g1]; rfl
  rw [results_eq, Sem.run_bind, hm]
  simp only [Result.andThen_ok, Sem.run_pure]
  by_cases hl : vs.length = 1
  · obtain ⟨v, rfl⟩ := List.length_eq_one_iff.1 hl
    obtain ⟨y, rfl⟩ := List.length_eq_one_iff.1 (show xs.length = 1 by rw [← g2]; rfl)
    exact ⟨v, by simp, g3 0 v y rfl rfl⟩
  · refine ⟨.tuple vs.toArray, by simp [hl], ?_⟩
    have : tupOf xs = .tup xs := by
      cases xs with
      | nil => rfl
      | cons y ys => cases ys with
        | nil => simp at g2; omega
        | cons z zs => rfl
    rw [this]
    exact .tup (by simpa using g2) (fun i c y hc hy => g3 i c y (by simpa using hc) hy)

theorem fn_body {f : FuncId} {fn : Func} {ac : AC} {vars : List (Nat × List Nat)} {ars : List AR} {args : List V} {h0 : List Blk} {r : V} {h' : List Blk}
    (hf : P.funcs[f]? = some fn) (hbc : fn.body.bind (compC P fn.ntmps vars) = some ac) (hn : args.length ≤ fn.ntmps) (hr : fn.results.toList.mapM (compRes P) = some ars)
    (hA : AW P h0.length ac (fun e fr h => (e = .ret ∨ e = .normal) ∧ ∃ x, resV ars fr h = some x ∧ WeakV h0.length x h r h') (enter 0 args) h0) : FnE P f args h0 r h' := by
  intro X w ι vs H hsz hargs
  obtain ⟨c, hb, hc⟩ := Option.bind_eq_some_iff.1 hbc
  refine calls_of_wp hf hb ?_
  have hS : St X w ι fn.ntmps (enter 0 args) h0 { tmps := vs ++ Array.replicate (fn.ntmps - vs.size) undef, defers := [] } w := by
    refine ⟨⟨ι, H, Frm.refl _ _, Refs.refl _, fun i => ?_⟩, by simp; omega, rfl⟩
    rw [lk_enter, if_pos (Nat.zero_le _), Nat.sub_zero]
    cases hi : args[i]? with
    | none => exact .any
    | some y =>
      have hlt := (List.getElem?_eq_some_iff.1 hi).1
      have hv : vs[i]? = some (vs[i]'(by omega)) := Array.getElem?_eq_getElem _
      have : (vs ++ Array.replicate (fn.ntmps - vs.size) undef).getD i undef = vs[i]'(by omega) := by
        rw [Array.getD_eq_getD_getElem?, Array.getElem?_append_left (by omega), hv]; rfl
      rw [this]
      exact hargs i _ y hv hi
  have := aw_sound c ac hc _ _ _ _ _ hS (by rw [H.len]; exact hA)
  refine wp_mono this fun e a' w' hL => ?_
  have fin : ∀ fr h, St X w ι fn.ntmps fr h a' w' → (∃ x, resV ars fr h = some x ∧ WeakV h0.length x h r h') →
      a'.defers = [] ∧ ∃ v, (results fn a'.tmps).run P w' = .ok v w' ∧ ∃ v_1 ι', Ending.returned v = .returned v_1 ∧ HRel X w' ι' h' ∧ Rel w' (OX X ι') ι' v_1 r ∧ Frm w (Own ι) w' (Own ι') ∧ Refs ι ι' := by
    rintro fr h ⟨⟨ι1, H1, hF1, hR1, hS1⟩, _, hdef⟩ ⟨x, hx, ids, m, hnd, hlt, hpre, rfl, rfl⟩
    obtain ⟨v, g1, g2⟩ := results_run (P := P) H1 hS1 hr hx
    obtain ⟨ι', rfl, H', hrel, hown⟩ := reindex H1 ids hnd hlt m
    refine ⟨hdef, v, g1, v, _, rfl, H', hrel _ _ g2, ⟨hF1.size, hF1.same, fun r hr => hF1.own r (hown r hr), hF1.os, hF1.tape, hF1.output⟩, fun b p hp => ?_⟩
    obtain ⟨p', h1, h2⟩ := hR1 b p hp
    have hb := (List.getElem?_eq_some_iff.1 hp).1
    refine ⟨p', ?_, h2⟩
    rw [List.getElem?_map, hpre b (by rw [← H.len]; exact hb), Option.map_some, List.getD_eq_getElem?_getD, h1]; rfl
  cases e <;> simp only [Lift] at hL
  · obtain ⟨fr, h, hS', _, hx⟩ := hL; exact fin fr h hS' hx
  · obtain ⟨fr, h, hS', he, _⟩ := hL; rcases he with he | he <;> cases he
  · obtain ⟨fr, h, hS', _, hx⟩ := hL; exact fin fr h hS' hx

/-- A contract without blocks, as a call that leaves all that was there as it was. -/
theorem FnE.calls {f : FuncId} {args : List V} {r : V} {h' : List Blk} (h : FnE P f args [] r h') (w : World) (vs : Array Value) (hsz : vs.size = args.length)
    (hargs : ∀ (i : Nat) (v : Value) (y : V), vs[i]? = some v → args[i]? = some y → Rel w (fun _ => False) [] v y) :
    Calls P f vs w fun e w' => ∃ v ι', e = .returned v ∧ Rel w' (OX (fun _ => False) ι') ι' v r ∧ RowKit.Below w.heap.size w w' := by
  have hO : ∀ r, ¬ Own [] r := by rintro r ⟨p, hp, _⟩; simp at hp
  refine (h (fun _ => False) w [] vs ⟨rfl, by simp, by simp, by simp, fun r hr => hr.elim⟩ hsz (fun i v y hv hy => (hargs i v y hv hy).shrink (fun r hr => by
    rcases hr with hr | hr
    · exact hO r hr
    · exact hr) (Refs.refl _))).mono ?_
  rintro e w' ⟨v, ι', rfl, _, hr, hF, _⟩
  exact ⟨v, ι', rfl, hr, hF.os, hF.tape, hF.output, hF.size, fun k hk => hF.same k hk (hO k)⟩
end
end Go.Proofs.Ytjmmompbmjhkpaa.Calc
