/- The calculus, part 16: operations one behind the other. 'WOps' tells what must hold of abstract values so that a region without open order does what is wanted. No condition beyond those in each lemma. -/
import Derived.Test.YtjmmompbmjhkpaaCalcF
namespace Go.Proofs.Ytjmmompbmjhkpaa.Calc
open Go
variable {X : Nat → Prop}

abbrev Fr := List (Nat × V)
def lk : Fr → Nat → V
  | [], _ => .any
  | (j, v) :: r, i => if j = i then v else lk r i
def put (fr : Fr) : Option Nat → V → Fr
  | some d, v => (d, v) :: fr
  | none, _ => fr
/-- Only these slots are kept. -/
def keep (l : List Nat) (fr : Fr) : Fr := l.map fun i => (i, lk fr i)

structure AOper where
  dst : Option Nat
  op : AOp
  guard : Option (Nat × Bool)
  deriving Inhabited

def dum : Blk := ⟨0, 1, []⟩
def upto (c : Nat) : Nat → List Nat
  | 0 => []
  | m + 1 => c :: upto (c + 1) m

/-- A call: which blocks are passed, how many come back as new ones, the result. -/
def CallOk (P : Program) (f : FuncId) (args : List V) (h : List Blk) (K : V → List Blk → Prop) : Prop :=
  ∃ (perm : List Nat) (m : Nat) (r : V) (hout : List Blk), perm.Nodup ∧ (∀ b ∈ perm, b < h.length) ∧ hout.length = perm.length + m ∧ (∀ k ∈ hout.drop perm.length, 0 < k.ver) ∧
    enters P f = true ∧ FnE P f (args.map (pas perm)) (pasH h perm) r hout ∧
    K (ren (perm ++ upto h.length m) r) (back (h ++ List.replicate m dum) (perm ++ upto h.length m) hout)

/-- A method of what an interface value holds: the function, and its receiver. -/
def invOf (tab : List (TypeId × FuncId)) : V → Option (FuncId × V)
  | .ifc t v => (lookT tab t).map fun f => (f, v)
  | _ => none
/-- One operation. -/
def WOp (P : Program) (op : AOp) (fr : Fr) (h : List Blk) (K : V → List Blk → Prop) : Prop :=
  match op with
  | .call f args => CallOk P f (args.map (AO.ev (lk fr))) h K
  | .callc x args => match (x.ev (lk fr)) with
    | .fn f caps => CallOk P f (args.map (AO.ev (lk fr)) ++ caps) h K
    | _ => False
  | .inv tab x args => match invOf tab (x.ev (lk fr)) with
    | some (f, v) => CallOk P f (v :: args.map (AO.ev (lk fr))) h K
    | none => False
  | .xcall f args => ∃ r, ExtE P f (args.map (AO.ev (lk fr))) r ∧ K r h
  | op => match stepA op (AO.ev (lk fr)) (fun b => h[b]?) h.length with
    | some (x, ups, news, _) => K x (appU h ups ++ news)
    | none => False

def WOps (P : Program) : List AOper → Fr → List Blk → (Fr → List Blk → Prop) → Prop
  | [], fr, h, K => K fr h
  | o :: rest, fr, h, K =>
    match o.guard with
    | none => WOp P o.op fr h fun x h' => WOps P rest (put fr o.dst x) h' K
    | some (g, want) => match lk fr g with
      | .c (.bool b) => if b = want then WOp P o.op fr h fun x h' => WOps P rest (put fr o.dst x) h' K
          else WOps P rest (put fr o.dst (.c undef)) h K
      | .c (.tuple _) => WOps P rest (put fr o.dst (.c undef)) h K
      | _ => False

/-- The state of an activation: w0 and ι0 as it began; n slots. -/
structure St (X : Nat → Prop) (w0 : World) (ι0 : List Place) (n : Nat) (fr : Fr) (h : List Blk) (a : Act) (w : World) : Prop where
  ex : ∃ ι, HRel X w ι h ∧ Frm w0 (Own ι0) w (Own ι) ∧ Refs ι0 ι ∧ SlRel X w ι (lk fr) a
  size : a.tmps.size = n
  defers : a.defers = []

theorem SlRel.mono {w w' : World} {ι ι' : List Place} {sl : Nat → V} {a : Act} (h : SlRel X w ι sl a) (hF : Frm w (Own ι) w' (Own ι')) (hR : Refs ι ι') : SlRel X w' ι' sl a :=
  fun i => (h i).mono (hF.x X) hR

theorem SlRel.put {w : World} {ι : List Place} {fr : Fr} {a : Act} (h : SlRel X w ι (lk fr) a) (dst : Option Nat) {v : Value} {x : V} (hx : Rel w (OX X ι) ι v x) (hd : ∀ d, dst = some d → d < a.tmps.size) :
    SlRel X w ι (lk (put fr dst x)) (a.put dst v) := by
  intro i
  cases dst with
  | none => exact h i
  | some d =>
    have hd := hd d rfl
    simp only [Calc.put, lk, Act.put]
    by_cases hi : d = i
    · subst hi
      rw [if_pos rfl]
      have : (a.tmps.setIfInBounds d v).getD d undef = v := by
        rw [Array.getD_eq_getD_getElem?, Array.getElem?_setIfInBounds, if_pos rfl, if_pos hd]; rfl
      rw [this]; exact hx
    · rw [if_neg hi]
      have : (a.tmps.setIfInBounds d v).getD i undef = a.tmps.getD i undef := by
        rw [Array.getD_eq_getD_getElem?, Array.getD_eq_getD_getElem?, Array.getElem?_setIfInBounds, if_neg hi]
      rw [this]; exact h i

/-- Placeholders for blocks that will be made. -/
theorem HRel.dums {w : World} {ι : List Place} {h : List Blk} (H : HRel X w ι h) (m : Nat) : ∃ ι', HRel X w ι' (h ++ List.replicate m dum) ∧ Refs ι ι' ∧ (∀ r, Own ι' r → Own ι r) := by
  induction m with
  | zero => exact ⟨ι, by simpa using H, Refs.refl _, fun _ h => h⟩
  | succ m ih =>
    obtain ⟨ι1, H1, h2, h3⟩ := ih
    have := H1.push (w' := w) ⟨0, 0, 1, 0, 0, 0, false⟩ dum (Nat.le_refl _) (fun _ _ => rfl) rfl rfl rfl (by simp) rfl rfl (by decide) rfl (Nat.le_refl _) (by simp [dum]) (by simp) (fun _ => rfl)
    refine ⟨_, ?_, h2.trans this.2.2, fun r hr => ?_⟩
    · have e : h ++ List.replicate (m + 1) dum = h ++ List.replicate m dum ++ [dum] := by rw [List.replicate_succ', List.append_assoc]
      rw [e]; exact this.1
    · obtain ⟨p, hp, hpr, rfl⟩ := hr
      rw [List.mem_append] at hp
      rcases hp with hp | hp
      · exact h3 _ ⟨p, hp, hpr, rfl⟩
      · simp at hp; subst hp; simp at hpr

theorem upto_get (m : Nat) : ∀ (c i : Nat), (upto c m)[i]? = if i < m then some (c + i) else none := by
  induction m with
  | zero => intro c i; simp [upto]
  | succ m ih =>
    intro c i
    cases i with
    | zero => simp [upto]
    | succ i =>
      simp only [upto, List.getElem?_cons_succ, ih]
      by_cases h : i < m
      · rw [if_pos h, if_pos (by omega)]; congr 1; omega
      · rw [if_neg h, if_neg (by omega)]
theorem upto_len (m : Nat) : ∀ c, (upto c m).length = m := by
  induction m with
  | zero => intro c; rfl
  | succ m ih => intro c; simp [upto, ih]
theorem upto_mem {c m b : Nat} (h : b ∈ upto c m) : c ≤ b ∧ b < c + m := by
  obtain ⟨i, hi⟩ := List.mem_iff_getElem?.1 h
  rw [upto_get] at hi
  split at hi
  · cases hi; omega
  · cases hi
theorem upto_nodup (m : Nat) : ∀ c, (upto c m).Nodup := by
  induction m with
  | zero => intro c; simp [upto]
  | succ m ih =>
    intro c
    simp only [upto, List.nodup_cons]
    exact ⟨fun h => by have := (upto_mem h).1; omega, ih _⟩

theorem appN_dums (news : List Blk) : ∀ (h : List Blk), appN (h ++ List.replicate news.length dum) h.length news = h ++ news := by
  induction news with
  | nil => intro h; simp [appN]
  | cons k news ih =>
    intro h
    simp only [appN, List.length_cons]
    have e : (h ++ List.replicate (news.length + 1) dum).set h.length k = (h ++ [k]) ++ List.replicate news.length dum := by
      rw [List.replicate_succ, List.set_append_right _ _ (Nat.le_refl _)]; simp
    rw [e]
    have := ih (h ++ [k])
    rw [List.length_append, List.length_singleton] at this
    rw [this]; simp
theorem appU_append (ups : List (Nat × Blk)) : ∀ (h t : List Blk), (∀ u ∈ ups, u.1 < h.length) → appU (h ++ t) ups = appU h ups ++ t := by
  induction ups with
  | nil => intro h t _; rfl
  | cons u ups ih =>
    intro h t hu
    obtain ⟨b, k⟩ := u
    simp only [appU]
    rw [List.set_append_left _ _ (hu (b, k) (by simp)), ih _ _ (fun u hm => by rw [List.length_set]; exact hu u (by simp [hm]))]
theorem appU_length (ups : List (Nat × Blk)) : ∀ (h : List Blk), (appU h ups).length = h.length := by
  induction ups with
  | nil => intro h; rfl
  | cons u ups ih => intro h; simp only [appU]; rw [ih, List.length_set]

/-- What 'stepA' turns, it has looked at. -/
theorem ups_in {op : AOp} {ev : AO → V} {bl : Nat → Option Blk} {c : Nat} {x : V} {ups : List (Nat × Blk)} {news : List Blk} {R : List Nat} (hst : stepA op ev bl c = some (x, ups, news, R)) :
    ∀ u ∈ ups, u.1 ∈ R ∧ (bl u.1).isSome = true := by
  have nil : ups = [] → ∀ u ∈ ups, u.1 ∈ R ∧ (bl u.1).isSome = true := by rintro rfl u hu; simp at hu
  cases op <;> simp only [stepA] at hst
  all_goals first
    | (exact nil (pureS_eq hst).2.1)
    | (repeat' split at hst) <;> first
        | (cases hst; done)
        | (cases hst; exact nil rfl)
        | (obtain ⟨_, _, hst⟩ := Option.map_eq_some_iff.1 hst; cases hst; exact nil rfl)
        | (cases hst; intro u hu; simp at hu; subst hu; simp_all)
end Go.Proofs.Ytjmmompbmjhkpaa.Calc
