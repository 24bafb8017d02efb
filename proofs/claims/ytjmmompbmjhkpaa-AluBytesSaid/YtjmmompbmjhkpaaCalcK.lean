/- The calculus, part 20: a region whose order is open: one run in the text's order serves if operations that touch the same slots or blocks are ordered. No condition beyond those in each lemma. -/
import Derived.Test.YtjmmompbmjhkpaaCalcH
import Derived.Orders
namespace Go.Proofs.Ytjmmompbmjhkpaa.Calc
open Go
variable {X : Nat → Prop}

def aoS : AO → List Nat
  | .t i => [i]
  | _ => []
def optS : Option AO → List Nat
  | some x => aoS x
  | none => []
/-- The slots that an operation reads. -/
def slotsOf : AOp → List Nat
  | .clr _ x | .i2s x | .s2b x | .mv x | .nilc x | .eqn _ x | .not x | .neg x | .xorn x | .cvt _ x | .new _ x | .ld _ x | .fad _ x | .fld _ _ x | .ext x _ | .len x | .lens x | .capx x | .mki _ x => aoS x
  | .pick a b c => aoS a ++ aoS b ++ aoS c
  | .eqs _ _ x y | .bin _ x y | .eqb _ x y | .st _ x y | .mksl _ _ x y | .idx _ _ x y | .ixa _ _ _ x y | .ixs x y | .copy _ x y | .app _ _ x y => aoS x ++ aoS y
  | .zero _ | .lenc _ | .bad => []
  | .build _ ps => ps.flatMap fun p => aoS p.2.2
  | .bsl _ _ ps => ps.flatMap fun p => aoS p.2
  | .slc _ x l h | .slcs x l h => aoS x ++ optS l ++ optS h
  | .mnx _ xs => xs.flatMap aoS
  | .mkf _ xs | .call _ xs | .xcall _ xs => xs.flatMap aoS
  | .callc x xs | .inv _ x xs => aoS x ++ xs.flatMap aoS

theorem ev_congr {sl sl' : Nat → V} {x : AO} (h : ∀ i ∈ aoS x, sl i = sl' i) : x.ev sl = x.ev sl' := by
  cases x with
  | t i => exact h i (by simp [aoS])
  | k v => rfl
  | f g => rfl
theorem fillP_congr {bl : Nat → Option Blk} {sl sl' : Nat → V} : ∀ (ps : List (Nat × Nat × AO)) (cs : List V), (∀ i ∈ ps.flatMap (fun p => aoS p.2.2), sl i = sl' i) → fillP bl (AO.ev sl) cs ps = fillP bl (AO.ev sl') cs ps := by
  intro ps
  induction ps with
  | nil => intro cs _; rfl
  | cons p ps ih =>
    intro cs h
    obtain ⟨o, s, x⟩ := p
    have hx : x.ev sl = x.ev sl' := ev_congr fun i hi => h i (by simp [hi])
    have hr := fun cs => ih cs fun i hi => h i (by simp only [List.flatMap_cons, List.mem_append]; exact .inr hi)
    simp only [fillP, hx, hr]
theorem fillR_congr {bl : Nat → Option Blk} {sl sl' : Nat → V} {e : Nat} : ∀ (ps : List (Nat × AO)) (cs : List (List V)), (∀ i ∈ ps.flatMap (fun p => aoS p.2), sl i = sl' i) → fillR bl (AO.ev sl) e cs ps = fillR bl (AO.ev sl') e cs ps := by
  intro ps
  induction ps with
  | nil => intro cs _; rfl
  | cons p ps ih =>
    intro cs h
    obtain ⟨s, x⟩ := p
    have hx : x.ev sl = x.ev sl' := ev_congr fun i hi => h i (by simp [hi])
    have hr := fun cs => ih cs fun i hi => h i (by simp only [List.flatMap_cons, List.mem_append]; exact .inr hi)
    simp only [fillR, hx, hr]
theorem mnx_congr {sl sl' : Nat → V} {m : Bool} : ∀ (xs : List AO) (acc : Option V), (∀ i ∈ xs.flatMap aoS, sl i = sl' i) → xs.foldl (mnxF m (AO.ev sl)) acc = xs.foldl (mnxF m (AO.ev sl')) acc := by
  intro xs
  induction xs with
  | nil => intro acc _; rfl
  | cons x xs ih =>
    intro acc h
    have hx : x.ev sl = x.ev sl' := ev_congr fun i hi => h i (by simp [hi])
    simp only [List.foldl_cons]
    have : mnxF m (AO.ev sl) acc x = mnxF m (AO.ev sl') acc x := by simp only [mnxF, hx]
    rw [this]
    exact ih _ fun i hi => h i (by simp only [List.flatMap_cons, List.mem_append]; exact .inr hi)
theorem map_congr {sl sl' : Nat → V} (xs : List AO) (h : ∀ i ∈ xs.flatMap aoS, sl i = sl' i) : xs.map (AO.ev sl) = xs.map (AO.ev sl') := by
  apply List.map_congr_left
  intro x hx
  exact ev_congr fun i hi => h i (List.mem_flatMap.2 ⟨x, hx, hi⟩)
theorem opt_congr {sl sl' : Nat → V} (x : Option AO) (h : ∀ i ∈ optS x, sl i = sl' i) : (x.map fun l => ofInt (AO.ev sl l)) = x.map fun l => ofInt (AO.ev sl' l) := by
  cases x with
  | none => rfl
  | some x => simp only [Option.map_some]; rw [ev_congr h]

theorem stepA_congr {sl sl' : Nat → V} {bl : Nat → Option Blk} {c : Nat} {op : AOp} (h : ∀ i ∈ slotsOf op, sl i = sl' i) : stepA op (AO.ev sl) bl c = stepA op (AO.ev sl') bl c := by
  cases op with
  | pick a b d =>
    have h1 : a.ev sl = a.ev sl' := ev_congr fun i hi => h i (by simp [slotsOf, hi])
    have h2 : b.ev sl = b.ev sl' := ev_congr fun i hi => h i (by simp [slotsOf, hi])
    have h3 : d.ev sl = d.ev sl' := ev_congr fun i hi => h i (by simp [slotsOf, hi])
    simp only [stepA, h1, h2, h3]
  | build z ps => simp only [stepA, fillP_congr ps _ h]
  | bsl z n ps => simp only [stepA, fillR_congr ps _ h]
  | slc e x l hh =>
    have h1 : x.ev sl = x.ev sl' := ev_congr fun i hi => h i (by simp [slotsOf, hi])
    have h2 := opt_congr (sl := sl) (sl' := sl') l fun i hi => h i (by simp [slotsOf, hi])
    have h3 := opt_congr (sl := sl) (sl' := sl') hh fun i hi => h i (by simp [slotsOf, hi])
    simp only [stepA, h1, h2, h3]
  | slcs x l hh =>
    have h1 : x.ev sl = x.ev sl' := ev_congr fun i hi => h i (by simp [slotsOf, hi])
    have h2 := opt_congr (sl := sl) (sl' := sl') l fun i hi => h i (by simp [slotsOf, hi])
    have h3 := opt_congr (sl := sl) (sl' := sl') hh fun i hi => h i (by simp [slotsOf, hi])
    simp only [stepA, h1, h2, h3]
  | mnx m xs =>
    cases xs with
    | nil => rfl
    | cons x xs =>
      have h1 : x.ev sl = x.ev sl' := ev_congr fun i hi => h i (by simp [slotsOf, hi])
      have h2 := fun acc => mnx_congr (m := m) xs acc fun i hi => h i (by simp only [slotsOf, List.flatMap_cons, List.mem_append]; exact .inr hi)
      simp only [stepA, h1, h2]
  | mkf f xs => simp only [stepA, map_congr xs h]
  | zero => rfl
  | lenc => rfl
  | call => rfl
  | callc => rfl
  | inv => rfl
  | xcall => rfl
  | bad => rfl
  | clr z x =>
    have h1 : x.ev sl = x.ev sl' := ev_congr fun i hi => h i (by simp [slotsOf, hi])
    simp only [stepA, h1]
  | eqs ks n x y =>
    have h1 : x.ev sl = x.ev sl' := ev_congr fun i hi => h i (by simp [slotsOf, hi])
    have h2 : y.ev sl = y.ev sl' := ev_congr fun i hi => h i (by simp [slotsOf, hi])
    simp only [stepA, h1, h2]
  | bin op x y =>
    have h1 : x.ev sl = x.ev sl' := ev_congr fun i hi => h i (by simp [slotsOf, hi])
    have h2 : y.ev sl = y.ev sl' := ev_congr fun i hi => h i (by simp [slotsOf, hi])
    simp only [stepA, h1, h2]
  | eqb n x y =>
    have h1 : x.ev sl = x.ev sl' := ev_congr fun i hi => h i (by simp [slotsOf, hi])
    have h2 : y.ev sl = y.ev sl' := ev_congr fun i hi => h i (by simp [slotsOf, hi])
    simp only [stepA, h1, h2]
  | st n x y =>
    have h1 : x.ev sl = x.ev sl' := ev_congr fun i hi => h i (by simp [slotsOf, hi])
    have h2 : y.ev sl = y.ev sl' := ev_congr fun i hi => h i (by simp [slotsOf, hi])
    simp only [stepA, h1, h2]
  | mksl z b x y =>
    have h1 : x.ev sl = x.ev sl' := ev_congr fun i hi => h i (by simp [slotsOf, hi])
    have h2 : y.ev sl = y.ev sl' := ev_congr fun i hi => h i (by simp [slotsOf, hi])
    simp only [stepA, h1, h2]
  | idx e a x y =>
    have h1 : x.ev sl = x.ev sl' := ev_congr fun i hi => h i (by simp [slotsOf, hi])
    have h2 : y.ev sl = y.ev sl' := ev_congr fun i hi => h i (by simp [slotsOf, hi])
    simp only [stepA, h1, h2]
  | ixa l e n x y =>
    have h1 : x.ev sl = x.ev sl' := ev_congr fun i hi => h i (by simp [slotsOf, hi])
    have h2 : y.ev sl = y.ev sl' := ev_congr fun i hi => h i (by simp [slotsOf, hi])
    simp only [stepA, h1, h2]
  | ixs x y =>
    have h1 : x.ev sl = x.ev sl' := ev_congr fun i hi => h i (by simp [slotsOf, hi])
    have h2 : y.ev sl = y.ev sl' := ev_congr fun i hi => h i (by simp [slotsOf, hi])
    simp only [stepA, h1, h2]
  | copy e x y =>
    have h1 : x.ev sl = x.ev sl' := ev_congr fun i hi => h i (by simp [slotsOf, hi])
    have h2 : y.ev sl = y.ev sl' := ev_congr fun i hi => h i (by simp [slotsOf, hi])
    simp only [stepA, h1, h2]
  | app e b x y =>
    have h1 : x.ev sl = x.ev sl' := ev_congr fun i hi => h i (by simp [slotsOf, hi])
    have h2 : y.ev sl = y.ev sl' := ev_congr fun i hi => h i (by simp [slotsOf, hi])
    simp only [stepA, h1, h2]
  | ext x i =>
    have h1 : x.ev sl = x.ev sl' := ev_congr fun i hi => h i (by simp [slotsOf, hi])
    simp only [stepA, h1]
  | _ =>
    rename_i x
    first
      | (have h1 : AO.ev sl x = AO.ev sl' x := ev_congr fun i hi => h i (by simpa [slotsOf] using hi)
         simp only [stepA, h1])
      | skip
end Go.Proofs.Ytjmmompbmjhkpaa.Calc
