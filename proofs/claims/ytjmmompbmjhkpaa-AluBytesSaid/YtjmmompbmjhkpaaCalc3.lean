/- The calculus, part 3: what the model's loads and stores of rows of cells do to a world. No condition beyond those in each lemma. -/
import Derived.Test.YtjmmompbmjhkpaaCalc2
namespace Go.Proofs.Ytjmmompbmjhkpaa.Calc
open Go

theorem add_plain (r o i : Nat) : Addr.add ⟨r, o, none⟩ i = ⟨r, o + i, none⟩ := by
  unfold Addr.add
  split
  · subst_vars; rfl
  · rfl

theorem run_loadCellsFrom {P : Program} {w : World} {r o : Nat} (l : List Value) : ∀ (i : Nat) (acc : Array Value),
    (∀ j v, l[j]? = some v → w.cell? ⟨r, o + i + j, none⟩ = some v) → (loadCellsFrom ⟨r, o, none⟩ i l.length acc).run P w = .ok (acc ++ l.toArray) w := by
  induction l with
  | nil => intro i acc _; simp [loadCellsFrom]
  | cons v l ih =>
    intro i acc h
    simp only [List.length_cons, loadCellsFrom, Sem.run_bind, run_load, add_plain]
    have h0 := h 0 v (by simp)
    rw [Nat.add_zero] at h0
    rw [h0]
    simp only [Result.andThen_ok]
    rw [ih (i + 1) (acc.push v) (fun j u hj => by
      have := h (j + 1) u (by simpa using hj)
      rw [← this]; congr 2; omega)]
    simp
theorem run_loadCells {P : Program} {w : World} {r o : Nat} (l : List Value) (h : ∀ j v, l[j]? = some v → w.cell? ⟨r, o + j, none⟩ = some v) :
    (loadCells ⟨r, o, none⟩ l.length).run P w = .ok l.toArray w := by
  unfold loadCells
  rw [run_loadCellsFrom l 0 #[] (by simpa using h)]
  simp

def splice (c : Array Value) (o : Nat) : List Value → Array Value
  | [] => c
  | v :: vs => splice (c.setIfInBounds o v) (o + 1) vs
theorem splice_size (vs : List Value) : ∀ (c : Array Value) (o : Nat), (splice c o vs).size = c.size := by
  induction vs with
  | nil => intro c o; rfl
  | cons v vs ih => intro c o; simp only [splice]; rw [ih]; simp
theorem splice_get (vs : List Value) : ∀ (c : Array Value) (o i : Nat), o + vs.length ≤ c.size →
    (splice c o vs)[i]? = if o ≤ i ∧ i < o + vs.length then vs[i - o]? else c[i]? := by
  induction vs with
  | nil => intro c o i _; simp only [splice, List.length_nil]; rw [if_neg (by omega)]
  | cons v vs ih =>
    intro c o i h
    simp only [splice, List.length_cons] at h ⊢
    rw [ih _ _ _ (by simp; omega)]
    by_cases h1 : o + 1 ≤ i ∧ i < o + 1 + vs.length
    · rw [if_pos h1, if_pos (by omega)]
      have : i - o = (i - (o + 1)) + 1 := by omega
      rw [this]; rfl
    · rw [if_neg h1, Array.getElem?_setIfInBounds]
      by_cases h2 : o = i
      · subst h2
        rw [if_pos rfl, if_pos (by omega), if_pos (by omega)]; simp
      · rw [if_neg h2, if_neg (by omega)]

def World.row (w : World) (r : Nat) (o : Obj) : World := { w with heap := w.heap.setIfInBounds r o }
@[simp] theorem World.row_size (w : World) (r : Nat) (o : Obj) : (World.row w r o).heap.size = w.heap.size := by simp [World.row]
theorem World.row_get (w : World) (r : Nat) (o : Obj) (h : r < w.heap.size) : (World.row w r o).heap[r]? = some o := by simp [World.row, h]
theorem World.row_other (w : World) (r : Nat) (o : Obj) (i : Nat) (h : i ≠ r) : (World.row w r o).heap[i]? = w.heap[i]? := by
  simp only [World.row, Array.getElem?_setIfInBounds]; rw [if_neg (fun e => h e.symm)]

theorem run_store1 {P : Program} {w : World} {r i : Nat} {c : Array Value} {T : TypeId} {fz : Nat × Nat} {v : Value} (hb : w.heap[r]? = some (.cells c T fz))
    (hi : i < c.size) (hf : ¬ (fz.1 ≤ i ∧ i < fz.2)) (hv : scal v = true) :
    (store ⟨r, i, none⟩ v).run P w = .ok () (World.row w r (.cells (c.setIfInBounds i v) T fz)) := by
  have hc : w.cell? ⟨r, i, none⟩ = some c[i] := by simp [World.cell?, hb, hi]
  have hz : w.frozen? ⟨r, i, none⟩ = false := by
    simp only [World.frozen?, hb]
    simpa using hf
  have hs : w.setCell ⟨r, i, none⟩ v = World.row w r (.cells (c.setIfInBounds i v) T fz) := by
    unfold World.setCell World.row
    congr 1
    apply Array.ext_getElem?
    intro k
    rw [Array.getElem?_modify, Array.getElem?_setIfInBounds]
    by_cases hk : r = k
    · subst hk
      have := (Array.getElem?_eq_some_iff.1 hb).1
      rw [if_pos rfl, if_pos rfl, if_pos this, hb]
      simp
    · rw [if_neg hk, if_neg hk]
  cases v <;> first
    | (simp [scal] at hv; done)
    | (simp only [store, Sem.run, hc, hz, hs]; rfl)

theorem run_storeCells {P : Program} {r o : Nat} {T : TypeId} {fz : Nat × Nat} (vs : List Value) : ∀ (i : Nat) (w : World) (c : Array Value),
    w.heap[r]? = some (.cells c T fz) → o + i + vs.length ≤ c.size → (∀ j, o + i ≤ j → j < o + i + vs.length → ¬ (fz.1 ≤ j ∧ j < fz.2)) → (∀ v ∈ vs, scal v = true) →
    (storeCells ⟨r, o, none⟩ vs i).run P w = .ok () (World.row w r (.cells (splice c (o + i) vs) T fz)) := by
  induction vs with
  | nil =>
    intro i w c hb _ _ _
    simp only [storeCells, splice, Sem.run_pure]
    congr 1
    unfold World.row
    have : w.heap.setIfInBounds r (.cells c T fz) = w.heap := by
      apply Array.ext_getElem?
      intro k
      rw [Array.getElem?_setIfInBounds]
      by_cases hk : r = k
      · subst hk; rw [if_pos rfl, if_pos (Array.getElem?_eq_some_iff.1 hb).1, hb]
      · rw [if_neg hk]
    rw [this]
  | cons v vs ih =>
    intro i w c hb hl hf hs
    simp only [List.length_cons] at hl hf
    have hlt := (Array.getElem?_eq_some_iff.1 hb).1
    simp only [storeCells, Sem.run_bind, add_plain]
    rw [run_store1 hb (by omega) (hf _ (by omega) (by omega)) (hs v (by simp))]
    simp only [Result.andThen_ok]
    rw [ih (i + 1) _ (c.setIfInBounds (o + i) v) (World.row_get _ _ _ hlt) (by simp; omega) (fun j h1 h2 => hf j (by omega) (by omega)) (fun u hu => hs u (by simp [hu]))]
    simp only [World.row, splice]
    congr 2
    rw [Array.setIfInBounds_setIfInBounds, Nat.add_assoc]
end Go.Proofs.Ytjmmompbmjhkpaa.Calc
