/- The calculus, part 27: from a law's arguments, as a statement reads them, to abstract values. No condition beyond those in each lemma. -/
import Derived.Test.YtjmmompbmjhkpaaCalcQ
import Derived.SizedLaws
import Derived.ChangeSlices
import Derived.OpenShut
import Derived.WalkKit
import Derived.ProofKit
import Derived.ChangeOld
import Derived.Below
namespace Go.Proofs.Ytjmmompbmjhkpaa.Calc
open Go
open Go.ChangeShapes Go.WideShapes
def Rels (w : World) : List Value → List V → Prop
  | [], [] => True
  | v :: vs, y :: ys => Rel w (fun _ => False) [] v y ∧ Rels w vs ys
  | _, _ => False
theorem Rels.get {w : World} : ∀ {vs : List Value} {ys : List V}, Rels w vs ys → vs.length = ys.length ∧ ∀ (i : Nat) (v : Value) (y : V), vs[i]? = some v → ys[i]? = some y → Rel w (fun _ => False) [] v y := by
  intro vs
  induction vs with
  | nil => intro ys h; cases ys with
    | nil => exact ⟨rfl, fun i v y h => by simp at h⟩
    | cons _ _ => exact h.elim
  | cons v vs ih =>
    intro ys h
    cases ys with
    | nil => exact h.elim
    | cons y ys =>
      obtain ⟨h1, h2⟩ := h
      obtain ⟨g1, g2⟩ := ih h2
      refine ⟨by simp [g1], fun i u z hu hz => ?_⟩
      cases i with
      | zero => simp at hu hz; subst hu; subst hz; exact h1
      | succ i => exact g2 i u z (by simpa using hu) (by simpa using hz)
theorem FnE.callsR {P : Program} {f : FuncId} {args : List V} {r : Value} (h : FnE P f args [] (.c r) []) (w : World) (vs : List Value) (hr : Rels w vs args) : Calls P f vs.toArray w fun e w' => e = .returned r ∧ RowKit.Below w.heap.size w w' := by
  obtain ⟨h1, h2⟩ := hr.get
  refine (h.calls w vs.toArray (by simpa using h1) (fun i v y hv hy => h2 i v y (by simpa using hv) hy)).mono ?_
  rintro e w' ⟨v, ι', rfl, hr, hb⟩
  exact ⟨by rw [hr.c_eq], hb⟩
/-- A slice of whole numbers, as an argument. -/
theorem ints_rel {H : Type} {enc : TypeId × Value → H} {P : Program} {W : World} {base : Nat} {spare : Nat → Bool} {held : Bool} {t e : TypeId} {k : IntKind} {a : Option Addr} {len cap : Nat} {d : DataW H} {ps : List MemPlace} {ts : List TypeId} {ds : List (DataW H)} {j : Nat}
    (hsz : (DataW.weightsEach P ts ds).all (· ≤ reachBytes) = true) (ht : ts[j]? = some t) (hd : ds[j]? = some d) (hu : P.underlying t = some (.slice e)) (he : P.underlying e = some (.int k)) (hc : P.cellsOf e = 1) {B : Nat} (hB : P.bytesOf e = B)
    (h : DataW.Trod enc P W base spare held t (.slice a len cap) d ps) :
    ∃ l : List Int, Rel W (fun _ => False) [] (.slice a len cap) (.sl 1 (l.map fun n => [.c (.int k n)])) ∧ l.length * B ≤ 140737488351232 ∧ ∀ n ∈ l, (Lit.int k n).wf = true := by
  obtain ⟨fuel, hf⟩ := h
  rcases open_ints hu he hc hf with ⟨hcs, _⟩ | ⟨x, l, c, zs, hcs, _, hl, _, hz, hx, hcell, hwf⟩
  · simp [Value.cells] at hcs
    obtain ⟨rfl, rfl, rfl⟩ := hcs
    exact ⟨[], .slnil, by simp, by simp⟩
  · simp [Value.cells] at hcs
    obtain ⟨rfl, rfl, rfl⟩ := hcs
    obtain ⟨hx, _⟩ := Prod.mk.inj hx
    subst hx
    have z := sized_slice hsz ht hd hu
    rw [hB] at z
    have hl2 : len ≤ zs.length := by
      rw [hz]
      split
      · exact hl
      · exact Nat.le_refl _
    have h1 : (lits (H := H) k (zs.take len)).length + (lits (H := H) k (zs.drop len)).length = zs.length := by
      simp [lits]
      omega
    rw [h1] at z
    have hspot : 0 < zs.length → x.spot = none := by
      intro hi
      have := hcell 0 hi
      rw [show x.add 0 = x by simp [Addr.add]] at this
      unfold World.cell? at this
      cases hs : x.spot with
      | none => rfl
      | some s =>
        rw [hs] at this
        split at this
        · simp at this
        · cases this
    have key : ∀ (i jj : Nat) (y : V), cellOf ((zs.take len).map fun n => [V.c (.int k n)]) i jj = some y → i < len ∧ jj = 0 ∧ y = .c (.int k (zs.getD i 0)) := by
      intro i jj y hy
      unfold cellOf at hy
      rw [List.getElem?_map] at hy
      cases hi : (zs.take len)[i]? with
      | none => rw [hi] at hy; simp at hy
      | some n =>
        rw [hi] at hy
        rw [List.getElem?_take] at hi
        split at hi
        · rename_i hlt
          simp only [Option.map_some, Option.bind_some] at hy
          cases jj with
          | zero =>
            simp at hy
            refine ⟨hlt, rfl, ?_⟩
            rw [List.getD_eq_getElem?_getD, hi, ← hy]; rfl
          | succ jj => simp at hy
        · cases hi
    refine ⟨zs.take len, .sl (fun i _ => .int k (zs.getD i 0)) (by simp; omega) hl (fun h0 => hspot (by omega)) (fun row hr => by obtain ⟨n, _, rfl⟩ := List.mem_map.1 hr; rfl) (fun i jj y hy => ?_) (fun i jj y hy => ?_), ?_, fun n hn => hwf n (List.mem_of_mem_take hn)⟩
    · obtain ⟨hlt, rfl, rfl⟩ := key i jj y hy
      refine ⟨fun h => h, ?_, rfl⟩
      have := hcell i (by omega)
      have hs := hspot (by omega)
      obtain ⟨blk, off, spot⟩ := x
      dsimp only at hs; subst hs
      have e : (⟨blk, off, none⟩ : Addr).add i = ⟨blk, off + i * 1 + 0, none⟩ := by
        unfold Addr.add
        split
        · rename_i h0; subst h0; simp
        · simp
      rw [e] at this
      exact this
    · obtain ⟨hlt, rfl, rfl⟩ := key i jj y hy
      exact .c
    · rw [List.length_take]
      exact Nat.le_trans (Nat.mul_le_mul_right _ (Nat.le_trans (Nat.min_le_right _ _) (Nat.le_refl _))) z
/-! ### What a seat's own words say, without reckoning through its whole text -/
abbrev cutW : List Char := [Char.ofNat 99, Char.ofNat 117, Char.ofNat 116]
theorem mkCut (P : Program) (r : List (List Char)) (h : behindMainWord (wordsSigns P.initOrder.toList) = cutW :: r) : P.make = some .cut := by
  unfold Program.make
  rw [h]
  rfl
theorem hlCut (P : Program) (r : List (List Char)) (h : behindMainWord (wordsSigns P.initOrder.toList) = cutW :: r) : P.headLifts = [] := by
  unfold Program.headLifts
  rw [h]
  rfl
theorem lfCut (P : Program) (r : List (List Char)) (h : behindMainWord (wordsSigns P.initOrder.toList) = cutW :: r) : P.liftsFinal = false := by
  unfold Program.liftsFinal
  rw [h, hlCut P r h]
  rfl
theorem meCut (P : Program) (r : List (List Char)) (h : behindMainWord (wordsSigns P.initOrder.toList) = cutW :: r) (h1 : P.laysLater = false) (h2 : P.bearsReflect = false) (h3 : P.doorFits [] = true) : P.mayEnter = true := by
  unfold Program.mayEnter
  rw [h]
  dsimp only
  rw [show stripLifts liftWords (cutW :: r) = ([], cutW :: r) from rfl, h1, h2, h3]
  rfl
theorem andT {a b : Bool} (h1 : a = true) (h2 : b = true) : (a && b) = true := by rw [h1, h2]; rfl
end Go.Proofs.Ytjmmompbmjhkpaa.Calc
