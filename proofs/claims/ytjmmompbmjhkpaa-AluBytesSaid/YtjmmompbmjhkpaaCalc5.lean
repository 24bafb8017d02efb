/- The calculus, part 5: what 'stepA' tells of an operation is what the model's operation does: blocks made, values read. No condition beyond those in each lemma. -/
import Derived.Test.YtjmmompbmjhkpaaCalc4
namespace Go.Proofs.Ytjmmompbmjhkpaa.Calc
open Go
variable {X : Nat → Prop}

def appU (h : List Blk) : List (Nat × Blk) → List Blk
  | [] => h
  | (b, k) :: r => appU (h.set b k) r
def appN (h : List Blk) (c : Nat) : List Blk → List Blk
  | [] => h
  | k :: r => appN (h.set c k) (c + 1) r

/-- What an operation that leaves a value does. -/
def OkV (X : Nat → Prop) (P : Program) (w : World) (ι : List Place) (s : Sem Value) (x : V) (h' : List Blk) : Prop :=
  ∃ cv w' ι', s.run P w = .ok cv w' ∧ HRel X w' ι' h' ∧ Rel w' (OX X ι') ι' cv x ∧ Frm w (Own ι) w' (Own ι') ∧ Refs ι ι'
def Ok (X : Nat → Prop) (P : Program) (w : World) (ι : List Place) (s : Sem Next) (x : V) (h' : List Blk) : Prop :=
  ∃ nx cv w' ι', s.run P w = .ok nx w' ∧ (nx = .value cv ∨ (nx = .skip ∧ cv = undef)) ∧ HRel X w' ι' h' ∧ Rel w' (OX X ι') ι' cv x ∧ Frm w (Own ι) w' (Own ι') ∧ Refs ι ι'
theorem OkV.ok {P : Program} {w : World} {ι : List Place} {s : Sem Value} {x : V} {h' : List Blk} (h : OkV X P w ι s x h') : Ok X P w ι (do pure (.value (← s))) x h' := by
  obtain ⟨cv, w', ι', h1, h2⟩ := h
  exact ⟨.value cv, cv, w', ι', by simp [h1], .inl rfl, h2⟩
theorem OkV.same {P : Program} {w : World} {ι : List Place} {s : Sem Value} {x : V} {h : List Blk} (H : HRel X w ι h) {cv : Value} (hr : s.run P w = .ok cv w) (hx : Rel w (OX X ι) ι cv x) : OkV X P w ι s x h :=
  ⟨cv, w, ι, hr, H, hx, Frm.refl _ _, Refs.refl _⟩

theorem HRel.at {w : World} {ι : List Place} {h : List Blk} (H : HRel X w ι h) {b : Nat} {k : Blk} (hb : h[b]? = some k) : ∃ p, ι[b]? = some p ∧ BRel w (OX X ι) ι p k := by
  have hl : b < ι.length := by rw [H.len]; exact (List.getElem?_eq_some_iff.1 hb).1
  exact ⟨ι[b], List.getElem?_eq_getElem hl, H.blk b _ k (List.getElem?_eq_getElem hl) hb⟩

theorem mk_block {w : World} {ι : List Place} {h : List Blk} (H : HRel X w ι h) {c : Nat} (hnew : ∃ k, h[c]? = some k ∧ k.ver = 0) (T : TypeId) (cs : Array Value) (rows : List (List V)) (esz cap : Nat)
    (h3 : 0 < esz) (hn : rows.length ≤ cap) (hrows : ∀ row ∈ rows, row.length = esz) (hsz : cap * esz ≤ cs.size)
    (hcells : ∀ i j x, cellOf rows i j = some x → ∃ v, cs[i * esz + j]? = some v ∧ scal v = true ∧ Rel w (OX X ι) ι v x) :
    ∃ ι' : List Place, HRel X (w.alloc (.cells cs T)) ι' (h.set c ⟨1, esz, rows⟩) ∧ Frm w (Own ι) (w.alloc (.cells cs T)) (Own ι') ∧ Refs ι ι' ∧ ι'[c]? = some ⟨w.heap.size, 0, esz, rows.length, cap, 1, true⟩ := by
  obtain ⟨k, hk, hv⟩ := hnew
  obtain ⟨p, hp, B⟩ := H.at hk
  have hlt := (List.getElem?_eq_some_iff.1 hp).1
  have := H.set (w' := w.alloc (.cells cs T)) hp ⟨w.heap.size, 0, esz, rows.length, cap, 1, true⟩ ⟨1, esz, rows⟩
    (by simp) (fun r hr _ => by simp only [World.alloc, Array.getElem?_push]; rw [if_neg (by omega)]) rfl rfl rfl
    (fun _ => .inr (Nat.le_refl _)) (.inr (by show p.ver < 1; rw [← B.ver, hv]; decide)) rfl rfl h3 rfl hn hrows
    (fun _ => ⟨cs, T, (0, 0), by show (w.heap.push _)[w.heap.size]? = _; simp, by simpa using hsz, fun j _ _ => by simp, fun i j x hx => by
      obtain ⟨v, h1, h2⟩ := hcells i j x hx
      exact ⟨v, by simpa using h1, h2⟩⟩) (by simp)
  exact ⟨_, this.1, this.2.1, this.2.2, by rw [List.getElem?_set, if_pos rfl, if_pos hlt]⟩

/-- The cells of a value. -/
theorem vcells_rel {w : World} {ι : List Place} {h : List Blk} (H : HRel X w ι h) {bl : Nat → Option Blk} {v : Value} {x : V} {l : List V} (hx : Rel w (OX X ι) ι v x) (hl : vcells bl x = some l)
    (hbl : ∀ b ∈ vlook x, bl b = h[b]?) :
    v.cells.size = l.length ∧ (∀ (i : Nat) (c : Value), v.cells[i]? = some c → scal c = true) ∧ (∀ (i : Nat) (c : Value) (y : V), v.cells[i]? = some c → l[i]? = some y → Rel w (OX X ι) ι c y) := by
  have single : ∀ {v : Value} {y : V}, scal v = true → Rel w (OX X ι) ι v y → some [y] = some l →
      v.cells.size = l.length ∧ (∀ (i : Nat) (c : Value), v.cells[i]? = some c → scal c = true) ∧ (∀ (i : Nat) (c : Value) (z : V), v.cells[i]? = some c → l[i]? = some z → Rel w (OX X ι) ι c z) := by
    intro v y hs hy he
    cases he
    have e : v.cells = #[v] := by cases v <;> first | rfl | (simp [scal] at hs)
    rw [e]
    refine ⟨rfl, fun i c hc => ?_, fun i c z hc hz => ?_⟩
    · cases i with
      | zero => simp at hc; rw [← hc]; exact hs
      | succ i => simp at hc
    · cases i with
      | zero => simp at hc hz; rw [← hc, ← hz]; exact hy
      | succ i => simp at hc
  cases x with
  | any => simp [vcells] at hl
  | tup vs => simp [vcells] at hl
  | agg cs =>
    simp only [vcells, Option.some.injEq] at hl; subst hl
    cases hx with
    | agg h1 h2 h3 => exact ⟨h1, h2, h3⟩
  | c u =>
    simp only [vcells] at hl
    by_cases hs : scal u = true
    · rw [if_pos hs] at hl
      cases hx
      exact single hs .c hl
    · rw [if_neg hs] at hl; cases hl
  | sl e r =>
    simp only [vcells] at hl
    refine single ?_ hx hl
    cases hx <;> rfl
  | dp r k =>
    simp only [vcells] at hl
    refine single ?_ hx hl
    cases hx <;> rfl
  | fn f cs =>
    simp only [vcells] at hl
    refine single ?_ hx hl
    cases hx <;> rfl
  | ifc t v =>
    simp only [vcells] at hl
    refine single ?_ hx hl
    cases hx <;> rfl
  | bit =>
    simp only [vcells] at hl
    refine single ?_ hx hl
    cases hx <;> rfl
  | psl b ver off len =>
    simp only [vcells] at hl
    have hb := hbl b (by simp [vlook])
    rw [hb] at hl
    cases hk : h[b]? with
    | none => rw [hk] at hl; cases hl
    | some k =>
      rw [hk] at hl
      dsimp only at hl
      by_cases hv : k.ver = ver
      · rw [if_pos hv] at hl
        refine single ?_ hx hl
        cases hx with
        | psl p hp hle hP =>
          obtain ⟨a, cap, rfl, _⟩ := hP (by rw [← hv]; exact (H.blk b p k hp hk).ver)
          rfl
      · rw [if_neg hv] at hl; cases hl
  | ptr b ver r q =>
    simp only [vcells] at hl
    have hb := hbl b (by simp [vlook])
    rw [hb] at hl
    cases hk : h[b]? with
    | none => rw [hk] at hl; cases hl
    | some k =>
      rw [hk] at hl
      dsimp only at hl
      by_cases hv : k.ver = ver
      · rw [if_pos hv] at hl
        refine single ?_ hx hl
        cases hx with
        | ptr p hp hle hP =>
          obtain ⟨_, rfl⟩ := hP (by rw [← hv]; exact (H.blk b p k hp hk).ver)
          rfl
      · rw [if_neg hv] at hl; cases hl

/-- A pointer into a block that is current. -/
theorem ptr_at {w : World} {ι : List Place} {h : List Blk} (H : HRel X w ι h) {b ver r k : Nat} {v : Value} {B : Blk} (hx : Rel w (OX X ι) ι v (.ptr b ver r k)) (hb : h[b]? = some B) (hv : B.ver = ver) :
    ∃ p, ι[b]? = some p ∧ p.ver = ver ∧ p.real = true ∧ v = .pointer (some ⟨p.row, p.off + r * p.esz + k, none⟩) ∧ BRel w (OX X ι) ι p B := by
  cases hx with
  | ptr p hp hle hP =>
    have B' := H.blk b p B hp hb
    have e : ver = p.ver := by rw [← hv]; exact B'.ver
    obtain ⟨h1, h2⟩ := hP e
    exact ⟨p, hp, e.symm, h1, h2, B'⟩
theorem psl_at {w : World} {ι : List Place} {h : List Blk} (H : HRel X w ι h) {b ver off len : Nat} {v : Value} {B : Blk} (hx : Rel w (OX X ι) ι v (.psl b ver off len)) (hb : h[b]? = some B) (hv : B.ver = ver) :
    ∃ p, ι[b]? = some p ∧ p.ver = ver ∧ PslRel p off len v ∧ BRel w (OX X ι) ι p B := by
  cases hx with
  | psl p hp hle hP =>
    have B' := H.blk b p B hp hb
    have e : ver = p.ver := by rw [← hv]; exact B'.ver
    exact ⟨p, hp, e.symm, hP e, B'⟩

theorem run_sizeOf {P : Program} {t : TypeId} {s : Nat} (h : szOf P t = some s) (w : World) : (sizeOf t).run P w = .ok s w := by
  unfold szOf at h
  obtain ⟨i, h1, h2⟩ := Option.map_eq_some_iff.1 h
  simp [sizeOf, typeInfo, h1, h2]
theorem run_isAgg {P : Program} {t : TypeId} {n : Option Nat} (h : aggOf P t = some n) (w : World) :
    (isAgg t).run P w = .ok n.isSome w ∧ (∀ m, n = some m → (sizeOf t).run P w = .ok m w) := by
  unfold aggOf at h
  split at h
  · rename_i hu hi; cases h
    exact ⟨by simp [isAgg, run_underlying hu], fun m hm => by cases hm; simp [sizeOf, typeInfo, hi]⟩
  · rename_i hu hi; cases h
    exact ⟨by simp [isAgg, run_underlying hu], fun m hm => by cases hm; simp [sizeOf, typeInfo, hi]⟩
  · rename_i d i h1 h2 hu hi
    cases h
    refine ⟨?_, fun m hm => by cases hm⟩
    simp only [isAgg, Sem.run_bind, run_underlying hu, Result.andThen_ok]
    cases d <;> first | rfl | (exfalso; first | exact h1 _ rfl | exact h2 _ _ rfl | exact h1 _ _ rfl | (apply h1; rfl) | (apply h2; rfl))
  · cases h
theorem run_zeroValue {P : Program} {t : TypeId} {z : List Value} (h : zeroOf P t = some z) (w : World) :
    ∃ v, (zeroValue t).run P w = .ok v w ∧ v.cells = z.toArray ∧ z.all scal = true ∧ szOf P t = some z.length := by
  unfold zeroOf at h
  cases hi : P.info? t with
  | none => rw [hi] at h; cases h
  | some i =>
    rw [hi] at h
    dsimp only at h
    cases hz : i.zero with
    | none => rw [hz] at h; cases h
    | some v =>
      rw [hz] at h
      dsimp only at h
      split at h
      · rename_i hc
        rw [Bool.and_eq_true] at hc
        cases h
        refine ⟨v, by simp [zeroValue, typeInfo, hi, hz], by simp, by simpa using hc.2, ?_⟩
        have := of_decide_eq_true hc.1
        simp [szOf, hi, this]
      · cases h
end Go.Proofs.Ytjmmompbmjhkpaa.Calc
