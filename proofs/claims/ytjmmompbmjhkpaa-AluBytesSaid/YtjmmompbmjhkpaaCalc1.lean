/- The calculus, part 1: abstract values and blocks, how they lie in the model's memory, what a step may change, and how references are renamed, frozen and dropped. No condition beyond those in each lemma. -/
import Derived.Calls
import Derived.Laws.World
import Derived.Laws.Sem
namespace Go.Proofs.Ytjmmompbmjhkpaa.Calc
open Go

/-- Abstract values. -/
inductive V where
  | any
  | c (v : Value)
  | sl (esz : Nat) (rows : List (List V))
  | psl (b ver off len : Nat)
  | ptr (b ver row col : Nat)
  | dp (row : List V) (col : Nat)
  | agg (cs : List V)
  | tup (vs : List V)
  | fn (f : FuncId) (caps : List V)
  | ifc (t : TypeId) (v : V)
  | bit
  deriving Inhabited

/-- Not an aggregate: what one cell can hold. -/
def scal : Value → Bool
  | .agg _ => false
  | .tuple _ => false
  | _ => true

/-- Where a block lies. -/
structure Place where
  row : Nat
  off : Nat
  esz : Nat
  n : Nat
  cap : Nat
  ver : Nat
  real : Bool
  deriving Inhabited

structure Blk where
  ver : Nat
  esz : Nat
  rows : List (List V)
  deriving Inhabited

def Own (ι : List Place) (r : Nat) : Prop := ∃ p ∈ ι, p.real = true ∧ p.row = r

/-- Rows that trees may not lie in: one's own, and X (a caller's). -/
def OX (X : Nat → Prop) (ι : List Place) (r : Nat) : Prop := Own ι r ∨ X r

def cellOf (rows : List (List V)) (i j : Nat) : Option V := (rows[i]?).bind (·[j]?)

/-- A slice value that lies in a block of one's own. -/
def PslRel (p : Place) (off len : Nat) (v : Value) : Prop :=
  ∃ a cap, v = .slice a len cap ∧ len ≤ cap ∧ off + len ≤ p.n ∧ off + cap ≤ p.cap ∧ (cap = 0 ∨ (p.real = true ∧ a = some ⟨p.row, p.off + off * p.esz, none⟩))

inductive Rel (w : World) (own : Nat → Prop) : List Place → Value → V → Prop
  | any {κ v} : Rel w own κ v .any
  | c {κ v} : Rel w own κ v (.c v)
  | slnil {κ esz} : Rel w own κ (.slice none 0 0) (.sl esz [])
  | sl {κ esz rows} {a : Addr} {len cap : Nat} (cv : Nat → Nat → Value) (hlen : rows.length = len) (hcap : len ≤ cap)
      (hspot : 0 < len → a.spot = none) (hesz : ∀ row ∈ rows, row.length = esz)
      (hc : ∀ i j x, cellOf rows i j = some x → ¬ own a.block ∧ w.cell? ⟨a.block, a.off + i * esz + j, none⟩ = some (cv i j) ∧ scal (cv i j) = true)
      (hr : ∀ i j x, cellOf rows i j = some x → Rel w own [] (cv i j) x) : Rel w own κ (.slice (some a) len cap) (.sl esz rows)
  | psl {κ v b ver off len} (p : Place) (hp : κ[b]? = some p) (hle : ver ≤ p.ver) (h : ver = p.ver → PslRel p off len v) : Rel w own κ v (.psl b ver off len)
  | ptr {κ v b ver row col} (p : Place) (hp : κ[b]? = some p) (hle : ver ≤ p.ver) (h : ver = p.ver → p.real = true ∧ v = .pointer (some ⟨p.row, p.off + row * p.esz + col, none⟩)) : Rel w own κ v (.ptr b ver row col)
  | dp {κ row col} {blk base : Nat} (cv : Nat → Value)
      (hc : ∀ j x, row[j]? = some x → ¬ own blk ∧ w.cell? ⟨blk, base + j, none⟩ = some (cv j) ∧ scal (cv j) = true)
      (hr : ∀ j x, row[j]? = some x → Rel w own [] (cv j) x) : Rel w own κ (.pointer (some ⟨blk, base + col, none⟩)) (.dp row col)
  | agg {κ} {cs : Array Value} {vs : List V} (hl : cs.size = vs.length) (hs : ∀ (i : Nat) (c : Value), cs[i]? = some c → scal c = true) (h : ∀ (i : Nat) (c : Value) (x : V), cs[i]? = some c → vs[i]? = some x → Rel w own κ c x) : Rel w own κ (.agg cs) (.agg vs)
  | tup {κ} {cs : Array Value} {vs : List V} (hl : cs.size = vs.length) (h : ∀ (i : Nat) (c : Value) (x : V), cs[i]? = some c → vs[i]? = some x → Rel w own κ c x) : Rel w own κ (.tuple cs) (.tup vs)
  | fn {κ f} {cs : Array Value} {vs : List V} (hl : cs.size = vs.length) (h : ∀ (i : Nat) (c : Value) (x : V), cs[i]? = some c → vs[i]? = some x → Rel w own κ c x) : Rel w own κ (.func (.func f) #[] cs) (.fn f vs)
  | ifc {κ t v x} (h : Rel w own κ v x) : Rel w own κ (.iface t v) (.ifc t x)
  | bit {κ b} : Rel w own κ (.bool b) .bit

/-- What may have changed: blocks that were owned; new blocks. -/
structure Frm (w : World) (o : Nat → Prop) (w' : World) (o' : Nat → Prop) : Prop where
  size : w.heap.size ≤ w'.heap.size
  same : ∀ r, r < w.heap.size → ¬ o r → w'.heap[r]? = w.heap[r]?
  own : ∀ r, o' r → o r ∨ w.heap.size ≤ r
  os : w'.os = w.os
  tape : w'.tape = w.tape
  output : w'.output = w.output

theorem Frm.refl (w : World) (o : Nat → Prop) : Frm w o w o := ⟨Nat.le_refl _, fun _ _ _ => rfl, fun _ h => .inl h, rfl, rfl, rfl⟩
theorem Frm.trans {w w1 w2 : World} {o o1 o2 : Nat → Prop} (h : Frm w o w1 o1) (k : Frm w1 o1 w2 o2) : Frm w o w2 o2 where
  size := Nat.le_trans h.size k.size
  same r hr ho := by
    have h1 : ¬ o1 r := fun h' => by
      rcases h.own r h' with h2 | h2
      · exact ho h2
      · omega
    rw [k.same r (Nat.lt_of_lt_of_le hr h.size) h1, h.same r hr ho]
  own r hr := by
    rcases k.own r hr with h1 | h1
    · exact h.own r h1
    · exact .inr (Nat.le_trans h.size h1)
  os := k.os.trans h.os
  tape := k.tape.trans h.tape
  output := k.output.trans h.output
theorem Frm.weaken {w w' : World} {o o' p p' : Nat → Prop} (h : Frm w o w' o') (h1 : ∀ r, o r → p r) (h2 : ∀ r, p' r → o' r) : Frm w p w' p' :=
  ⟨h.size, fun r hr hp => h.same r hr (fun h' => hp (h1 r h')), fun r hr => (h.own r (h2 r hr)).imp (h1 r) id, h.os, h.tape, h.output⟩

theorem Frm.x {w w' : World} {ι ι' : List Place} (X : Nat → Prop) (h : Frm w (Own ι) w' (Own ι')) : Frm w (OX X ι) w' (OX X ι') :=
  ⟨h.size, fun r hr ho => h.same r hr (fun h' => ho (.inl h')), fun r hr => by
    rcases hr with hr | hr
    · exact (h.own r hr).imp .inl id
    · exact .inl (.inr hr), h.os, h.tape, h.output⟩

/-- References stay what they are, or become void. -/
def Refs (κ κ' : List Place) : Prop := ∀ (b : Nat) (p : Place), κ[b]? = some p → ∃ p' : Place, κ'[b]? = some p' ∧ (p' = p ∨ p.ver < p'.ver)
theorem Refs.refl (κ : List Place) : Refs κ κ := fun _ p h => ⟨p, h, .inl rfl⟩
theorem Refs.nil (κ : List Place) : Refs [] κ := fun _ _ h => by simp at h
theorem Refs.trans {a b c : List Place} (h : Refs a b) (k : Refs b c) : Refs a c := fun i p hp => by
  obtain ⟨p1, h1, h2⟩ := h i p hp
  obtain ⟨p2, h3, h4⟩ := k i p1 h1
  refine ⟨p2, h3, ?_⟩
  rcases h2 with rfl | h2 <;> rcases h4 with rfl | h4
  · exact .inl rfl
  · exact .inr h4
  · exact .inr h2
  · exact .inr (Nat.lt_trans h2 h4)
theorem Refs.snoc (κ : List Place) (l : List Place) : Refs κ (κ ++ l) := fun b p h => ⟨p, by
  rw [List.getElem?_append_left]; exact h
  exact (List.getElem?_eq_some_iff.1 h).1, .inl rfl⟩

theorem cell_same {w w' : World} {a : Addr} {v : Value} (h : w'.heap[a.block]? = w.heap[a.block]?) (hc : w.cell? a = some v) : w'.cell? a = some v := by
  unfold World.cell? at *; rw [h]; exact hc

theorem Rel.mono {w w' : World} {own own' : Nat → Prop} (hF : Frm w own w' own') {κ : List Place} {v : Value} {x : V} (h : Rel w own κ v x) :
    ∀ {κ' : List Place}, Refs κ κ' → Rel w' own' κ' v x := by
  induction h with
  | any => intro _ _; exact .any
  | bit => intro _ _; exact .bit
  | c => intro _ _; exact .c
  | slnil => intro _ _; exact .slnil
  | @sl κ esz rows a len cap cv hlen hcap hspot hesz hc hr ih =>
    intro κ' _
    refine .sl cv hlen hcap hspot hesz (fun i j x hx => ?_) (fun i j x hx => ih i j x hx (Refs.refl _))
    obtain ⟨h1, h2, h4⟩ := hc i j x hx
    have hlt : a.block < w.heap.size := World.block_lt_of_cell? w ⟨a.block, _, none⟩ h2
    refine ⟨fun h' => ?_, cell_same (a := ⟨a.block, _, none⟩) (hF.same _ hlt h1) h2, h4⟩
    rcases hF.own _ h' with h3 | h3
    · exact h1 h3
    · omega
  | psl p hp hle h =>
    intro κ' hR
    obtain ⟨p', h1, h2⟩ := hR _ _ hp
    rcases h2 with rfl | h2
    · exact .psl _ h1 hle h
    · exact .psl _ h1 (by omega) (by omega)
  | ptr p hp hle h =>
    intro κ' hR
    obtain ⟨p', h1, h2⟩ := hR _ _ hp
    rcases h2 with rfl | h2
    · exact .ptr _ h1 hle h
    · exact .ptr _ h1 (by omega) (by omega)
  | @dp κ row col blk base cv hc hr ih =>
    intro κ' _
    refine .dp cv (fun j x hx => ?_) (fun j x hx => ih j x hx (Refs.refl _))
    obtain ⟨h1, h2, h4⟩ := hc j x hx
    have hlt : blk < w.heap.size := World.block_lt_of_cell? w ⟨blk, _, none⟩ h2
    refine ⟨fun h' => ?_, cell_same (a := ⟨blk, _, none⟩) (hF.same _ hlt h1) h2, h4⟩
    rcases hF.own _ h' with h3 | h3
    · exact h1 h3
    · omega
  | agg hl hs _ ih => intro κ' hR; exact .agg hl hs fun i c x h1 h2 => ih i c x h1 h2 hR
  | tup hl _ ih => intro κ' hR; exact .tup hl fun i c x h1 h2 => ih i c x h1 h2 hR
  | fn hl _ ih => intro κ' hR; exact .fn hl fun i c x h1 h2 => ih i c x h1 h2 hR
  | ifc _ ih => intro κ' hR; exact .ifc (ih hR)

/-- The cells of a block as they lie in the world. -/
def CellsRel (w : World) (own : Nat → Prop) (κ : List Place) (p : Place) (rows : List (List V)) (c : Array Value) (fz : Nat × Nat) : Prop :=
  p.off + p.cap * p.esz ≤ c.size ∧ (∀ j, p.off ≤ j → j < p.off + p.cap * p.esz → ¬ (fz.1 ≤ j ∧ j < fz.2)) ∧
    ∀ i j x, cellOf rows i j = some x → ∃ v, c[p.off + i * p.esz + j]? = some v ∧ scal v = true ∧ Rel w own κ v x

structure BRel (w : World) (own : Nat → Prop) (κ : List Place) (p : Place) (k : Blk) : Prop where
  ver : k.ver = p.ver
  esz : k.esz = p.esz
  pos : 0 < p.esz
  num : k.rows.length = p.n
  fit : p.n ≤ p.cap
  rows : ∀ row ∈ k.rows, row.length = p.esz
  cells : p.real = true → ∃ c T fz, w.heap[p.row]? = some (.cells c T fz) ∧ CellsRel w own κ p k.rows c fz
  virt : p.real = false → p.cap = 0

variable {X : Nat → Prop}
structure HRel (X : Nat → Prop) (w : World) (ι : List Place) (h : List Blk) : Prop where
  len : ι.length = h.length
  blk : ∀ (b : Nat) (p : Place) (k : Blk), ι[b]? = some p → h[b]? = some k → BRel w (OX X ι) ι p k
  sep : ∀ (b b' : Nat) (p p' : Place), ι[b]? = some p → ι[b']? = some p' → p.real = true → p'.real = true → p.row = p'.row → b = b'
  xsep : ∀ (b : Nat) (p : Place), ι[b]? = some p → p.real = true → ¬ X p.row
  xlt : ∀ r, X r → r < w.heap.size

theorem CellsRel.mono {w w' : World} {own own' : Nat → Prop} {κ κ' : List Place} {p : Place} {rows : List (List V)} {c : Array Value} {fz : Nat × Nat}
    (h : CellsRel w own κ p rows c fz) (hF : Frm w own w' own') (hR : Refs κ κ') : CellsRel w' own' κ' p rows c fz :=
  ⟨h.1, h.2.1, fun i j x hx => let ⟨v, h1, h3, h2⟩ := h.2.2 i j x hx; ⟨v, h1, h3, h2.mono hF hR⟩⟩

theorem HRel.row_lt {w : World} {ι : List Place} {h : List Blk} (H : HRel X w ι h) {b : Nat} {p : Place} (hp : ι[b]? = some p) (hr : p.real = true) : p.row < w.heap.size := by
  have hb : b < h.length := by rw [← H.len]; exact (List.getElem?_eq_some_iff.1 hp).1
  obtain ⟨c, T, fz, h1, _⟩ := (H.blk b p _ hp (List.getElem?_eq_getElem hb)).cells hr
  exact (Array.getElem?_eq_some_iff.1 h1).1
theorem Own.of {ι : List Place} {b : Nat} {p : Place} (hp : ι[b]? = some p) (hr : p.real = true) : Own ι p.row := ⟨p, List.mem_of_getElem? hp, hr, rfl⟩
theorem HRel.own_lt {w : World} {ι : List Place} {h : List Blk} (H : HRel X w ι h) {r : Nat} (ho : Own ι r) : r < w.heap.size := by
  obtain ⟨p, hm, hr, rfl⟩ := ho
  obtain ⟨b, hb⟩ := List.mem_iff_getElem?.1 hm
  exact H.row_lt hb hr

/-- A block is written anew, in place or in a new row. -/
theorem HRel.set {w w' : World} {ι : List Place} {h : List Blk} (H : HRel X w ι h) {b : Nat} {p : Place} (hp : ι[b]? = some p) (p' : Place) (k' : Blk)
    (hsize : w.heap.size ≤ w'.heap.size) (hsame : ∀ r, r < w.heap.size → (p.real = true → r ≠ p.row) → w'.heap[r]? = w.heap[r]?)
    (hos : w'.os = w.os) (htape : w'.tape = w.tape) (hout : w'.output = w.output)
    (hrow : p'.real = true → (p.real = true ∧ p'.row = p.row) ∨ w.heap.size ≤ p'.row)
    (hver : p' = p ∨ p.ver < p'.ver)
    (h1 : k'.ver = p'.ver) (h2 : k'.esz = p'.esz) (h3 : 0 < p'.esz) (h4 : k'.rows.length = p'.n) (h4' : p'.n ≤ p'.cap) (h5 : ∀ row ∈ k'.rows, row.length = p'.esz)
    (h6 : p'.real = true → ∃ c T fz, w'.heap[p'.row]? = some (.cells c T fz) ∧ CellsRel w (OX X ι) ι p' k'.rows c fz) (h7 : p'.real = false → p'.cap = 0) :
    HRel X w' (ι.set b p') (h.set b k') ∧ Frm w (Own ι) w' (Own (ι.set b p')) ∧ Refs ι (ι.set b p') := by
  have hbl : b < ι.length := (List.getElem?_eq_some_iff.1 hp).1
  have hown : ∀ r, Own (ι.set b p') r → Own ι r ∨ w.heap.size ≤ r := by
    rintro r ⟨q, hq, hqr, rfl⟩
    obtain ⟨i, hi⟩ := List.mem_iff_getElem?.1 hq
    rw [List.getElem?_set] at hi
    by_cases hib : b = i
    · subst hib
      rw [if_pos rfl, if_pos hbl] at hi
      cases hi
      rcases hrow hqr with ⟨h8, h9⟩ | h8
      · left; rw [h9]; exact Own.of hp h8
      · exact .inr h8
    · rw [if_neg hib] at hi
      exact .inl (Own.of hi hqr)
  have hF : Frm w (Own ι) w' (Own (ι.set b p')) := ⟨hsize, fun r hr ho => hsame r hr (fun hr' e => ho (e ▸ Own.of hp hr')), hown, hos, htape, hout⟩
  have hR : Refs ι (ι.set b p') := by
    intro i q hi
    by_cases hib : b = i
    · subst hib
      rw [hp] at hi; cases hi
      exact ⟨p', by rw [List.getElem?_set, if_pos rfl, if_pos hbl], hver⟩
    · exact ⟨q, by rw [List.getElem?_set, if_neg hib]; exact hi, .inl rfl⟩
  refine ⟨⟨by rw [List.length_set, List.length_set]; exact H.len, ?_, ?_, ?_, fun r hr => Nat.lt_of_lt_of_le (H.xlt r hr) hsize⟩, hF, hR⟩
  · intro i q k hi hk
    rw [List.getElem?_set] at hi hk
    by_cases hib : b = i
    · subst hib
      rw [if_pos rfl, if_pos hbl] at hi
      rw [if_pos rfl, if_pos (by rw [← H.len]; exact hbl)] at hk
      cases hi; cases hk
      refine ⟨h1, h2, h3, h4, h4', h5, fun hr => ?_, h7⟩
      obtain ⟨c, T, fz, g1, g2⟩ := h6 hr
      exact ⟨c, T, fz, g1, g2.mono (hF.x X) hR⟩
    · rw [if_neg hib] at hi hk
      have B := H.blk i q k hi hk
      refine ⟨B.ver, B.esz, B.pos, B.num, B.fit, B.rows, fun hr => ?_, B.virt⟩
      obtain ⟨c, T, fz, g1, g2⟩ := B.cells hr
      refine ⟨c, T, fz, ?_, g2.mono (hF.x X) hR⟩
      rw [hsame q.row (H.row_lt hi hr) (fun hpr e => hib (H.sep b i p q hp hi hpr hr e.symm))]
      exact g1
  · intro i j q q' hi hj hr hr' e
    rw [List.getElem?_set] at hi hj
    by_cases hib : b = i
    · by_cases hjb : b = j
      · omega
      · rw [if_neg hjb] at hj
        subst hib
        rw [if_pos rfl, if_pos hbl] at hi
        cases hi
        rcases hrow hr with ⟨h8, h9⟩ | h8
        · exact absurd (H.sep b j p q' hp hj h8 hr' (by rw [← h9, e])) hjb
        · have := H.row_lt hj hr'; omega
    · rw [if_neg hib] at hi
      by_cases hjb : b = j
      · subst hjb
        rw [if_pos rfl, if_pos hbl] at hj
        cases hj
        rcases hrow hr' with ⟨h8, h9⟩ | h8
        · exact absurd (H.sep b i p q hp hi h8 hr (by rw [← h9, e])) hib
        · have := H.row_lt hi hr; omega
      · rw [if_neg hjb] at hj
        exact H.sep i j q q' hi hj hr hr' e
  · intro i q hi hr hx
    rw [List.getElem?_set] at hi
    by_cases hib : b = i
    · subst hib
      rw [if_pos rfl, if_pos hbl] at hi
      cases hi
      rcases hrow hr with ⟨h8, h9⟩ | h8
      · rw [h9] at hx; exact H.xsep b p hp h8 hx
      · have := H.xlt _ hx; omega
    · rw [if_neg hib] at hi
      exact H.xsep i q hi hr hx

/-- A new block. -/
theorem HRel.push {w w' : World} {ι : List Place} {h : List Blk} (H : HRel X w ι h) (p' : Place) (k' : Blk)
    (hsize : w.heap.size ≤ w'.heap.size) (hsame : ∀ r, r < w.heap.size → w'.heap[r]? = w.heap[r]?)
    (hos : w'.os = w.os) (htape : w'.tape = w.tape) (hout : w'.output = w.output)
    (hrow : p'.real = true → w.heap.size ≤ p'.row)
    (h1 : k'.ver = p'.ver) (h2 : k'.esz = p'.esz) (h3 : 0 < p'.esz) (h4 : k'.rows.length = p'.n) (h4' : p'.n ≤ p'.cap) (h5 : ∀ row ∈ k'.rows, row.length = p'.esz)
    (h6 : p'.real = true → ∃ c T fz, w'.heap[p'.row]? = some (.cells c T fz) ∧ CellsRel w (OX X ι) ι p' k'.rows c fz) (h7 : p'.real = false → p'.cap = 0) :
    HRel X w' (ι ++ [p']) (h ++ [k']) ∧ Frm w (Own ι) w' (Own (ι ++ [p'])) ∧ Refs ι (ι ++ [p']) := by
  have hget : ∀ (i : Nat) (q : Place), (ι ++ [p'])[i]? = some q → ι[i]? = some q ∨ (i = ι.length ∧ q = p') := by
    intro i q hi
    rw [List.getElem?_append] at hi
    by_cases hlt : i < ι.length
    · rw [if_pos hlt] at hi; exact .inl hi
    · rw [if_neg hlt] at hi
      have h0 := (List.getElem?_eq_some_iff.1 hi).1
      simp at h0
      have : i = ι.length := by omega
      subst this
      simp at hi
      exact .inr ⟨rfl, hi.symm⟩
  have hown : ∀ r, Own (ι ++ [p']) r → Own ι r ∨ w.heap.size ≤ r := by
    rintro r ⟨q, hq, hqr, rfl⟩
    rw [List.mem_append] at hq
    rcases hq with hq | hq
    · exact .inl ⟨q, hq, hqr, rfl⟩
    · simp at hq; subst hq; exact .inr (hrow hqr)
  have hF : Frm w (Own ι) w' (Own (ι ++ [p'])) := ⟨hsize, fun r hr _ => hsame r hr, hown, hos, htape, hout⟩
  have hR : Refs ι (ι ++ [p']) := Refs.snoc _ _
  refine ⟨⟨by simp [H.len], ?_, ?_, ?_, fun r hr => Nat.lt_of_lt_of_le (H.xlt r hr) hsize⟩, hF, hR⟩
  · intro i q k hi hk
    rcases hget i q hi with hi | ⟨rfl, rfl⟩
    · have hlt : i < h.length := by rw [← H.len]; exact (List.getElem?_eq_some_iff.1 hi).1
      rw [List.getElem?_append_left hlt] at hk
      have B := H.blk i q k hi hk
      refine ⟨B.ver, B.esz, B.pos, B.num, B.fit, B.rows, fun hr => ?_, B.virt⟩
      obtain ⟨c, T, fz, g1, g2⟩ := B.cells hr
      exact ⟨c, T, fz, by rw [hsame _ (H.row_lt hi hr)]; exact g1, g2.mono (hF.x X) hR⟩
    · rw [H.len, List.getElem?_append_right (Nat.le_refl _)] at hk
      simp at hk; subst hk
      refine ⟨h1, h2, h3, h4, h4', h5, fun hr => ?_, h7⟩
      obtain ⟨c, T, fz, g1, g2⟩ := h6 hr
      exact ⟨c, T, fz, g1, g2.mono (hF.x X) hR⟩
  · intro i j q q' hi hj hr hr' e
    rcases hget i q hi with ki | ⟨ki, rfl⟩ <;> rcases hget j q' hj with kj | ⟨kj, rfl⟩
    · exact H.sep i j q q' ki kj hr hr' e
    · have := H.row_lt ki hr; have := hrow hr'; omega
    · have := H.row_lt kj hr'; have := hrow hr; omega
    · rw [ki, kj]
  · intro i q hi hr hx
    rcases hget i q hi with ki | ⟨ki, rfl⟩
    · exact H.xsep i q ki hr hx
    · have := H.xlt _ hx; have := hrow hr; omega

/-- The world has grown, and nothing that was there has changed. -/
theorem HRel.grown {w w' : World} {ι : List Place} {h : List Blk} (H : HRel X w ι h) (hF : Frm w (Own ι) w' (Own ι)) (hown : ∀ r, Own ι r → w'.heap[r]? = w.heap[r]?) : HRel X w' ι h := by
  refine ⟨H.len, fun b p k hp hk => ?_, H.sep, H.xsep, fun r hr => Nat.lt_of_lt_of_le (H.xlt r hr) hF.size⟩
  have B := H.blk b p k hp hk
  refine ⟨B.ver, B.esz, B.pos, B.num, B.fit, B.rows, fun hr => ?_, B.virt⟩
  obtain ⟨c, T, fz, g1, g2⟩ := B.cells hr
  exact ⟨c, T, fz, by rw [hown _ (Own.of hp hr)]; exact g1, g2.mono (hF.x X) (Refs.refl _)⟩

/-! ### References renamed, frozen, dropped -/
mutual
def V.mapR (gp gq : Nat → Nat → Nat → Nat → V) : V → V
  | .any => .any
  | .bit => .bit
  | .c x => .c x
  | .sl e r => .sl e r
  | .psl b v o l => gp b v o l
  | .ptr b v r k => gq b v r k
  | .dp row k => .dp row k
  | .agg cs => .agg (V.mapL gp gq cs)
  | .tup cs => .tup (V.mapL gp gq cs)
  | .fn f cs => .fn f (V.mapL gp gq cs)
  | .ifc t v => .ifc t (V.mapR gp gq v)
def V.mapL (gp gq : Nat → Nat → Nat → Nat → V) : List V → List V
  | [] => []
  | x :: xs => V.mapR gp gq x :: V.mapL gp gq xs
end
theorem V.mapL_eq (gp gq : Nat → Nat → Nat → Nat → V) (l : List V) : V.mapL gp gq l = l.map (V.mapR gp gq) := by
  induction l with
  | nil => rfl
  | cons x xs ih => simp only [V.mapL, List.map_cons, ih]

theorem Rel.shrink {w : World} {own own' : Nat → Prop} (ho : ∀ r, own' r → own r) {κ κ' : List Place} {v : Value} {x : V} (h : Rel w own κ v x) (hR : Refs κ κ') : Rel w own' κ' v x :=
  h.mono ⟨Nat.le_refl _, fun _ _ _ => rfl, fun r hr => .inl (ho r hr), rfl, rfl, rfl⟩ hR

theorem Rel.mapR {w : World} {own own' : Nat → Prop} (ho : ∀ r, own' r → own r) {gp gq : Nat → Nat → Nat → Nat → V} {κ κ' : List Place} {v : Value} {x : V}
    (h : Rel w own κ v x) (hp : ∀ b n o l cv, Rel w own κ cv (.psl b n o l) → Rel w own' κ' cv (gp b n o l))
    (hq : ∀ b n r c cv, Rel w own κ cv (.ptr b n r c) → Rel w own' κ' cv (gq b n r c)) : Rel w own' κ' v (x.mapR gp gq) := by
  induction h with
  | any => exact .any
  | bit => exact .bit
  | c => exact .c
  | slnil => exact .slnil
  | sl cv hlen hcap hspot hesz hc hr ih =>
    exact .sl cv hlen hcap hspot hesz (fun i j x hx => ⟨fun h' => (hc i j x hx).1 (ho _ h'), (hc i j x hx).2⟩) (fun i j x hx => (hr i j x hx).shrink ho (Refs.refl _))
  | psl p hp' hle h => exact hp _ _ _ _ _ (.psl p hp' hle h)
  | ptr p hp' hle h => exact hq _ _ _ _ _ (.ptr p hp' hle h)
  | dp cv hc hr ih => exact .dp cv (fun j x hx => ⟨fun h' => (hc j x hx).1 (ho _ h'), (hc j x hx).2⟩) (fun j x hx => (hr j x hx).shrink ho (Refs.refl _))
  | agg hl hs _ ih =>
    simp only [V.mapR, V.mapL_eq]
    refine .agg (by simpa using hl) hs fun i c x h1 h2 => ?_
    rw [List.getElem?_map] at h2
    obtain ⟨y, h3, rfl⟩ := Option.map_eq_some_iff.1 h2
    exact ih i c y h1 h3 hp hq
  | tup hl _ ih =>
    simp only [V.mapR, V.mapL_eq]
    refine .tup (by simpa using hl) fun i c x h1 h2 => ?_
    rw [List.getElem?_map] at h2
    obtain ⟨y, h3, rfl⟩ := Option.map_eq_some_iff.1 h2
    exact ih i c y h1 h3 hp hq
  | fn hl _ ih =>
    simp only [V.mapR, V.mapL_eq]
    refine .fn (by simpa using hl) fun i c x h1 h2 => ?_
    rw [List.getElem?_map] at h2
    obtain ⟨y, h3, rfl⟩ := Option.map_eq_some_iff.1 h2
    exact ih i c y h1 h3 hp hq
  | ifc _ ih => simp only [V.mapR]; exact .ifc (ih hp hq)

/-- All references become trees (those to blocks that are kept, and those deeper than n, are forgotten). -/
def frz (h : List Blk) (keep : Nat → Bool) : Nat → V → V
  | 0 => V.mapR (fun _ _ _ _ => .any) (fun _ _ _ _ => .any)
  | n + 1 => V.mapR (fun b ver off len => if keep b then .any else
      match h[b]? with
      | some k => if k.ver = ver then .sl k.esz (((k.rows.drop off).take len).map (·.map (frz h keep n))) else .any
      | none => .any) (fun _ _ _ _ => .any)

theorem cellOf_map (rows : List (List V)) (g : V → V) (i j : Nat) (x : V) (h : cellOf (rows.map (·.map g)) i j = some x) : ∃ y, cellOf rows i j = some y ∧ x = g y := by
  unfold cellOf at *
  rw [List.getElem?_map] at h
  cases hr : rows[i]? with
  | none => rw [hr] at h; simp at h
  | some r =>
    rw [hr] at h
    simp only [Option.map_some, Option.bind_some, List.getElem?_map] at h ⊢
    obtain ⟨y, h1, h2⟩ := Option.map_eq_some_iff.1 h
    exact ⟨y, h1, h2.symm⟩
theorem cellOf_sub (rows : List (List V)) (off len i j : Nat) (x : V) (h : cellOf ((rows.drop off).take len) i j = some x) : cellOf rows (off + i) j = some x := by
  unfold cellOf at *
  rw [List.getElem?_take] at h
  by_cases hi : i < len
  · rw [if_pos hi, List.getElem?_drop] at h; exact h
  · rw [if_neg hi] at h; simp at h

theorem Rel.frz {w : World} {ι : List Place} {h : List Blk} (H : HRel X w ι h) {keep : Nat → Bool} {own' : Nat → Prop}
    (ho : ∀ r, own' r → (∃ b p, ι[b]? = some p ∧ keep b = true ∧ p.real = true ∧ p.row = r) ∨ X r) (n : Nat) :
    ∀ {v : Value} {x : V} {κ' : List Place}, Rel w (OX X ι) ι v x → Rel w own' κ' v (frz h keep n x) := by
  have ho' : ∀ r, own' r → OX X ι r := fun r hr => by
    rcases ho r hr with ⟨b, p, h1, _, h2, rfl⟩ | hx
    · exact .inl (Own.of h1 h2)
    · exact .inr hx
  induction n with
  | zero => intro v x κ' hx; exact hx.mapR ho' (fun _ _ _ _ _ _ => .any) (fun _ _ _ _ _ _ => .any)
  | succ n ih =>
    intro v x κ' hx
    refine hx.mapR ho' (fun b ver off len cv hcv => ?_) (fun _ _ _ _ _ _ => .any)
    by_cases hk : keep b = true
    · rw [if_pos hk]; exact .any
    rw [if_neg hk]
    cases hb : h[b]? with
    | none => exact .any
    | some k =>
      dsimp only
      by_cases hv : k.ver = ver
      · rw [if_pos hv]
        cases hcv with
        | psl p hp hle hP =>
          have B := H.blk b p k hp hb
          obtain ⟨a, cap, rfl, h1, h2, h3, h4⟩ := hP (by rw [← hv, B.ver])
          have hlen : ((k.rows.drop off).take len).length = len := by
            rw [List.length_take, List.length_drop, B.num]; omega
          rcases h4 with rfl | ⟨h4, rfl⟩
          · obtain rfl : len = 0 := by omega
            cases a with
            | none => simp only [List.take_zero, List.map_nil]; exact .slnil
            | some a =>
              simp only [List.take_zero, List.map_nil]
              exact .sl (fun _ _ => undef) rfl (Nat.le_refl _) (by omega) (by simp) (by simp [cellOf]) (by simp [cellOf])
          · obtain ⟨c, T, fz, g1, g2⟩ := B.cells h4
            refine .sl (fun i j => (c[p.off + (off + i) * p.esz + j]?).getD undef) (by simpa using hlen) h1 (fun _ => rfl) ?_ ?_ ?_
            · intro row hrow
              obtain ⟨r, hr, rfl⟩ := List.mem_map.1 hrow
              rw [List.length_map, B.esz]
              exact B.rows r (List.mem_of_mem_drop (List.mem_of_mem_take hr))
            · intro i j x hx
              obtain ⟨y, hy, rfl⟩ := cellOf_map _ _ _ _ _ hx
              obtain ⟨cv, e1, e3, e2⟩ := g2.2.2 _ _ _ (cellOf_sub _ _ _ _ _ _ hy)
              refine ⟨fun hown => ?_, ?_, by rw [e1]; exact e3⟩
              · rcases ho _ hown with ⟨b', p', q1, q2, q3, q4⟩ | hx
                · have := H.sep b' b p' p q1 hp q3 h4 q4
                  subst this
                  exact hk q2
                · exact H.xsep b p hp h4 hx
              · rw [e1]
                simp only [World.cell?, g1]
                have : p.off + off * p.esz + i * k.esz + j = p.off + (off + i) * p.esz + j := by rw [B.esz, Nat.add_mul]; omega
                rw [this]; simpa using e1
            · intro i j x hx
              obtain ⟨y, hy, rfl⟩ := cellOf_map _ _ _ _ _ hx
              obtain ⟨cv, e1, e3, e2⟩ := g2.2.2 _ _ _ (cellOf_sub _ _ _ _ _ _ hy)
              rw [e1]
              exact ih e2
      · rw [if_neg hv]; exact .any

/-- The place of a number in a list. -/
def pos : List Nat → Nat → Option Nat
  | [], _ => none
  | x :: xs, b => if x = b then some 0 else (pos xs b).map (· + 1)
theorem pos_get {l : List Nat} : ∀ {b i : Nat}, pos l b = some i → l[i]? = some b := by
  induction l with
  | nil => intro b i h; simp [pos] at h
  | cons x xs ih =>
    intro b i h
    simp only [pos] at h
    by_cases hx : x = b
    · rw [if_pos hx] at h; cases h; simp [hx]
    · rw [if_neg hx] at h
      obtain ⟨j, h1, rfl⟩ := Option.map_eq_some_iff.1 h
      simpa using ih h1
theorem pos_mem {l : List Nat} {b : Nat} (h : b ∈ l) : (pos l b).isSome = true := by
  induction l with
  | nil => simp at h
  | cons x xs ih =>
    simp only [pos]
    by_cases hx : x = b
    · rw [if_pos hx]; rfl
    · rw [if_neg hx]
      have : b ∈ xs := by simpa [Ne.symm hx] using h
      rw [Option.isSome_map]; exact ih this

/-- A value as it is seen where of the blocks only those of the list are left, renumbered; other slices become trees (to depth n). -/
def out (h : List Blk) (ids : List Nat) (n : Nat) : V → V :=
  V.mapR (fun b ver off len => match pos ids b with
      | some b' => .psl b' ver off len
      | none => frz h (fun b => (pos ids b).isSome) n (.psl b ver off len))
    (fun b ver r k => match pos ids b with
      | some b' => .ptr b' ver r k
      | none => .any)
def outB (h : List Blk) (ids : List Nat) (n : Nat) (k : Blk) : Blk := { k with rows := k.rows.map (·.map (out h ids n)) }
def outH (h : List Blk) (ids : List Nat) (n : Nat) : List Blk := ids.map fun b => outB h ids n (h.getD b default)

theorem cellOf_map' (rows : List (List V)) (g : V → V) (i j : Nat) (y : V) (h : cellOf rows i j = some y) : cellOf (rows.map (·.map g)) i j = some (g y) := by
  unfold cellOf at *
  rw [List.getElem?_map]
  cases hr : rows[i]? with
  | none => rw [hr] at h; simp at h
  | some r =>
    rw [hr] at h
    simp only [Option.map_some, Option.bind_some, List.getElem?_map] at h ⊢
    rw [h]; rfl

theorem reindex {w : World} {ι : List Place} {h : List Blk} (H : HRel X w ι h) (ids : List Nat) (hnd : ids.Nodup) (hlt : ∀ b ∈ ids, b < h.length) (n : Nat) :
    ∃ ι' : List Place, ι' = ids.map (fun b => ι.getD b default) ∧ HRel X w ι' (outH h ids n) ∧ (∀ v x, Rel w (OX X ι) ι v x → Rel w (OX X ι') ι' v (out h ids n x)) ∧ (∀ r, Own ι' r → Own ι r) := by
  have hget : ∀ {i : Nat} {p : Place}, (ids.map (fun b => ι.getD b default))[i]? = some p → ∃ b, ids[i]? = some b ∧ ι[b]? = some p := by
    intro i p hi
    rw [List.getElem?_map] at hi
    obtain ⟨b, h1, h2⟩ := Option.map_eq_some_iff.1 hi
    refine ⟨b, h1, ?_⟩
    have := hlt b (List.mem_of_getElem? h1)
    rw [← H.len] at this
    rw [List.getD_eq_getElem?_getD, List.getElem?_eq_getElem this] at h2
    rw [List.getElem?_eq_getElem this]; simpa using h2
  have hput : ∀ {i b : Nat} {p : Place}, ids[i]? = some b → ι[b]? = some p → (ids.map (fun b => ι.getD b default))[i]? = some p := by
    intro i b p h1 h2
    rw [List.getElem?_map, h1, Option.map_some, List.getD_eq_getElem?_getD, h2]; rfl
  have hown : ∀ r, Own (ids.map (fun b => ι.getD b default)) r → ∃ b p, ι[b]? = some p ∧ (pos ids b).isSome = true ∧ p.real = true ∧ p.row = r := by
    rintro r ⟨p, hp, hr, rfl⟩
    obtain ⟨i, hi⟩ := List.mem_iff_getElem?.1 hp
    obtain ⟨b, h1, h2⟩ := hget hi
    exact ⟨b, p, h2, pos_mem (List.mem_of_getElem? h1), hr, rfl⟩
  have hown' : ∀ r, Own (ids.map (fun b => ι.getD b default)) r → Own ι r := fun r hr => by
    obtain ⟨b, p, h1, _, h3, rfl⟩ := hown r hr
    exact Own.of h1 h3
  have hrel : ∀ v x, Rel w (OX X ι) ι v x → Rel w (OX X (ids.map (fun b => ι.getD b default))) (ids.map (fun b => ι.getD b default)) v (out h ids n x) := by
    intro v x hx
    refine hx.mapR (fun r hr => hr.imp (hown' r) id) (fun b ver off len cv hcv => ?_) (fun b ver r k cv hcv => ?_)
    · cases hb : pos ids b with
      | none => exact hcv.frz H (fun r hr => hr.imp (hown r) id) n
      | some b' =>
        cases hcv with
        | psl p hp hle hP => exact .psl p (hput (pos_get hb) hp) hle hP
    · cases hb : pos ids b with
      | none => exact .any
      | some b' =>
        cases hcv with
        | ptr p hp hle hP => exact .ptr p (hput (pos_get hb) hp) hle hP
  refine ⟨_, rfl, ⟨by simp [outH], ?_, ?_, ?_, H.xlt⟩, hrel, hown'⟩
  · intro i p k hi hk
    obtain ⟨b, h1, h2⟩ := hget hi
    have hb : b < h.length := hlt b (List.mem_of_getElem? h1)
    simp only [outH, List.getElem?_map, h1, Option.map_some, Option.some.injEq] at hk
    subst hk
    have hg : h.getD b default = h[b] := by rw [List.getD_eq_getElem?_getD, List.getElem?_eq_getElem hb]; rfl
    have B := H.blk b p h[b] h2 (List.getElem?_eq_getElem hb)
    rw [← hg] at B
    refine ⟨B.ver, B.esz, B.pos, by simpa [outB] using B.num, B.fit, ?_, fun hr => ?_, B.virt⟩
    · intro row hrow
      simp only [outB] at hrow
      obtain ⟨r, hr, rfl⟩ := List.mem_map.1 hrow
      rw [List.length_map]; exact B.rows r hr
    · obtain ⟨c, T, fz, g1, g2, g3, g4⟩ := B.cells hr
      refine ⟨c, T, fz, g1, g2, g3, fun i j x hx => ?_⟩
      simp only [outB] at hx
      obtain ⟨y, hy, rfl⟩ := cellOf_map _ _ _ _ _ hx
      obtain ⟨v, e1, e3, e2⟩ := g4 i j y hy
      exact ⟨v, e1, e3, hrel v y e2⟩
  · intro i j p p' hi hj hr hr' e
    obtain ⟨b, h1, h2⟩ := hget hi
    obtain ⟨b', h1', h2'⟩ := hget hj
    have hbb := H.sep b b' p p' h2 h2' hr hr' e
    subst hbb
    exact (List.getElem?_inj (List.getElem?_eq_some_iff.1 h1).1 hnd).1 (by rw [h1, h1'])
  · intro i p hi hr
    obtain ⟨b, h1, h2⟩ := hget hi
    exact H.xsep b p h2 hr
end Go.Proofs.Ytjmmompbmjhkpaa.Calc
