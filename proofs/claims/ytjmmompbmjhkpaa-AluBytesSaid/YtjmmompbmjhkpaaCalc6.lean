/- The calculus, part 6: 'stepA' and the model, operation by operation: memory that is made, loads, stores. No condition beyond those in each lemma. -/
import Derived.Test.YtjmmompbmjhkpaaCalc5
namespace Go.Proofs.Ytjmmompbmjhkpaa.Calc
open Go
variable {X : Nat → Prop}

theorem range_some {n i k : Nat} (h : (List.range n)[i]? = some k) : i < n ∧ i = k := by
  have h1 := (List.getElem?_eq_some_iff.1 h).1
  simp at h1
  rw [List.getElem?_range h1] at h
  cases h; exact ⟨h1, rfl⟩

section
variable {P : Program} {w : World} {ι : List Place} {h : List Blk} {ev : AO → V} {bl : Nat → Option Blk} {c : Nat} {x : V} {ups : List (Nat × Blk)} {news : List Blk} {R : List Nat}

theorem cellOf_one (cs : List V) (i j : Nat) (x : V) (h : cellOf [cs] i j = some x) : i = 0 ∧ cs[j]? = some x := by
  unfold cellOf at h
  cases i with
  | zero => simpa using h
  | succ i => simp at h

theorem run_box (e : TypeId) (v : Value) : (Instr.box e v).run P w = .ok (.pointer (some ⟨w.heap.size, 0, none⟩)) (w.alloc (.cells v.cells e)) := by
  simp [Instr.box, newVar, newRow]

theorem box_ok (H : HRel X w ι h) (e : TypeId) {v : Value} {cs : List V} {esz : Nat} (hsz : v.cells.size = cs.length) (hsc : ∀ (i : Nat) (c : Value), v.cells[i]? = some c → scal c = true)
    (hr : ∀ (i : Nat) (c : Value) (y : V), v.cells[i]? = some c → cs[i]? = some y → Rel w (OX X ι) ι c y) (hl : cs.length = esz) (h0 : 0 < esz) (hnew : ∃ k, h[c]? = some k ∧ k.ver = 0) :
    OkV X P w ι (Instr.box e v) (.ptr c 1 0 0) (h.set c ⟨1, esz, [cs]⟩) := by
  obtain ⟨ι', h1, h2, h3, h4⟩ := mk_block H hnew e v.cells [cs] esz 1 h0 (by simp) (by simp [hl]) (by omega) (fun i j x hx => by
    obtain ⟨rfl, hj⟩ := cellOf_one _ _ _ _ hx
    have hjl : j < v.cells.size := by rw [hsz]; exact (List.getElem?_eq_some_iff.1 hj).1
    refine ⟨v.cells[j], by simp [hjl], hsc j _ (by simp [hjl]), hr j _ x (by simp [hjl]) hj⟩)
  exact ⟨_, _, ι', run_box e v, h1, .ptr _ h4 (Nat.le_refl _) (fun _ => ⟨rfl, by simp⟩), h2, h3⟩

theorem st_new (H : HRel X w ι h) (e : TypeId) {v : Value} {esz : Nat} {xo : AO} (hx : Rel w (OX X ι) ι v (ev xo))
    (hst : stepA (.new esz xo) ev bl c = some (x, ups, news, R)) (hbl : ∀ b ∈ R, bl b = h[b]?) (hnew : ∀ i, i < news.length → ∃ k, h[c + i]? = some k ∧ k.ver = 0) :
    OkV X P w ι (Instr.box e v) x (appN (appU h ups) c news) := by
  simp only [stepA] at hst
  split at hst
  · rename_i cs hcs
    split at hst
    · rename_i hl
      cases hst
      obtain ⟨h1, h2, h3⟩ := vcells_rel H hx hcs hbl
      exact box_ok H e h1 h2 h3 hl.1 hl.2 (by simpa using hnew 0 (by simp))
    · cases hst
  · cases hst

theorem st_zero (H : HRel X w ι h) (e : TypeId) {cells : List Value} (hz : zeroOf P e = some cells)
    (hst : stepA (.zero cells) ev bl c = some (x, ups, news, R)) (hnew : ∀ i, i < news.length → ∃ k, h[c + i]? = some k ∧ k.ver = 0) :
    OkV X P w ι (Instr.alloc e true (.tuple #[])) x (appN (appU h ups) c news) := by
  simp only [stepA] at hst
  split at hst
  · rename_i hl
    cases hst
    obtain ⟨v, h1, h2, h3, _⟩ := run_zeroValue hz w
    have hb := box_ok (P := P) H e (v := v) (cs := cells.map .c) (esz := cells.length) (c := c) (by rw [h2]; simp)
      (fun i u hu => by
        rw [h2] at hu
        simp only [List.getElem?_toArray] at hu
        exact (List.all_eq_true.1 h3) u (List.mem_of_getElem? hu))
      (fun i u y hu hy => by
        rw [h2] at hu
        simp only [List.getElem?_toArray] at hu
        rw [List.getElem?_map, hu] at hy
        cases hy; exact .c) (by simp) hl (by simpa using hnew 0 (by simp))
    obtain ⟨cv, w', ι', g1, g2⟩ := hb
    refine ⟨cv, w', ι', ?_, g2⟩
    rw [← g1]
    simp [Instr.alloc, Instr.box, h1]
  · cases hst

theorem load_at {r k : Nat} {p : Place} {B : Blk} (hB : BRel w (OX X ι) ι p B) (hreal : p.real = true) {row : List V} (hr : B.rows[r]? = some row) :
    ∃ l : List Value, l.length = row.length - k ∧ (∀ j v, l[j]? = some v → w.cell? ⟨p.row, p.off + r * p.esz + k + j, none⟩ = some v) ∧
      (∀ (j : Nat) (v : Value) (y : V), l[j]? = some v → row[k + j]? = some y → scal v = true ∧ Rel w (OX X ι) ι v y) := by
  obtain ⟨cs, T, fz, g1, g2, g3, g4⟩ := hB.cells hreal
  have hrow : ∀ j y, row[j]? = some y → ∃ v, cs[p.off + r * p.esz + j]? = some v ∧ scal v = true ∧ Rel w (OX X ι) ι v y := fun j y hy => g4 r j y (by simp [cellOf, hr, hy])
  have hlen : row.length = p.esz := hB.rows row (List.mem_of_getElem? hr)
  have hrl : r < p.n := by rw [← hB.num]; exact (List.getElem?_eq_some_iff.1 hr).1
  have hin : p.off + r * p.esz + p.esz ≤ cs.size := by
    have h1 : (r + 1) * p.esz ≤ p.cap * p.esz := Nat.mul_le_mul_right _ (by have := hB.fit; omega)
    rw [Nat.add_mul, Nat.one_mul] at h1
    omega
  refine ⟨(List.range (row.length - k)).map fun j => (cs[p.off + r * p.esz + k + j]?).getD undef, by simp, ?_, ?_⟩
  · intro j v hj
    simp only [List.getElem?_map, Option.map_eq_some_iff] at hj
    obtain ⟨j', hj', rfl⟩ := hj
    obtain ⟨hj1, rfl⟩ := range_some hj'
    have hlt : p.off + r * p.esz + k + j < cs.size := by omega
    simp [World.cell?, g1, hlt]
  · intro j v y hj hy
    simp only [List.getElem?_map, Option.map_eq_some_iff] at hj
    obtain ⟨j', hj', rfl⟩ := hj
    obtain ⟨hj1, rfl⟩ := range_some hj'
    obtain ⟨v, e1, e2, e3⟩ := hrow _ _ hy
    rw [← Nat.add_assoc] at e1
    rw [e1]
    exact ⟨e2, e3⟩

theorem agg_of (l : List Value) (ys : List V) (hl : l.length = ys.length) (h : ∀ (j : Nat) (v : Value) (y : V), l[j]? = some v → ys[j]? = some y → scal v = true ∧ Rel w (OX X ι) ι v y) :
    Rel w (OX X ι) ι (.agg l.toArray) (.agg ys) := by
  have hy : ∀ (i : Nat) (v : Value), l[i]? = some v → ∃ y, ys[i]? = some y := fun i v hv => by
    have := (List.getElem?_eq_some_iff.1 hv).1
    exact ⟨ys[i], List.getElem?_eq_getElem (by omega)⟩
  refine .agg (by simpa using hl) (fun i v hv => ?_) (fun i v y hv hy => ?_)
  · simp only [List.getElem?_toArray] at hv
    obtain ⟨y, hy⟩ := hy i v hv
    exact (h i v y hv hy).1
  · simp only [List.getElem?_toArray] at hv
    exact (h i v y hv hy).2

theorem run_loadAt {t : TypeId} {n : Option Nat} (ht : aggOf P t = some n) {r o : Nat} (l : List Value) (hl : l.length = n.getD 1)
    (h : ∀ j v, l[j]? = some v → w.cell? ⟨r, o + j, none⟩ = some v) :
    (Instr.loadAt t (.pointer (some ⟨r, o, none⟩))).run P w = .ok (match n with | some _ => .agg l.toArray | none => (l[0]?).getD undef) w := by
  obtain ⟨h1, h2⟩ := run_isAgg ht w
  cases n with
  | some n =>
    simp only [Option.getD_some] at hl
    simp only [Instr.loadAt, Instr.sureAddr, loadVar, Sem.run_bind, Sem.run_pure, Result.andThen_ok, h1, Option.isSome_some, if_true, h2 n rfl]
    rw [← hl, run_loadCells l h]; rfl
  | none =>
    simp only [Option.getD_none] at hl
    obtain ⟨v, rfl⟩ : ∃ v, l = [v] := List.length_eq_one_iff.1 hl
    have h0 := h 0 v (by simp)
    rw [Nat.add_zero] at h0
    simp [Instr.loadAt, Instr.sureAddr, loadVar, h1, h0]

theorem st_ld_same (H : HRel X w ι h) {t : TypeId} {n : Option Nat} (ht : aggOf P t = some n) {v : Value} {xo : AO} (hx : Rel w (OX X ι) ι v (ev xo))
    (hst : stepA (.ld n xo) ev bl c = some (x, ups, news, R)) (hbl : ∀ b ∈ R, bl b = h[b]?) :
    (∃ cv, (Instr.loadAt t v).run P w = .ok cv w ∧ Rel w (OX X ι) ι cv x) ∧ ups = [] ∧ news = [] := by
  simp only [stepA] at hst
  split at hst
  · rename_i b ver r k e
    rw [e] at hx
    split at hst
    · rename_i B hB
      split at hst
      · rename_i hver
        split at hst
        · rename_i row hrow
          have fin : ∀ (_ : bl b = h[b]?), ∃ p : Place, v = .pointer (some ⟨p.row, p.off + r * p.esz + k, none⟩) ∧ ∃ l : List Value, l.length = row.length - k ∧ (∀ j v, l[j]? = some v → w.cell? ⟨p.row, p.off + r * p.esz + k + j, none⟩ = some v) ∧
              (∀ (j : Nat) (v : Value) (y : V), l[j]? = some v → row[k + j]? = some y → scal v = true ∧ Rel w (OX X ι) ι v y) := by
            intro hb
            rw [hB] at hb
            obtain ⟨p, hp, _, hreal, rfl, hBR⟩ := ptr_at H hx hb.symm hver
            exact ⟨p, rfl, load_at hBR hreal hrow⟩
          cases n with
          | none =>
            obtain ⟨y, hy, hst⟩ := Option.map_eq_some_iff.1 hst
            cases hst
            obtain ⟨p, rfl, l, hl, hc, hr⟩ := fin (hbl b (by simp))
            have hk := (List.getElem?_eq_some_iff.1 hy).1
            obtain ⟨u, l', rfl⟩ : ∃ u l', l = u :: l' := by
              cases l with
              | nil => simp at hl; omega
              | cons u l' => exact ⟨u, l', rfl⟩
            refine ⟨⟨_, run_loadAt ht [u] rfl (fun j v hj => hc j v ?_), (hr 0 u _ (by simp) (by simpa using hy)).2⟩, rfl, rfl⟩
            cases j with
            | zero => simpa using hj
            | succ j => simp at hj
          | some n =>
            dsimp only at hst
            split at hst
            · rename_i hk
              cases hst
              obtain ⟨p, rfl, l, hl, hc, hr⟩ := fin (hbl b (by simp))
              have hlt : (l.take n).length = n := by rw [List.length_take]; omega
              refine ⟨⟨_, run_loadAt ht (l.take n) (by simpa using hlt) (fun j v hj => hc j v ?_), agg_of _ _ ?_ (fun j v y hv hy => ?_)⟩, rfl, rfl⟩
              · rw [List.getElem?_take] at hj; split at hj
                · exact hj
                · cases hj
              · rw [hlt, List.length_take, List.length_drop]; omega
              · rw [List.getElem?_take] at hv hy
                split at hv
                · rename_i hjn
                  rw [if_pos hjn, List.getElem?_drop] at hy
                  exact hr j v y hv hy
                · cases hv
            · cases hst
        · cases hst
      · cases hst
    · cases hst
  · rename_i row k e
    rw [e] at hx
    cases hx with
    | @dp _ _ _ blk base cv hc hr =>
      have fin : ∀ j y, row[k + j]? = some y → w.cell? ⟨blk, base + k + j, none⟩ = some (cv (k + j)) ∧ scal (cv (k + j)) = true ∧ Rel w (OX X ι) ι (cv (k + j)) y := by
        intro j y hy
        obtain ⟨_, h2, h3⟩ := hc _ _ hy
        exact ⟨by rw [← h2, Nat.add_assoc], h3, (hr _ _ hy).shrink (fun _ h => h) (Refs.nil _)⟩
      cases n with
      | none =>
        obtain ⟨y, hy, hst⟩ := Option.map_eq_some_iff.1 hst
        cases hst
        obtain ⟨g1, g2, g3⟩ := fin 0 _ (by simpa using hy)
        refine ⟨⟨_, run_loadAt ht [cv (k + 0)] rfl (fun j v hj => ?_), g3⟩, rfl, rfl⟩
        cases j with
        | zero => simp at hj; rw [← hj]; exact g1
        | succ j => simp at hj
      | some n =>
        dsimp only at hst
        split at hst
        · rename_i hk
          cases hst
          refine ⟨⟨_, run_loadAt ht ((List.range n).map fun j => cv (k + j)) (by simp) (fun j v hj => ?_), agg_of _ _ ?_ (fun j v y hv hy => ?_)⟩, rfl, rfl⟩
          · simp only [List.getElem?_map, Option.map_eq_some_iff] at hj
            obtain ⟨j', hj', rfl⟩ := hj
            obtain ⟨h1, rfl⟩ := range_some hj'
            exact (fin j _ (List.getElem?_eq_getElem (by omega))).1
          · simp; omega
          · simp only [List.getElem?_map, Option.map_eq_some_iff] at hv
            obtain ⟨j', hj', rfl⟩ := hv
            obtain ⟨h1, rfl⟩ := range_some hj'
            rw [List.getElem?_take, if_pos h1, List.getElem?_drop] at hy
            exact (fin j _ hy).2
        · cases hst
  · cases hst

theorem st_ld (H : HRel X w ι h) {t : TypeId} {n : Option Nat} (ht : aggOf P t = some n) {v : Value} {xo : AO} (hx : Rel w (OX X ι) ι v (ev xo))
    (hst : stepA (.ld n xo) ev bl c = some (x, ups, news, R)) (hbl : ∀ b ∈ R, bl b = h[b]?) :
    OkV X P w ι (Instr.loadAt t v) x (appN (appU h ups) c news) := by
  obtain ⟨⟨cv, h1, h2⟩, rfl, rfl⟩ := st_ld_same H ht hx hst hbl
  exact OkV.same H h1 h2
end
end Go.Proofs.Ytjmmompbmjhkpaa.Calc
