/- The calculus, part 11: 'stepA' and the model, operation by operation: copy and append. No condition beyond those in each lemma. -/
import Derived.Test.YtjmmompbmjhkpaaCalcA
namespace Go.Proofs.Ytjmmompbmjhkpaa.Calc
open Go
variable {X : Nat → Prop}

theorem cellOf_append (a b : List (List V)) (i j : Nat) : cellOf (a ++ b) i j = if i < a.length then cellOf a i j else cellOf b (i - a.length) j := by
  unfold cellOf
  rw [List.getElem?_append]
  split <;> rfl

section
variable {P : Program} {w : World} {ι : List Place} {h : List Blk} {ev : AO → V} {bl : Nat → Option Blk} {c : Nat} {x : V} {ups : List (Nat × Blk)} {news : List Blk} {R : List Nat}

theorem run_firstCells {r o : Nat} {size n len cap : Nat} (l : List Value) (hl : l.length = n * size) (hc : ∀ k v, l[k]? = some v → w.cell? ⟨r, o + k, none⟩ = some v) :
    (Builtin.firstCells size n (.slice (some ⟨r, o, none⟩) len cap)).run P w = .ok l.toArray w := by
  unfold Builtin.firstCells
  rw [← hl]
  exact run_loadCells l hc

/-- The first n elements of a slice, read cell by cell. -/
theorem read_rows (H : HRel X w ι h) {v : Value} {y : V} {e : Nat} {rows : List (List V)} (hx : Rel w (OX X ι) ι v y) (hr : rowsOf bl y = some (e, rows)) (hbl : ∀ b ∈ vlook y, bl b = h[b]?) (he : 0 < e) (n : Nat) (hn : n ≤ rows.length) :
    (∀ row ∈ rows, row.length = e) ∧ (∃ a cap, v = .slice a rows.length cap) ∧ ∃ l : List Value, l.length = n * e ∧ (∀ w' : World, (∀ r, r < w.heap.size → w'.heap[r]? = w.heap[r]?) → (Builtin.firstCells e n v).run P w' = .ok l.toArray w') ∧ (∀ u ∈ l, scal u = true) ∧
      ∀ i j z, i < n → cellOf rows i j = some z → ∃ u, l[i * e + j]? = some u ∧ Rel w (OX X ι) ι u z := by
  obtain ⟨h1, a, cap, rfl, h2, h3, h4⟩ := rows_at H hx hr hbl
  refine ⟨h1, ⟨a, cap, rfl⟩, ?_⟩
  by_cases hz : n = 0
  · subst hz
    refine ⟨[], by simp, fun w' _ => ?_, by simp, fun i j z hi => by omega⟩
    cases a with
    | none => simp [Builtin.firstCells]
    | some a => simp [Builtin.firstCells, loadCells, loadCellsFrom]
  · obtain ⟨r, o, rfl, h5⟩ := h4 (by omega)
    obtain ⟨l, g1, g2, g3⟩ := flat_cells he rows h1 h5 n hn
    exact ⟨l, g1, fun w' hw => run_firstCells l g1 (fun k v hk => by
      have := (g2 k v hk).1
      exact cell_same (a := ⟨r, o + k, none⟩) (hw r (World.block_lt_of_cell? w ⟨r, _, none⟩ this)) this), fun u hu => by
      obtain ⟨k, hk⟩ := List.mem_iff_getElem?.1 hu
      exact (g2 k u hk).2, g3⟩

theorem run_lenOf (a : Option Addr) (n cap : Nat) : (Builtin.lenOf (.slice a n cap)).run P w = .ok n w := rfl

/-- A row of the world after rows of cells have been written into it. -/
theorem spliced {p : Place} {c : Array Value} {fz : Nat × Nat} {rows new : List (List V)} {vs : List Value} {off : Nat} (hC : CellsRel w (OX X ι) ι p rows c fz) (hlen : ∀ row ∈ rows, row.length = p.esz)
    (hnew : ∀ row ∈ new, row.length = p.esz) (hvs : vs.length = new.length * p.esz) (hs : ∀ u ∈ vs, scal u = true)
    (hr : ∀ i j z, i < new.length → cellOf new i j = some z → ∃ u, vs[i * p.esz + j]? = some u ∧ Rel w (OX X ι) ι u z) (hroom : off + new.length ≤ p.cap) :
    (splice c (p.off + off * p.esz) vs).size = c.size ∧ (∀ i j z, i < off → cellOf rows i j = some z → ∃ u, (splice c (p.off + off * p.esz) vs)[p.off + i * p.esz + j]? = some u ∧ scal u = true ∧ Rel w (OX X ι) ι u z) ∧
    (∀ i j z, cellOf new i j = some z → ∃ u, (splice c (p.off + off * p.esz) vs)[p.off + (off + i) * p.esz + j]? = some u ∧ scal u = true ∧ Rel w (OX X ι) ι u z) ∧
    (∀ i j z, off + new.length ≤ i → cellOf rows i j = some z → ∃ u, (splice c (p.off + off * p.esz) vs)[p.off + i * p.esz + j]? = some u ∧ scal u = true ∧ Rel w (OX X ι) ι u z) := by
  obtain ⟨g2, g3, g4⟩ := hC
  have hfit : p.off + off * p.esz + vs.length ≤ c.size := by
    have : (off + new.length) * p.esz ≤ p.cap * p.esz := Nat.mul_le_mul_right _ hroom
    rw [Nat.add_mul] at this
    omega
  refine ⟨splice_size _ _ _, fun i j z hi hz => ?_, fun i j z hz => ?_, fun i j z hi hz => ?_⟩
  · have hj := (cellOf_lt hlen hz).2
    have : (i + 1) * p.esz ≤ off * p.esz := Nat.mul_le_mul_right _ hi
    rw [Nat.add_mul, Nat.one_mul] at this
    rw [splice_get _ _ _ _ hfit, if_neg (by omega)]
    exact g4 i j z hz
  · obtain ⟨hi, hj⟩ := cellOf_lt hnew hz
    obtain ⟨u, h1, h2⟩ := hr i j z hi hz
    have h3 : (i + 1) * p.esz ≤ new.length * p.esz := Nat.mul_le_mul_right _ hi
    rw [Nat.add_mul, Nat.one_mul] at h3
    have h4 : (off + i) * p.esz = off * p.esz + i * p.esz := Nat.add_mul _ _ _
    rw [splice_get _ _ _ _ hfit, if_pos (by omega)]
    have e : p.off + (off + i) * p.esz + j - (p.off + off * p.esz) = i * p.esz + j := by omega
    rw [e]
    exact ⟨u, h1, hs u (List.mem_of_getElem? h1), h2⟩
  · have : (off + new.length) * p.esz ≤ i * p.esz := Nat.mul_le_mul_right _ hi
    rw [Nat.add_mul] at this
    rw [splice_get _ _ _ _ hfit, if_neg (by omega)]
    exact g4 i j z hz

theorem run_copy {t t2 ty e : TypeId} {esz : Nat} (ht : P.underlying t = some (.slice e)) (hsz : szOf P e = some esz) {base ua : Option Addr} {len cap un ucap : Nat} {l : List Value}
    (hl : (Builtin.firstCells esz (min un len) (.slice ua un ucap)).run P w = .ok l.toArray w) :
    (Builtin.copy_ #[t, t2] ty #[.slice base len cap, .slice ua un ucap]).run P w = match base with
      | some a => ((storeCells a l).run P w).andThen fun _ w' => .ok (goInt (min un len : Nat)) w'
      | none => .ok (goInt (min un len : Nat)) w := by
  have hmin : Nat.min un len = min un len := rfl
  unfold Builtin.copy_
  simp only [List.getElem?_toArray, List.getElem?_cons_zero, List.getElem?_cons_succ]
  simp only [Sem.run_bind, run_underlying ht, Result.andThen_ok, run_lenOf, run_sizeOf hsz, hmin, hl]
  cases base <;> simp

theorem st_copy (H : HRel X w ι h) {t e : TypeId} {t2 ty : TypeId} {esz : Nat} (ht : P.underlying t = some (.slice e)) (hsz : szOf P e = some esz)
    {v u : Value} {xo yo : AO} (hx : Rel w (OX X ι) ι v (ev xo)) (hy : Rel w (OX X ι) ι u (ev yo))
    (hst : stepA (.copy esz xo yo) ev bl c = some (x, ups, news, R)) (hbl : ∀ b ∈ R, bl b = h[b]?) :
    OkV X P w ι (Builtin.copy_ #[t, t2] ty #[v, u]) x (appN (appU h ups) c news) := by
  simp only [stepA] at hst
  split at hst
  · rename_i b ver off len e1
    rw [e1] at hx
    split at hst
    · rename_i B e0 rows hB hrows
      split at hst
      · rename_i hc
        obtain ⟨hver, hesz, rfl⟩ := hc
        cases hst
        have hb := hbl b (by simp)
        rw [hB] at hb
        obtain ⟨p, hp, hpv, hP, hBR⟩ := psl_at H hx hb.symm hver
        obtain ⟨ad, cap, rfl, q1, q2, q3, q4⟩ := hP
        have hpe : p.esz = e0 := by rw [← hBR.esz, hesz]
        have he0 : 0 < e0 := by rw [← hpe]; exact hBR.pos
        obtain ⟨r1, ⟨ua, ucap, rfl⟩, l, r2, r3, r4, r5⟩ := read_rows (P := P) H hy hrows (fun b hb => hbl b (by simp [hb])) he0 (min rows.length len) (Nat.min_le_left _ _)
        by_cases hz : min rows.length len = 0
        · have hl0 : l = [] := List.eq_nil_of_length_eq_zero (by rw [r2, hz, Nat.zero_mul])
          subst hl0
          have hsame : ({ B with rows := B.rows.take off ++ rows.take len ++ B.rows.drop (off + min rows.length len) } : Blk) = B := by
            have h1 : rows.take len = [] := List.eq_nil_of_length_eq_zero (by rw [List.length_take, Nat.min_comm]; exact hz)
            rw [h1, hz]; simp
          have hset : h.set b B = h := by
            apply List.ext_getElem?
            intro i
            rw [List.getElem?_set]
            by_cases hbi : b = i
            · subst hbi; rw [if_pos rfl, ← hb]; split
              · rfl
              · rename_i hnl; rw [hb] ; exact (List.getElem?_eq_none (by omega)).symm
            · rw [if_neg hbi]
          simp only [appU, appN, hsame, hset]
          refine OkV.same H (cv := goInt (min rows.length len : Nat)) ?_ .c
          rw [run_copy ht hsz (r3 w (fun _ _ => rfl))]
          cases ad <;> simp [storeCells]
        · rcases q4 with rfl | ⟨hreal, rfl⟩
          · exfalso; omega
          obtain ⟨cs, T, fz, g1, gC⟩ := hBR.cells hreal
          have hpn := hBR.fit
          have htl : (rows.take len).length = min rows.length len := by rw [List.length_take, Nat.min_comm]
          have hnewr : ∀ row ∈ rows.take len, row.length = p.esz := fun row hm => by rw [hpe]; exact r1 row (List.mem_of_mem_take hm)
          have hmul : (off + min rows.length len) * p.esz ≤ p.cap * p.esz := Nat.mul_le_mul_right _ (by omega)
          rw [Nat.add_mul] at hmul
          have hoff : off ≤ B.rows.length := by rw [hBR.num]; omega
          obtain ⟨s0, s1, s2, s3⟩ := spliced (off := off) gC hBR.rows hnewr (by rw [htl, hpe]; exact r2) r4 (fun i j z hi hz => by
            rw [htl] at hi
            rw [hpe]
            refine r5 i j z hi ?_
            have := cellOf_drop_take rows 0 len i j
            simp only [List.drop_zero] at this
            rw [this] at hz
            split at hz
            · simpa using hz
            · cases hz) (by rw [htl]; omega)
          have hrun := run_storeCells (P := P) (r := p.row) (o := p.off + off * p.esz) (T := T) (fz := fz) l 0 w cs g1 (by have := gC.1; rw [r2, ← hpe]; omega)
            (fun j h1 h2 => gC.2.1 j (by omega) (by rw [r2, ← hpe] at h2; omega)) r4
          rw [Nat.add_zero] at hrun
          have hlt := (Array.getElem?_eq_some_iff.1 g1).1
          have key := H.set (w' := World.row w p.row (.cells (splice cs (p.off + off * p.esz) l) T fz)) hp p { B with rows := B.rows.take off ++ rows.take len ++ B.rows.drop (off + min rows.length len) }
            (by simp) (fun i hi hne => World.row_other _ _ _ _ (hne hreal)) rfl rfl rfl (fun _ => .inl ⟨hreal, rfl⟩) (.inl rfl) hBR.ver hBR.esz hBR.pos
            (by have := hBR.num; simp only [List.length_append, List.length_take, List.length_drop]; omega) hBR.fit
            (fun row hm => by
              simp only [List.mem_append] at hm
              rcases hm with (hm | hm) | hm
              · exact hBR.rows row (List.mem_of_mem_take hm)
              · exact hnewr row hm
              · exact hBR.rows row (List.mem_of_mem_drop hm))
            (fun _ => ⟨_, T, fz, World.row_get _ _ _ hlt, by rw [s0]; exact gC.1, gC.2.1, fun i j z hz => by
              have hz : cellOf (B.rows.take off ++ rows.take len ++ B.rows.drop (off + min rows.length len)) i j = some z := hz
              rw [List.append_assoc, cellOf_append] at hz
              have hto : (B.rows.take off).length = off := by rw [List.length_take]; omega
              rw [hto] at hz
              split at hz
              · rename_i hi
                have := cellOf_drop_take B.rows 0 off i j
                simp only [List.drop_zero, if_pos hi, Nat.zero_add] at this
                rw [this] at hz
                exact s1 i j z hi hz
              · rename_i hi
                rw [cellOf_append, htl] at hz
                split at hz
                · rename_i hi2
                  have := s2 (i - off) j z hz
                  have e5 : off + (i - off) = i := by omega
                  rw [e5] at this; exact this
                · rename_i hi2
                  have e6 : cellOf (B.rows.drop (off + min rows.length len)) (i - off - min rows.length len) j = cellOf B.rows i j := by
                    unfold cellOf
                    rw [List.getElem?_drop]
                    congr 2; omega
                  rw [e6] at hz
                  exact s3 i j z (by rw [htl]; omega) hz⟩)
            (fun hf => by rw [hreal] at hf; cases hf)
          refine ⟨goInt (min rows.length len : Nat), _, _, ?_, key.1, .c, key.2.1, key.2.2⟩
          rw [run_copy ht hsz (r3 w (fun _ _ => rfl))]
          simp only [hrun, Result.andThen_ok]
      · cases hst
    · rename_i B hB hnone
      split at hst
      · rename_i e2
        rw [e2] at hy
        obtain rfl := hy.c_eq
        split at hst
        · rename_i hver
          cases hst
          have hb := hbl b (by simp)
          rw [hB] at hb
          obtain ⟨p, hp, hpv, hP, hBR⟩ := psl_at H hx hb.symm hver
          obtain ⟨ad, cap, rfl, q1, q2, q3, q4⟩ := hP
          refine OkV.same H (cv := goInt 0) ?_ .c
          rw [run_copy ht hsz (l := []) (by simp [Builtin.firstCells])]
          cases ad <;> simp [storeCells]
        · cases hst
      · cases hst
    · cases hst
  · cases hst
end
end Go.Proofs.Ytjmmompbmjhkpaa.Calc
