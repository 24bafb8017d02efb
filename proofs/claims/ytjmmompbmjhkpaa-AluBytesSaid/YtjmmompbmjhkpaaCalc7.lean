/- The calculus, part 7: 'stepA' and the model, operation by operation: stores, slices that are made, addresses, lengths. No condition beyond those in each lemma. -/
import Derived.Test.YtjmmompbmjhkpaaCalc6
namespace Go.Proofs.Ytjmmompbmjhkpaa.Calc
open Go
variable {X : Nat → Prop}

theorem spl_length (vs : List V) : ∀ (l : List V) (o : Nat), (spl l o vs).length = l.length := by
  induction vs with
  | nil => intro l o; rfl
  | cons v vs ih => intro l o; simp only [spl]; rw [ih]; simp
theorem spl_get (vs : List V) : ∀ (l : List V) (o i : Nat), o + vs.length ≤ l.length →
    (spl l o vs)[i]? = if o ≤ i ∧ i < o + vs.length then vs[i - o]? else l[i]? := by
  induction vs with
  | nil => intro l o i _; simp only [spl, List.length_nil]; rw [if_neg (by omega)]
  | cons v vs ih =>
    intro l o i h
    simp only [spl, List.length_cons] at h ⊢
    rw [ih _ _ _ (by simp; omega)]
    by_cases h1 : o + 1 ≤ i ∧ i < o + 1 + vs.length
    · rw [if_pos h1, if_pos (by omega)]
      have : i - o = (i - (o + 1)) + 1 := by omega
      rw [this]; rfl
    · rw [if_neg h1, List.getElem?_set]
      by_cases h2 : o = i
      · subst h2
        rw [if_pos rfl, if_pos (by omega), if_pos (by omega)]; simp
      · rw [if_neg h2, if_neg (by omega)]

theorem cellOf_set (rows : List (List V)) (r : Nat) (row : List V) (i j : Nat) (x : V) (h : cellOf (rows.set r row) i j = some x) :
    (i = r ∧ row[j]? = some x) ∨ (i ≠ r ∧ cellOf rows i j = some x) := by
  unfold cellOf at *
  rw [List.getElem?_set] at h
  by_cases hr : r = i
  · subst hr
    rw [if_pos rfl] at h
    split at h
    · exact .inl ⟨rfl, by simpa using h⟩
    · simp at h
  · rw [if_neg hr] at h
    exact .inr ⟨fun e => hr e.symm, h⟩

theorem row_apart {i r e j k n : Nat} (hj : j < e) (hk : k + n ≤ e) (h : i ≠ r) : ¬ (r * e + k ≤ i * e + j ∧ i * e + j < r * e + k + n) := by
  rintro ⟨h1, h2⟩
  rcases Nat.lt_or_ge i r with h3 | h3
  · have : (i + 1) * e ≤ r * e := Nat.mul_le_mul_right _ h3
    rw [Nat.add_mul, Nat.one_mul] at this; omega
  · have : (r + 1) * e ≤ i * e := Nat.mul_le_mul_right _ (by omega)
    rw [Nat.add_mul, Nat.one_mul] at this; omega

section
variable {P : Program} {w : World} {ι : List Place} {h : List Blk} {ev : AO → V} {bl : Nat → Option Blk} {c : Nat} {x : V} {ups : List (Nat × Blk)} {news : List Blk} {R : List Nat}

/-- Cells within one row of a block are written. -/
theorem write_row (H : HRel X w ι h) {b r k : Nat} {p : Place} {B : Blk} (hp : ι[b]? = some p) (hB : BRel w (OX X ι) ι p B) (hreal : p.real = true) {row : List V} (hr : B.rows[r]? = some row)
    (vs : List Value) (cs : List V) (hl : vs.length = cs.length) (hs : ∀ v ∈ vs, scal v = true) (hrel : ∀ (i : Nat) (v : Value) (y : V), vs[i]? = some v → cs[i]? = some y → Rel w (OX X ι) ι v y)
    (hk : k + cs.length ≤ row.length) :
    ∃ w' ι', (storeCells ⟨p.row, p.off + r * p.esz + k, none⟩ vs).run P w = .ok () w' ∧ HRel X w' ι' (h.set b { B with rows := B.rows.set r (spl row k cs) }) ∧ Frm w (Own ι) w' (Own ι') ∧ Refs ι ι' := by
  obtain ⟨c, T, fz, g1, g2, g3, g4⟩ := hB.cells hreal
  have hlen : row.length = p.esz := hB.rows row (List.mem_of_getElem? hr)
  have hrl : r < p.n := by rw [← hB.num]; exact (List.getElem?_eq_some_iff.1 hr).1
  have hin : r * p.esz + p.esz ≤ p.cap * p.esz := by
    have h1 : (r + 1) * p.esz ≤ p.cap * p.esz := Nat.mul_le_mul_right _ (by have := hB.fit; omega)
    rw [Nat.add_mul, Nat.one_mul] at h1
    omega
  have hrun := run_storeCells (P := P) (r := p.row) (o := p.off + r * p.esz + k) (T := T) (fz := fz) vs 0 w c g1 (by omega) (fun j h1 h2 => g3 j (by omega) (by omega)) hs
  rw [Nat.add_zero] at hrun
  have hlt := (Array.getElem?_eq_some_iff.1 g1).1
  have := H.set (w' := World.row w p.row (.cells (splice c (p.off + r * p.esz + k) vs) T fz)) hp p { B with rows := B.rows.set r (spl row k cs) }
    (by simp) (fun i hi hne => World.row_other _ _ _ _ (hne hreal)) rfl rfl rfl (fun _ => .inl ⟨hreal, rfl⟩) (.inl rfl) hB.ver hB.esz hB.pos (by simpa using hB.num) hB.fit
    (fun row' hrow' => by
      rcases List.mem_or_eq_of_mem_set hrow' with h1 | rfl
      · exact hB.rows row' h1
      · rw [spl_length, hlen])
    (fun _ => ⟨_, T, fz, World.row_get _ _ _ hlt, by rw [splice_size]; exact g2, g3, fun i j y hy => by
      rw [splice_get _ _ _ _ (by omega)]
      rcases cellOf_set _ _ _ _ _ _ hy with ⟨rfl, hy'⟩ | ⟨hne, hy'⟩
      · rw [spl_get _ _ _ _ hk] at hy'
        by_cases hj : k ≤ j ∧ j < k + cs.length
        · rw [if_pos hj] at hy'
          rw [if_pos (by omega)]
          have e : p.off + i * p.esz + j - (p.off + i * p.esz + k) = j - k := by omega
          rw [e]
          have hjl : j - k < vs.length := by omega
          exact ⟨vs[j - k], List.getElem?_eq_getElem hjl, hs _ (List.getElem_mem hjl), hrel _ _ _ (List.getElem?_eq_getElem hjl) hy'⟩
        · rw [if_neg hj] at hy'
          rw [if_neg (by omega)]
          exact g4 i j y (by simp [cellOf, hr, hy'])
      · have hjl : j < p.esz := by
          unfold cellOf at hy'
          cases hi : B.rows[i]? with
          | none => rw [hi] at hy'; simp at hy'
          | some row' =>
            rw [hi] at hy'
            have h1 := hB.rows row' (List.mem_of_getElem? hi)
            have h2 := (List.getElem?_eq_some_iff.1 (show row'[j]? = some y from hy')).1
            omega
        have := row_apart (k := k) (n := cs.length) hjl (by omega) hne
        rw [if_neg (by omega)]
        exact g4 i j y hy'⟩)
    (fun hf => by rw [hreal] at hf; cases hf)
  exact ⟨_, _, hrun, this.1, this.2.1, this.2.2⟩

theorem st_st (H : HRel X w ι h) {t : TypeId} {n : Nat} (ht : szOf P t = some n) {v u : Value} {xo yo : AO} (hx : Rel w (OX X ι) ι v (ev xo)) (hy : Rel w (OX X ι) ι u (ev yo))
    (hst : stepA (.st n xo yo) ev bl c = some (x, ups, news, R)) (hbl : ∀ b ∈ R, bl b = h[b]?) :
    Ok X P w ι (do Instr.storeAt t v u; pure .skip) x (appN (appU h ups) c news) := by
  simp only [stepA] at hst
  split at hst
  · rename_i b ver r k e
    rw [e] at hx
    split at hst
    · rename_i B cs hB hcs
      split at hst
      · rename_i hver
        split at hst
        · rename_i row hrow
          split at hst
          · rename_i hk
            cases hst
            have hb := hbl b (by simp)
            rw [hB] at hb
            obtain ⟨p, hp, _, hreal, rfl, hBR⟩ := ptr_at H hx hb.symm hver.1
            obtain ⟨h1, h2, h3⟩ := vcells_rel H hy hcs (fun b hb => hbl b (by simp [hb]))
            obtain ⟨w', ι', g1, g2, g3, g4⟩ := write_row (P := P) H hp hBR hreal hrow u.cells.toList cs (by simpa using h1)
              (fun v hv => by
                obtain ⟨i, hi⟩ := List.mem_iff_getElem?.1 hv
                exact h2 i v (by simpa using hi))
              (fun i v y hv hy => h3 i v y (by simpa using hv) hy) (by rw [hver.2]; exact hk)
            refine ⟨.skip, undef, w', ι', ?_, .inr ⟨rfl, rfl⟩, g2, .any, g3, g4⟩
            simp only [Instr.storeAt, Instr.sureAddr, storeVar, Sem.run_bind, Sem.run_pure, Result.andThen_ok, run_sizeOf ht, Sem.run_ite]
            rw [if_neg (by rw [h1, hver.2]; simp)]
            simp [g1]
          · cases hst
        · cases hst
      · cases hst
    · cases hst
  · cases hst

theorem zeros_get (z : List Value) (n i : Nat) (hz : 0 < z.length) (hi : i < n * z.length) :
    ((Array.range (n * z.length)).map (z.toArray[· % z.toArray.size]!))[i]? = some (z[i % z.length]'(Nat.mod_lt _ hz)) := by
  have hm : i % z.length < z.length := Nat.mod_lt _ hz
  simp [hi, hm]
theorem cellOf_replicate (n : Nat) (row : List V) (i j : Nat) (x : V) (h : cellOf (List.replicate n row) i j = some x) : i < n ∧ row[j]? = some x := by
  unfold cellOf at h
  rw [List.getElem?_replicate] at h
  split at h
  · rename_i hi; exact ⟨hi, by simpa using h⟩
  · simp at h
theorem mul_mod_row {i e j : Nat} (hj : j < e) : (i * e + j) % e = j := by
  rw [Nat.add_comm, Nat.mul_comm, Nat.add_mul_mod_self_left, Nat.mod_eq_of_lt hj]

theorem st_mksl (H : HRel X w ι h) {t e : TypeId} {z : List Value} {ti : TypeInfo} (ht : P.underlying t = some (.slice e)) (hz : zeroOf P e = some z) (hti : P.info? e = some ti)
    {v u : Value} {xo yo : AO} (hx : Rel w (OX X ι) ι v (ev xo)) (hy : Rel w (OX X ι) ι u (ev yo))
    (hst : stepA (.mksl z ti.bytes xo yo) ev bl c = some (x, ups, news, R)) (hnew : ∀ i, i < news.length → ∃ k, h[c + i]? = some k ∧ k.ver = 0) :
    OkV X P w ι (Instr.makeSlice t v u) x (appN (appU h ups) c news) := by
  simp only [stepA] at hst
  split at hst
  · rename_i n m hn hm
    have hv : ∃ k, v = .int k n := by
      unfold ofInt at hn; split at hn
      · rename_i k' n' e; rw [e] at hx; cases hn; exact ⟨_, hx.c_eq⟩
      · cases hn
    have hu : ∃ k, u = .int k m := by
      unfold ofInt at hm; split at hm
      · rename_i k' n' e; rw [e] at hy; cases hm; exact ⟨_, hy.c_eq⟩
      · cases hm
    obtain ⟨k1, rfl⟩ := hv
    obtain ⟨k2, rfl⟩ := hu
    split at hst
    · rename_i hc
      obtain ⟨c1, c2, c3, c4, c5⟩ := hc
      cases hst
      obtain ⟨zv, z1, z2, z3, z4⟩ := run_zeroValue hz w
      have hsz : szOf P e = some z.length := z4
      have hm48 : m ≤ 2 ^ 48 := by
        have h1 : (1 : Int) * m ≤ ti.bytes * m := Int.mul_le_mul_of_nonneg_right (by omega) (by omega)
        rw [Int.one_mul] at h1
        exact Int.le_trans h1 c5
      have hnn : n ≤ 2 ^ 48 := Int.le_trans c4 hm48
      have wn : IntKind.i64.wrap n = n := by rw [IntKind.wrap_i64]; omega
      have wm : IntKind.i64.wrap m = m := by rw [IntKind.wrap_i64]; omega
      obtain ⟨ι', g1, g2, g3, g4⟩ := mk_block H (c := c) (by simpa using hnew 0 (by simp)) e ((Array.range (m.toNat * z.length)).map (z.toArray[· % z.toArray.size]!)) (List.replicate n.toNat (z.map .c)) z.length m.toNat c1
        (by simp; omega) (by simp) (by simp) (fun i j y hy => by
          obtain ⟨hi, hj⟩ := cellOf_replicate _ _ _ _ _ hy
          rw [List.getElem?_map] at hj
          obtain ⟨q, hq, rfl⟩ := Option.map_eq_some_iff.1 hj
          have hjl := (List.getElem?_eq_some_iff.1 hq).1
          have hin : i * z.length + j < m.toNat * z.length := by
            have : (i + 1) * z.length ≤ m.toNat * z.length := Nat.mul_le_mul_right _ (by omega)
            rw [Nat.add_mul, Nat.one_mul] at this; omega
          refine ⟨q, ?_, List.all_eq_true.1 z3 q (List.mem_of_getElem? hq), .c⟩
          rw [zeros_get z _ _ c1 hin]
          simp only [mul_mod_row hjl]
          rw [List.getElem?_eq_getElem hjl] at hq; exact hq)
      refine ⟨.slice (some ⟨w.heap.size, 0, none⟩) n.toNat m.toNat, _, ι', ?_, g1, .psl _ g4 (Nat.le_refl _) (fun _ => ⟨_, m.toNat, rfl, by omega, by simp, by simp, .inr ⟨rfl, by simp⟩⟩), g2, g3⟩
      have hmul : m.toNat * z.length = 0 → m.toNat = 0 := by
        intro h0; rcases Nat.mul_eq_zero.1 h0 with h | h
        · exact h
        · omega
      have htl : ¬ ((ti.bytes : Int) * m > 2 ^ 48) := by omega
      simp only [Instr.makeSlice, Sem.run_bind, run_underlying ht, Result.andThen_ok, asInt, asIntOf, Sem.run_pure, typeInfo, run_program, hti, wn, wm]
      rw [if_neg (by
        simp only [Bool.or_eq_true, decide_eq_true_eq]
        omega)]
      simp only [Sem.run_bind, run_askRoom, Result.andThen_ok, run_sizeOf hsz, Sem.run_ite, Sem.run_pure, z1, newRow, run_newObj, z2]
      split
      · rename_i h0
        have := hmul h0
        have hz' : Array.range 0 = #[] := by simp [Array.range]
        simp [this, hz']
      · rfl
    · cases hst
  · cases hst

theorem st_fad (H : HRel X w ι h) {t : TypeId} {fields : Array Field} {f : Field} {i s : Nat} (ht : P.underlying t = some (.struct fields)) (hf : fields[i]? = some f) (hs : szOf P f.type = some s) (h0 : s ≠ 0)
    {v : Value} {xo : AO} (hx : Rel w (OX X ι) ι v (ev xo)) (hst : stepA (.fad f.offset xo) ev bl c = some (x, ups, news, R)) (hbl : ∀ b ∈ R, bl b = h[b]?) :
    OkV X P w ι (Instr.fieldAt t v i) x (appN (appU h ups) c news) := by
  have hrun : ∀ r o : Nat, (Instr.fieldAt t (.pointer (some ⟨r, o, none⟩)) i).run P w = .ok (.pointer (some ⟨r, o + f.offset, none⟩)) w := by
    intro r o
    simp only [Instr.fieldAt, Sem.run_bind, run_underlying ht, Result.andThen_ok, hf, Instr.sureAddr, Sem.run_pure, fieldPlace, run_sizeOf hs, Sem.run_ite, if_neg h0, add_plain]
  simp only [stepA] at hst
  split at hst
  · rename_i b ver r k e
    rw [e] at hx
    split at hst
    · rename_i B hB
      split at hst
      · rename_i hver
        cases hst
        have hb := hbl b (by simp)
        rw [hB] at hb
        obtain ⟨p, hp, hpv, hreal, rfl, hBR⟩ := ptr_at H hx hb.symm hver
        exact OkV.same H (hrun _ _) (.ptr p hp (by omega) (fun _ => ⟨hreal, by simp [Nat.add_assoc]⟩))
      · cases hst
    · cases hst
  · rename_i r k e
    rw [e] at hx
    cases hst
    cases hx with
    | dp cv hc hr =>
      have := hrun
      refine OkV.same H (hrun _ _) ?_
      rw [Nat.add_assoc]
      exact .dp cv hc hr
  · cases hst

theorem ofInt_rel {v : Value} {y : V} {n : Int} (hx : Rel w (OX X ι) ι v y) (h : ofInt y = some n) : ∃ k, v = .int k n := by
  unfold ofInt at h
  split at h
  · cases h; exact ⟨_, hx.c_eq⟩
  · cases h

theorem st_idx_sl (H : HRel X w ι h) {t e : TypeId} {s : Nat} (ht : P.underlying t = some (.slice e)) (hs : szOf P e = some s)
    {v u : Value} {xo yo : AO} (hx : Rel w (OX X ι) ι v (ev xo)) (hy : Rel w (OX X ι) ι u (ev yo))
    (hst : stepA (.idx s none xo yo) ev bl c = some (x, ups, news, R)) (hbl : ∀ b ∈ R, bl b = h[b]?) :
    OkV X P w ι (Instr.indexAt t v u) x (appN (appU h ups) c news) := by
  have hrun : ∀ (r o len cap : Nat) (k : IntKind) (n : Int), 0 ≤ n → n < len → (Instr.indexAt t (.slice (some ⟨r, o, none⟩) len cap) (.int k n)).run P w = .ok (.pointer (some ⟨r, o + n.toNat * s, none⟩)) w := by
    intro r o len cap k n h0 h1
    simp only [Instr.indexAt, asIntOf, Sem.run_bind, Sem.run_pure, run_underlying ht, Result.andThen_ok, Sem.run_ite, if_pos (And.intro h0 h1), run_sizeOf hs, add_plain]
  simp only [stepA] at hst
  split at hst
  · rename_i n b ver off len hn _ e
    rw [e] at hx
    obtain ⟨kk, rfl⟩ := ofInt_rel hy hn
    split at hst
    · rename_i B hB
      split at hst
      · rename_i hc
        obtain ⟨hver, hesz, c1, c2⟩ := hc
        cases hst
        have hb := hbl b (by simp)
        rw [hB] at hb
        obtain ⟨p, hp, hpv, hP, hBR⟩ := psl_at H hx hb.symm hver
        obtain ⟨a, cap, rfl, q1, q2, q3, q4⟩ := hP
        rcases q4 with rfl | ⟨hreal, rfl⟩
        · omega
        · refine OkV.same H (hrun _ _ _ _ _ _ c1 c2) (.ptr p hp (by omega) (fun _ => ⟨hreal, ?_⟩))
          have : p.esz = s := by rw [← hBR.esz, hesz]
          simp [this, Nat.add_mul, Nat.add_assoc]
      · cases hst
    · cases hst
  · rename_i n e' rows hn _ e
    rw [e] at hx
    obtain ⟨kk, rfl⟩ := ofInt_rel hy hn
    split at hst
    · rename_i hc
      obtain ⟨rfl, c1⟩ := hc
      split at hst
      · rename_i row hrow
        cases hst
        have hlt := (List.getElem?_eq_some_iff.1 hrow).1
        cases hx with
        | slnil => simp at hrow
        | @sl _ _ _ a len cap cv hlen hcap hspot hesz hc hr =>
          obtain ⟨ab, ao, asp⟩ := a
          obtain rfl := hspot (by omega)
          refine OkV.same H (hrun _ _ _ _ _ _ c1 (by omega)) ?_
          have := Rel.dp (w := w) (own := OX X ι) (κ := ι) (row := row) (col := 0) (blk := ab) (base := ao + n.toNat * e') (fun j => cv n.toNat j)
            (fun j y hj => hc n.toNat j y (by simp [cellOf, hrow, hj])) (fun j y hj => hr n.toNat j y (by simp [cellOf, hrow, hj]))
          simpa using this
      · cases hst
    · cases hst
  · simp at *
  · simp at *
  · cases hst

theorem st_idx_arr (H : HRel X w ι h) {t e : TypeId} {n0 s : Nat} (ht : P.underlying t = some (.array n0 e)) (hs : szOf P e = some s)
    {v u : Value} {xo yo : AO} (hx : Rel w (OX X ι) ι v (ev xo)) (hy : Rel w (OX X ι) ι u (ev yo))
    (hst : stepA (.idx s (some n0) xo yo) ev bl c = some (x, ups, news, R)) (hbl : ∀ b ∈ R, bl b = h[b]?) :
    OkV X P w ι (Instr.indexAt t v u) x (appN (appU h ups) c news) := by
  have hrun : ∀ (r o : Nat) (k : IntKind) (n : Int), 0 ≤ n → n < n0 → (Instr.indexAt t (.pointer (some ⟨r, o, none⟩)) (.int k n)).run P w = .ok (.pointer (some ⟨r, o + n.toNat * s, none⟩)) w := by
    intro r o k n h0 h1
    simp only [Instr.indexAt, asIntOf, Instr.sureAddr, Sem.run_bind, Sem.run_pure, run_underlying ht, Result.andThen_ok, Sem.run_ite, if_pos (And.intro h0 h1), run_sizeOf hs, add_plain]
  simp only [stepA] at hst
  split at hst
  · simp at *
  · simp at *
  · rename_i n len b ver r k hn hl e
    cases hl
    rw [e] at hx
    obtain ⟨kk, rfl⟩ := ofInt_rel hy hn
    split at hst
    · rename_i B hB
      split at hst
      · rename_i hc
        obtain ⟨hver, c1, c2⟩ := hc
        cases hst
        have hb := hbl b (by simp)
        rw [hB] at hb
        obtain ⟨p, hp, hpv, hreal, rfl, hBR⟩ := ptr_at H hx hb.symm hver
        exact OkV.same H (hrun _ _ _ _ c1 c2) (.ptr p hp (by omega) (fun _ => ⟨hreal, by simp [Nat.add_assoc]⟩))
      · cases hst
    · cases hst
  · rename_i n len r k hn hl e
    cases hl
    rw [e] at hx
    obtain ⟨kk, rfl⟩ := ofInt_rel hy hn
    split at hst
    · rename_i hc
      cases hst
      cases hx with
      | dp cv hc' hr =>
        refine OkV.same H (hrun _ _ _ _ hc.1 hc.2) ?_
        rw [Nat.add_assoc]
        exact .dp cv hc' hr
    · cases hst
  · cases hst
end
end Go.Proofs.Ytjmmompbmjhkpaa.Calc
