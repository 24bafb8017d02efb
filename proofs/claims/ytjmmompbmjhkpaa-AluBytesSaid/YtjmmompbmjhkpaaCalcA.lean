/- The calculus, part 10: 'stepA' and the model, operation by operation: parts of slices, lengths, copy. No condition beyond those in each lemma. -/
import Derived.Test.YtjmmompbmjhkpaaCalc9
namespace Go.Proofs.Ytjmmompbmjhkpaa.Calc
open Go
variable {X : Nat → Prop}
section
variable {P : Program} {w : World} {ι : List Place} {h : List Blk} {ev : AO → V} {bl : Nat → Option Blk} {c : Nat} {x : V} {ups : List (Nat × Blk)} {news : List Blk} {R : List Nat}

theorem cellOf_drop_take (rows : List (List V)) (l n i j : Nat) : cellOf ((rows.drop l).take n) i j = if i < n then cellOf rows (l + i) j else none := by
  unfold cellOf
  rw [List.getElem?_take]
  split
  · rw [List.getElem?_drop]
  · rfl

theorem run_slice {t e : TypeId} {s : Nat} (ht : P.underlying t = some (.slice e)) (hs : szOf P e = some s) {a : Option Addr} {len cap : Nat} {lo hi : Option Value} {l hh : Int}
    (hlo : ∀ v, lo = some v → ∃ k, v = .int k l) (hlo' : lo = none → l = 0) (hhi : ∀ v, hi = some v → ∃ k, v = .int k hh) (hhi' : hi = none → hh = len) (h0 : 0 ≤ l) (h1 : l ≤ hh) (h2 : hh ≤ cap) :
    (Instr.sliceAt t (.slice a len cap) lo hi none).run P w = .ok (.slice (if cap = l.toNat then a else a.map (·.add (l.toNat * s))) (hh.toNat - l.toNat) (cap - l.toNat)) w := by
  simp only [Instr.sliceAt, Instr.slice, Sem.run_bind, run_underlying ht, Result.andThen_ok, run_bounds hlo hlo' hhi hhi' h0 h1 h2, run_sizeOf hs, Sem.run_pure]

theorem opt_lo {sl : Nat → V} {a : Act} (hs : SlRel X w ι sl a) {lo : Option Operand} {lo' : Option AO} (hc : compOpt lo = some lo') {d l : Int} (he : (lo'.map fun l => ofInt (AO.ev sl l)).getD (some d) = some l) :
    (∀ v, lo.map a.eval = some v → ∃ k, v = .int k l) ∧ (lo.map a.eval = none → l = d) := by
  cases lo with
  | none =>
    simp only [compOpt, Option.some.injEq] at hc; subst hc
    simp at he
    exact ⟨by simp, fun _ => he.symm⟩
  | some o =>
    simp only [compOpt] at hc
    obtain ⟨y, h1, rfl⟩ := Option.map_eq_some_iff.1 hc
    simp at he
    refine ⟨fun v hv => ?_, by simp⟩
    simp at hv; subst hv
    exact ofInt_rel (AO.ev_rel hs h1) he

theorem st_slc (H : HRel X w ι h) {sl : Nat → V} {a : Act} (hs : SlRel X w ι sl a) {t e : TypeId} {s : Nat} (ht : P.underlying t = some (.slice e)) (hsz : szOf P e = some s)
    {v : Value} {xo : AO} {lo hi : Option Operand} {lo' hi' : Option AO} (hx : Rel w (OX X ι) ι v (AO.ev sl xo)) (hlo : compOpt lo = some lo') (hhi : compOpt hi = some hi')
    (hst : stepA (.slc s xo lo' hi') (AO.ev sl) bl c = some (x, ups, news, R)) (hbl : ∀ b ∈ R, bl b = h[b]?) :
    OkV X P w ι (Instr.sliceAt t v (lo.map a.eval) (hi.map a.eval) none) x (appN (appU h ups) c news) := by
  simp only [stepA] at hst
  split at hst
  · rename_i b ver off len e1
    rw [e1] at hx
    split at hst
    · rename_i B l hh hB hl hh'
      split at hst
      · rename_i hc
        obtain ⟨hver, hesz, c1, c2, c3⟩ := hc
        cases hst
        have hb := hbl b (by simp)
        rw [hB] at hb
        obtain ⟨p, hp, hpv, hP, hBR⟩ := psl_at H hx hb.symm hver
        obtain ⟨ad, cap, rfl, q1, q2, q3, q4⟩ := hP
        obtain ⟨r1, r2⟩ := opt_lo hs hlo hl
        obtain ⟨r3, r4⟩ := opt_lo hs hhi hh'
        refine OkV.same H (run_slice ht hsz r1 r2 r3 r4 c1 c2 (by omega)) (.psl p hp (by omega) (fun _ => ⟨_, _, rfl, by omega, by omega, by omega, ?_⟩))
        have hes : p.esz = s := by rw [← hBR.esz, hesz]
        by_cases hcap : cap = l.toNat
        · left; omega
        · right
          rcases q4 with rfl | ⟨hreal, rfl⟩
          · omega
          · refine ⟨hreal, ?_⟩
            rw [if_neg hcap]
            simp [add_plain, hes, Nat.add_mul, Nat.add_assoc]
      · cases hst
    · cases hst
  · rename_i e0 rows e1
    rw [e1] at hx
    split at hst
    · rename_i l hh hl hh'
      split at hst
      · rename_i hc
        obtain ⟨rfl, c1, c2, c3⟩ := hc
        cases hst
        obtain ⟨r1, r2⟩ := opt_lo hs hlo hl
        obtain ⟨r3, r4⟩ := opt_lo hs hhi hh'
        cases hx with
        | slnil =>
          simp at c3
          have hl0 : l.toNat = 0 := by omega
          have hh0 : hh.toNat = 0 := by omega
          refine OkV.same H (run_slice ht hsz r1 r2 r3 (by simpa using r4) c1 c2 (by omega)) ?_
          rw [hl0, hh0]
          simp
          exact .slnil
        | @sl _ _ _ ad len cap cv hlen hcap hspot hesz hc hr =>
          refine OkV.same H (run_slice ht hsz r1 r2 r3 (by rw [← hlen]; exact r4) c1 c2 (by omega)) ?_
          have hlen' : ((rows.drop l.toNat).take (hh.toNat - l.toNat)).length = hh.toNat - l.toNat := by
            rw [List.length_take, List.length_drop]; omega
          have hrow : ∀ row ∈ (rows.drop l.toNat).take (hh.toNat - l.toNat), row.length = e0 := fun row hm => hesz row (List.mem_of_mem_drop (List.mem_of_mem_take hm))
          by_cases hz : len = 0
          · have hl0 : l.toNat = 0 := by omega
            have hh0 : hh.toNat = 0 := by omega
            have e2 : (if cap = l.toNat then some ad else (some ad).map (·.add (l.toNat * e0))) = some ad := by
              rw [hl0]; split
              · rfl
              · simp [Addr.add]
            rw [e2]
            have hrz : rows = [] := List.eq_nil_of_length_eq_zero (by omega)
            subst hrz
            exact .sl cv hlen' (by omega) (fun hpos => by omega) hrow (by simp [cellOf]) (by simp [cellOf])
          · obtain ⟨ab, ao, asp⟩ := ad
            obtain rfl := hspot (by omega)
            by_cases hcl : cap = l.toNat
            · rw [if_pos hcl]
              have hz2 : hh.toNat - l.toNat = 0 := by omega
              refine .sl cv hlen' (by omega) (fun _ => rfl) hrow ?_ ?_ <;>
                (intro i j y hy; rw [cellOf_drop_take, if_neg (by omega)] at hy; cases hy)
            · rw [if_neg hcl]
              simp only [Option.map_some, add_plain]
              refine .sl (fun i j => cv (l.toNat + i) j) hlen' (by omega) (fun _ => rfl) hrow (fun i j y hy => ?_) (fun i j y hy => ?_)
              · rw [cellOf_drop_take] at hy
                split at hy
                · have := hc _ _ _ hy
                  dsimp only at this ⊢
                  rw [Nat.add_mul] at this
                  have e3 : ao + l.toNat * e0 + i * e0 + j = ao + (l.toNat * e0 + i * e0) + j := by omega
                  rw [e3]; exact this
                · cases hy
              · rw [cellOf_drop_take] at hy
                split at hy
                · exact hr _ _ _ hy
                · cases hy
      · cases hst
    · cases hst
  · rename_i e1
    rw [e1] at hx
    split at hst
    · rename_i l hh hl hh'
      split at hst
      · rename_i hc
        obtain ⟨rfl, rfl⟩ := hc
        cases hst
        obtain rfl := hx.c_eq
        obtain ⟨r1, r2⟩ := opt_lo hs hlo hl
        obtain ⟨r3, r4⟩ := opt_lo hs hhi hh'
        refine OkV.same H (run_slice ht hsz r1 r2 r3 (by simp) (Int.le_refl _) (Int.le_refl _) (Int.le_refl _)) ?_
        simp
        exact .c
      · cases hst
    · cases hst
  · cases hst

theorem st_len (H : HRel X w ι h) {t e : TypeId} (ht : P.underlying t = some (.slice e)) {ty : TypeId}
    {v : Value} {xo : AO} (hx : Rel w (OX X ι) ι v (ev xo)) (hst : stepA (.len xo) ev bl c = some (x, ups, news, R)) (hbl : ∀ b ∈ R, bl b = h[b]?) :
    OkV X P w ι (Builtin.len_ #[t] ty #[v]) x (appN (appU h ups) c news) := by
  have hsl : ∀ a n cp, v = .slice a n cp → (Builtin.len_ #[t] ty #[v]).run P w = .ok (goInt n) w := by
    rintro a n cp rfl
    simp [Builtin.len_, run_underlying ht]
  simp only [stepA] at hst
  split at hst
  · rename_i b ver off len e1
    rw [e1] at hx
    split at hst
    · rename_i B hB
      split at hst
      · rename_i hver
        cases hst
        have hb := hbl b (by simp)
        rw [hB] at hb
        obtain ⟨p, hp, hpv, hP, hBR⟩ := psl_at H hx hb.symm hver
        obtain ⟨ad, cap, rfl, q1, q2, q3, q4⟩ := hP
        exact OkV.same H (hsl _ _ _ rfl) .c
      · cases hst
    · cases hst
  · rename_i e0 rows e1
    rw [e1] at hx
    cases hst
    cases hx with
    | slnil => exact OkV.same H (hsl _ _ _ rfl) .c
    | sl cv hlen => subst hlen; exact OkV.same H (hsl _ _ _ rfl) .c
  · rename_i e1
    rw [e1] at hx
    cases hst
    obtain rfl := hx.c_eq
    exact OkV.same H (hsl _ _ _ rfl) .c
  · cases hst

theorem pureS_eq {y : Option V} (hst : pureS y = some (x, ups, news, R)) : y = some x ∧ ups = [] ∧ news = [] := by
  unfold pureS at hst
  obtain ⟨z, h1, h2⟩ := Option.map_eq_some_iff.1 hst
  cases h2
  exact ⟨h1, rfl, rfl⟩

theorem st_lens (H : HRel X w ι h) {t : TypeId} (ht : P.underlying t = some .string) {ty : TypeId}
    {v : Value} {xo : AO} (hx : Rel w (OX X ι) ι v (ev xo)) (hst : stepA (.lens xo) ev bl c = some (x, ups, news, R)) :
    OkV X P w ι (Builtin.len_ #[t] ty #[v]) x (appN (appU h ups) c news) := by
  simp only [stepA] at hst
  obtain ⟨h1, rfl, rfl⟩ := pureS_eq hst
  split at h1
  · rename_i s e1
    rw [e1] at hx
    cases h1
    obtain rfl := hx.c_eq
    refine OkV.same H (cv := goInt s.size) ?_ .c
    simp [Builtin.len_, run_underlying ht]
  · cases h1

theorem st_capx (H : HRel X w ι h) {t e : TypeId} (ht : P.underlying t = some (.slice e)) {ty : TypeId}
    {v : Value} {xo : AO} (hx : Rel w (OX X ι) ι v (ev xo)) (hst : stepA (.capx xo) ev bl c = some (x, ups, news, R)) (hbl : ∀ b ∈ R, bl b = h[b]?) :
    OkV X P w ι (Builtin.cap_ #[t] ty #[v]) x (appN (appU h ups) c news) := by
  have hsl : ∀ a n cp, v = .slice a n cp → (Builtin.cap_ #[t] ty #[v]).run P w = .ok (goInt cp) w := by
    rintro a n cp rfl
    simp [Builtin.cap_, run_underlying ht]
  simp only [stepA] at hst
  split at hst
  · rename_i b ver off len e1
    rw [e1] at hx
    split at hst
    · rename_i B hB
      split at hst
      · rename_i hver
        cases hst
        have hb := hbl b (by simp)
        rw [hB] at hb
        obtain ⟨p, hp, hpv, hP, hBR⟩ := psl_at H hx hb.symm hver
        obtain ⟨ad, cap, rfl, q1, q2, q3, q4⟩ := hP
        exact OkV.same H (hsl _ _ _ rfl) .any
      · cases hst
    · cases hst
  · rename_i e0 rows e1
    rw [e1] at hx
    cases hst
    cases hx with
    | slnil => exact OkV.same H (hsl _ _ _ rfl) .any
    | sl cv hlen => exact OkV.same H (hsl _ _ _ rfl) .any
  · rename_i e1
    rw [e1] at hx
    cases hst
    obtain rfl := hx.c_eq
    exact OkV.same H (hsl _ _ _ rfl) .c
  · cases hst

/-- What a slice's elements are in the world. -/
theorem rows_at (H : HRel X w ι h) {v : Value} {y : V} {e : Nat} {rows : List (List V)} (hx : Rel w (OX X ι) ι v y) (hr : rowsOf bl y = some (e, rows)) (hbl : ∀ b ∈ vlook y, bl b = h[b]?) :
    (∀ row ∈ rows, row.length = e) ∧ ∃ a cap, v = .slice a rows.length cap ∧ rows.length ≤ cap ∧ (a = none → cap = 0) ∧ (0 < rows.length → ∃ r o, a = some ⟨r, o, none⟩ ∧
      ∀ i j z, cellOf rows i j = some z → ∃ u, w.cell? ⟨r, o + i * e + j, none⟩ = some u ∧ scal u = true ∧ Rel w (OX X ι) ι u z) := by
  unfold rowsOf at hr
  split at hr
  · rename_i e0 rows0
    cases hr
    cases hx with
    | slnil => exact ⟨by simp, none, 0, rfl, Nat.le_refl _, fun _ => rfl, fun h => by simp at h⟩
    | @sl _ _ _ ad len cap cv hlen hcap hspot hesz hc hr =>
      refine ⟨hesz, some ad, cap, by rw [hlen], by omega, (fun h => by cases h), fun hpos => ?_⟩
      obtain ⟨ab, ao, asp⟩ := ad
      obtain rfl := hspot (by omega)
      exact ⟨ab, ao, rfl, fun i j z hz => ⟨cv i j, (hc i j z hz).2.1, (hc i j z hz).2.2, (hr i j z hz).shrink (fun _ h => h) (Refs.nil _)⟩⟩
  · rename_i b ver off len
    have hb := hbl b (by simp [vlook])
    split at hr
    · rename_i k hk
      split at hr
      · rename_i hver
        cases hr
        rw [hk] at hb
        obtain ⟨p, hp, hpv, hP, hBR⟩ := psl_at H hx hb.symm hver
        obtain ⟨ad, cap, rfl, q1, q2, q3, q4⟩ := hP
        have hlen : ((k.rows.drop off).take len).length = len := by rw [List.length_take, List.length_drop, hBR.num]; omega
        refine ⟨fun row hm => by rw [hBR.esz]; exact hBR.rows row (List.mem_of_mem_drop (List.mem_of_mem_take hm)), ad, cap, by rw [hlen], by omega, ?_, fun hpos => ?_⟩
        · rintro rfl
          rcases q4 with h | ⟨_, h⟩
          · exact h
          · cases h
        · rcases q4 with rfl | ⟨hreal, rfl⟩
          · omega
          · refine ⟨_, _, rfl, fun i j z hz => ?_⟩
            rw [cellOf_drop_take] at hz
            split at hz
            · obtain ⟨cs, T, fz, g1, g2, g3, g4⟩ := hBR.cells hreal
              obtain ⟨u, e1, e2, e3⟩ := g4 _ _ _ hz
              refine ⟨u, ?_, e2, e3⟩
              have e4 : p.off + off * p.esz + i * k.esz + j = p.off + (off + i) * p.esz + j := by rw [hBR.esz, Nat.add_mul]; omega
              rw [e4]
              simpa [World.cell?, g1] using e1
            · cases hz
      · cases hr
    · cases hr
  · cases hr

/-- The cells of some rows, one behind the other. -/
theorem flat_cells {e : Nat} (hpos : 0 < e) {r o : Nat} (rows : List (List V)) (hrows : ∀ row ∈ rows, row.length = e)
    (hc : ∀ i j z, cellOf rows i j = some z → ∃ u, w.cell? ⟨r, o + i * e + j, none⟩ = some u ∧ scal u = true ∧ Rel w (OX X ι) ι u z) (n : Nat) (hn : n ≤ rows.length) :
    ∃ l : List Value, l.length = n * e ∧ (∀ k v, l[k]? = some v → w.cell? ⟨r, o + k, none⟩ = some v ∧ scal v = true) ∧
      ∀ i j z, i < n → cellOf rows i j = some z → ∃ v, l[i * e + j]? = some v ∧ Rel w (OX X ι) ι v z := by
  have hex : ∀ i j, i < rows.length → j < e → ∃ z, cellOf rows i j = some z := by
    intro i j hi hj
    have h1 := hrows rows[i] (List.getElem_mem hi)
    exact ⟨rows[i][j]'(by omega), by simp [cellOf, hi, h1, hj]⟩
  refine ⟨(List.range (n * e)).map fun k => (w.cell? ⟨r, o + k, none⟩).getD undef, by simp, fun k v hk => ?_, fun i j z hi hz => ?_⟩
  · simp only [List.getElem?_map, Option.map_eq_some_iff] at hk
    obtain ⟨k', hk', rfl⟩ := hk
    obtain ⟨h1, rfl⟩ := range_some hk'
    have hd : k / e < n := (Nat.div_lt_iff_lt_mul hpos).2 h1
    obtain ⟨z, hz⟩ := hex (k / e) (k % e) (by omega) (Nat.mod_lt _ hpos)
    obtain ⟨u, e1, e2, _⟩ := hc _ _ _ hz
    have e3 : o + k / e * e + k % e = o + k := by
      have := Nat.div_add_mod k e
      rw [Nat.mul_comm] at this; omega
    rw [e3] at e1
    rw [e1]
    exact ⟨rfl, e2⟩
  · have hj : j < e := (cellOf_lt hrows hz).2
    obtain ⟨u, e1, e2, e3⟩ := hc _ _ _ hz
    have hlt : i * e + j < n * e := by
      have : (i + 1) * e ≤ n * e := Nat.mul_le_mul_right _ hi
      rw [Nat.add_mul, Nat.one_mul] at this; omega
    refine ⟨u, ?_, e3⟩
    rw [List.getElem?_map, List.getElem?_range hlt, Option.map_some, ← Nat.add_assoc, e1]; rfl
end
end Go.Proofs.Ytjmmompbmjhkpaa.Calc
