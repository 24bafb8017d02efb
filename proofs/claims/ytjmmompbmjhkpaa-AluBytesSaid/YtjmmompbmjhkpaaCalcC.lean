/- The calculus, part 12: 'stepA' and the model: append. No condition beyond those in each lemma. -/
import Derived.Test.YtjmmompbmjhkpaaCalcB
namespace Go.Proofs.Ytjmmompbmjhkpaa.Calc
open Go
variable {X : Nat → Prop}

theorem growBy_le (n : Nat) : ∀ (rounds c : Nat), Builtin.growBy n rounds c ≤ max c (n + n / 4 + 1024) := by
  intro rounds
  induction rounds with
  | zero => intro c; simp only [Builtin.growBy]; omega
  | succ r ih =>
    intro c
    simp only [Builtin.growBy]
    split
    · omega
    · have := ih (c + (c + 768) / 4); omega
theorem nextcap_le (n c : Nat) (h : c < n) : Builtin.nextslicecap n c ≤ n + n / 4 + 1024 := by
  unfold Builtin.nextslicecap
  split
  · omega
  · split
    · omega
    · have := growBy_le n 4 c; omega

section
variable {P : Program} {w : World} {ι : List Place} {h : List Blk} {ev : AO → V} {bl : Nat → Option Blk} {c : Nat} {x : V} {ups : List (Nat × Blk)} {news : List Blk} {R : List Nat}

theorem zeroCells_size (z : Array Value) (n : Nat) : (Builtin.zeroCells z n).size = n * z.size := by simp [Builtin.zeroCells]

/-- What append does. -/
theorem run_append {t t2 ty e e2 : TypeId} {ti : TypeInfo} {z : List Value} (ht : P.underlying t = some (.slice e)) (ht2 : P.underlying t2 = some (.slice e2)) (hi : P.info? e = some ti) (hz : zeroOf P e = some z)
    {base ua : Option Addr} {len cap un ucap : Nat} {l : List Value} (hl : (Builtin.firstCells ti.size un (.slice ua un ucap)).run P w = .ok l.toArray w) :
    (len + un ≤ cap → (Builtin.append_ #[t, t2] ty #[.slice base len cap, .slice ua un ucap]).run P w = match base with
      | some a => ((storeCells (a.add (len * ti.size)) l).run P w).andThen fun _ w' => .ok (.slice (some a) (len + un) cap) w'
      | none => .ok (.slice none (len + un) cap) w) ∧
    (cap < len + un → 0 < ti.bytes → ti.bytes * (len + un + (len + un) / 4 + 1024) ≤ 2 ^ 48 → ∀ old : List Value, (∀ w', (∀ r, r < w.heap.size → w'.heap[r]? = w.heap[r]?) → (Builtin.firstCells ti.size len (.slice base len cap)).run P w' = .ok old.toArray w' ∧ (Builtin.firstCells ti.size un (.slice ua un ucap)).run P w' = .ok l.toArray w') →
      ∃ newCap : Nat, len + un ≤ newCap ∧ (Builtin.append_ #[t, t2] ty #[.slice base len cap, .slice ua un ucap]).run P w =
        .ok (.slice (some ⟨w.heap.size, 0, none⟩) (len + un) newCap) (w.drew.alloc (.cells (old.toArray ++ l.toArray ++ Builtin.zeroCells z.toArray (newCap - (len + un))) e))) := by
  obtain ⟨zv, z1, z2, z3, z4⟩ := run_zeroValue hz w
  have hsz : szOf P e = some ti.size := by simp [szOf, hi]
  have hti : ∀ w', (typeInfo e).run P w' = .ok ti w' := fun w' => by simp [typeInfo, hi]
  have hzv : ∀ w', (zeroValue e).run P w' = .ok zv w' := fun w' => by
    have h1 := z1
    simp only [zeroValue, Sem.run_bind, hti, Result.andThen_ok] at h1 ⊢
    cases hh : ti.zero with
    | none => rw [hh] at h1; simp [unsupported] at h1
    | some q => rw [hh] at h1; simp at h1; simp [h1]
  constructor
  · intro hle
    unfold Builtin.append_
    simp only [List.getElem?_toArray, List.getElem?_cons_zero, List.getElem?_cons_succ]
    simp only [Sem.run_bind, run_underlying ht, run_underlying ht2, Result.andThen_ok, run_sizeOf hsz, Sem.run_pure, run_lenOf, Bool.false_eq_true, if_false, Bool.not_false, if_true, Sem.run_ite, if_pos hle, hl]
    cases base <;> simp
  · intro hlt hb0 hb old hw
    have hcap : Builtin.nextslicecap (len + un) cap * ti.bytes ≤ 2 ^ 48 := by
      have h1 := nextcap_le (len + un) cap hlt
      have h2 : Builtin.nextslicecap (len + un) cap * ti.bytes ≤ (len + un + (len + un) / 4 + 1024) * ti.bytes := Nat.mul_le_mul_right _ h1
      rw [Nat.mul_comm] at hb
      exact Nat.le_trans h2 hb
    refine ⟨len + un + (w.tape w.drawn (.appendCap (len + un) cap e)) % (2 ^ 63 - (len + un)), by omega, ?_⟩
    obtain ⟨hw1, hw2⟩ := hw w.drew (fun r _ => rfl)
    unfold Builtin.append_
    simp only [List.getElem?_toArray, List.getElem?_cons_zero, List.getElem?_cons_succ]
    simp only [Sem.run_bind, run_underlying ht, run_underlying ht2, Result.andThen_ok, run_sizeOf hsz, Sem.run_pure, run_lenOf, Bool.false_eq_true, if_false, Bool.not_false, if_true, Sem.run_ite, if_neg (Nat.not_le.2 hlt)]
    have c1 : ¬ ((((len + un : Nat) : Int) > IntKind.i64.max) ∧ (False ∨ ti.bytes = 0)) := by
      rintro ⟨_, h | h⟩
      · exact h
      · omega
    have c2 : ¬ (Builtin.nextslicecap (len + un) cap * ti.bytes > 2 ^ 48) := by omega
    have hch : (choose (.appendCap (len + un) cap e)).run P w = .ok (len + un + (w.tape w.drawn (.appendCap (len + un) cap e)) % (2 ^ 63 - (len + un))) w.drew := rfl
    rw [hti]
    simp only [Result.andThen_ok]
    rw [if_neg c1]
    rw [hti]
    simp only [Result.andThen_ok]
    rw [if_neg c2, hch]
    simp only [Result.andThen_ok, hti, run_askRoom, hw1, hw2, hzv, z2, newRow, Sem.run_bind, run_newObj, Sem.run_pure]
    rfl

/-- The source of an append: nil, or rows. -/
theorem src_rows (H : HRel X w ι h) {v : Value} {y : V} {esz e : Nat} {new : List (List V)} (hx : Rel w (OX X ι) ι v y)
    (hr : srcOf bl esz y = some (e, new)) (hbl : ∀ b ∈ vlook y, bl b = h[b]?) (he : e = esz) (h0 : 0 < esz) :
    (∀ row ∈ new, row.length = esz) ∧ (∃ a cap, v = .slice a new.length cap) ∧ ∃ l : List Value, l.length = new.length * esz ∧ (∀ w' : World, (∀ r, r < w.heap.size → w'.heap[r]? = w.heap[r]?) → (Builtin.firstCells esz new.length v).run P w' = .ok l.toArray w') ∧ (∀ u ∈ l, scal u = true) ∧
      ∀ i j z, i < new.length → cellOf new i j = some z → ∃ u, l[i * esz + j]? = some u ∧ Rel w (OX X ι) ι u z := by
  subst he
  unfold srcOf at hr
  split at hr
  · cases hr
    obtain rfl := hx.c_eq
    exact ⟨by simp, ⟨none, 0, rfl⟩, [], by simp, fun w' _ => by simp [Builtin.firstCells], by simp, fun i j z hi => by simp at hi⟩
  · exact read_rows H hx hr hbl h0 new.length (Nat.le_refl _)

theorem st_app (H : HRel X w ι h) {t t2 ty e e2 : TypeId} {ti : TypeInfo} {z : List Value} (ht : P.underlying t = some (.slice e)) (ht2 : P.underlying t2 = some (.slice e2)) (hi : P.info? e = some ti) (hz : zeroOf P e = some z)
    {v u : Value} {xo yo : AO} (hx : Rel w (OX X ι) ι v (ev xo)) (hy : Rel w (OX X ι) ι u (ev yo))
    (hst : stepA (.app ti.size ti.bytes xo yo) ev bl c = some (x, ups, news, R)) (hbl : ∀ b ∈ R, bl b = h[b]?) (hnew : ∀ i, i < news.length → ∃ k, h[c + i]? = some k ∧ k.ver = 0) :
    OkV X P w ι (Builtin.append_ #[t, t2] ty #[v, u]) x (appN (appU h ups) c news) := by
  simp only [stepA] at hst
  split at hst
  · rename_i q e0 new hsrc
    split at hst
    · rename_i hc
      obtain ⟨rfl, he0, hb0⟩ := hc
      split at hst
      · -- nil
        rename_i e1
        rw [e1] at hx
        obtain rfl := hx.c_eq
        split at hst
        · rename_i hn
          cases hst
          obtain ⟨r1, ⟨ua, ucap, rfl⟩, l, r2, r3, r4, r5⟩ := src_rows (P := P) H hy hsrc hbl rfl he0
          have := (run_append (ty := ty) (base := none) (len := 0) (cap := 0) ht ht2 hi hz (r3 w (fun _ _ => rfl))).1 (by omega)
          refine OkV.same H this ?_
          rw [hn]; exact .c
        · rename_i hn
          split at hst
          · rename_i hbytes
            cases hst
            obtain ⟨r1, ⟨ua, ucap, rfl⟩, l, r2, r3, r4, r5⟩ := src_rows (P := P) H hy hsrc hbl rfl he0
            obtain ⟨newCap, n1, n2⟩ := (run_append (ty := ty) (base := none) (len := 0) (cap := 0) ht ht2 hi hz (r3 w (fun _ _ => rfl))).2 (by omega) hb0 (by rw [Nat.zero_add]; exact hbytes) [] (fun w' hw => ⟨by simp [Builtin.firstCells], r3 w' hw⟩)
            rw [Nat.zero_add] at n1 n2
            have hzl : z.length = ti.size := by
              obtain ⟨_, _, _, _, z4⟩ := run_zeroValue hz w
              simp [szOf, hi] at z4; exact z4.symm
            obtain ⟨ι', g1, g2, g3, g4⟩ := mk_block (w := w.drew) (H.grown (w' := w.drew) ⟨Nat.le_refl _, fun _ _ _ => rfl, fun _ h => .inl h, rfl, rfl, rfl⟩ (fun _ _ => rfl)) (c := c) (by simpa using hnew 0 (by simp)) e
              (([] : List Value).toArray ++ l.toArray ++ Builtin.zeroCells z.toArray (newCap - new.length)) new ti.size newCap he0 n1 r1
              (by rw [Array.size_append, Array.size_append, zeroCells_size]; simp only [List.size_toArray, List.length_nil, hzl]; rw [r2, Nat.zero_add, ← Nat.add_mul]; exact Nat.le_of_eq (by congr 1; omega))
              (fun i j y hy => by
                obtain ⟨h1, h2⟩ := cellOf_lt r1 hy
                obtain ⟨uu, h3, h4⟩ := r5 i j y h1 hy
                refine ⟨uu, ?_, r4 uu (List.mem_of_getElem? h3), h4.mono (show Frm w (OX X ι) w.drew (OX X ι) from ⟨Nat.le_refl _, fun _ _ _ => rfl, fun _ h => .inl h, rfl, rfl, rfl⟩) (Refs.refl _)⟩
                have h5 := (List.getElem?_eq_some_iff.1 h3).1
                rw [Array.getElem?_append_left (by simp; omega), Array.getElem?_append_right (by simp)]
                simpa using h3)
            have hF : Frm w (Own ι) w.drew (Own ι) := ⟨Nat.le_refl _, fun _ _ _ => rfl, fun _ h => .inl h, rfl, rfl, rfl⟩
            exact ⟨_, _, ι', n2, g1, .psl _ g4 (Nat.le_refl _) (fun _ => ⟨_, newCap, rfl, n1, by simp, by simp, .inr ⟨rfl, by simp⟩⟩), hF.trans g2, g3⟩
          · cases hst
      · -- a block of one's own
        rename_i b ver off len e1
        rw [e1] at hx
        split at hst
        · rename_i B hB
          split at hst
          · rename_i hc
            obtain ⟨hver, hesz, hall, hbytes⟩ := hc
            cases hst
            have hb := hbl b (by simp)
            rw [hB] at hb
            obtain ⟨r1, ⟨ua, ucap, rfl⟩, l, r2, r3, r4, r5⟩ := src_rows (P := P) H hy hsrc (fun b hb => hbl b (by simp [hb])) rfl he0
            have hrl : rowsOf bl (.psl b ver off len) = some (ti.size, (B.rows.drop off).take len) := by simp [rowsOf, hB, hver, hesz]
            obtain ⟨o1, ⟨oa, ocap, o2⟩, ol, o3, o4, o5, o6⟩ := read_rows (P := P) H hx hrl (fun b' hb' => by
              simp [vlook] at hb'; subst hb'; rw [hB]; exact hb) he0 len (by rw [List.length_take, List.length_drop]; omega)
            obtain ⟨p, hp, hpv, hP, hBR⟩ := psl_at H hx hb.symm hver
            obtain ⟨ad, cap, rfl, q1, q2, q3, q4⟩ := hP
            have hpe : p.esz = ti.size := by rw [← hBR.esz, hesz]
            have hdl : ((B.rows.drop off).take len).length = len := by rw [List.length_take, List.length_drop]; omega
            have hrows' : ∀ row ∈ (B.rows.drop off).take len ++ new, row.length = ti.size := fun row hm => by
              rw [List.mem_append] at hm
              rcases hm with hm | hm
              · exact o1 row hm
              · exact r1 row hm
            have hR := run_append (ty := ty) (base := ad) (len := len) (cap := cap) ht ht2 hi hz (r3 w (fun _ _ => rfl))
            by_cases hroom : len + new.length ≤ cap
            · -- there is room
              by_cases hcap : cap = 0
              · -- nothing at all
                have hl0 : len = 0 := by omega
                have hn0 : new.length = 0 := by omega
                have hnil : (B.rows.drop off).take len ++ new = [] := List.eq_nil_of_length_eq_zero (by rw [List.length_append, hdl]; omega)
                have hle : l = [] := List.eq_nil_of_length_eq_zero (by rw [r2, hn0, Nat.zero_mul])
                have key := H.set (w' := w) hp ⟨0, 0, ti.size, 0, 0, ver + 1, false⟩ ⟨ver + 1, ti.size, (B.rows.drop off).take len ++ new⟩ (Nat.le_refl _) (fun _ _ _ => rfl) rfl rfl rfl (by simp) (.inr (by show p.ver < ver + 1; omega)) rfl rfl he0
                  (by rw [hnil]; rfl) (Nat.le_refl _) hrows' (by simp) (fun _ => rfl)
                refine ⟨.slice ad (len + new.length) cap, w, _, ?_, key.1, ?_, key.2.1, key.2.2⟩
                · rw [hR.1 hroom, hle]
                  cases ad <;> simp [storeCells]
                · refine .psl ⟨0, 0, ti.size, 0, 0, ver + 1, false⟩ (by rw [List.getElem?_set, if_pos rfl, if_pos (List.getElem?_eq_some_iff.1 hp).1]) (Nat.le_refl _) (fun _ => ⟨ad, cap, rfl, hroom, ?_, ?_, .inl hcap⟩)
                  · show 0 + (len + new.length) ≤ 0; omega
                  · show 0 + cap ≤ 0; omega
              · rcases q4 with rfl | ⟨hreal, rfl⟩
                · omega
                obtain ⟨cs, T, fz, g1, gC⟩ := hBR.cells hreal
                have hnewr : ∀ row ∈ new, row.length = p.esz := fun row hm => by rw [hpe]; exact r1 row hm
                obtain ⟨s0, s1, s2, s3⟩ := spliced (off := off + len) gC hBR.rows hnewr (by rw [hpe]; exact r2) r4 (fun i j z hi hz => by rw [hpe]; exact r5 i j z hi hz) (by omega)
                have hmul : (off + len + new.length) * p.esz ≤ p.cap * p.esz := Nat.mul_le_mul_right _ (by omega)
                rw [Nat.add_mul] at hmul
                have hfit := gC.1
                have hrun := run_storeCells (P := P) (r := p.row) (o := p.off + (off + len) * p.esz) (T := T) (fz := fz) l 0 w cs g1 (by rw [r2, ← hpe]; omega)
                  (fun j h1 h2 => gC.2.1 j (by omega) (by rw [r2, ← hpe] at h2; omega)) r4
                rw [Nat.add_zero] at hrun
                have hlt := (Array.getElem?_eq_some_iff.1 g1).1
                have hmul2 : (off + cap) * p.esz ≤ p.cap * p.esz := Nat.mul_le_mul_right _ q3
                rw [Nat.add_mul] at hmul2
                have key := H.set (w' := World.row w p.row (.cells (splice cs (p.off + (off + len) * p.esz) l) T fz)) hp ⟨p.row, p.off + off * p.esz, ti.size, len + new.length, cap, ver + 1, true⟩ ⟨ver + 1, ti.size, (B.rows.drop off).take len ++ new⟩
                  (by simp) (fun i hi hne => World.row_other _ _ _ _ (hne hreal)) rfl rfl rfl (fun _ => .inl ⟨hreal, rfl⟩) (.inr (by show p.ver < ver + 1; omega)) rfl rfl he0
                  (by rw [List.length_append, hdl]) hroom hrows'
                  (fun _ => ⟨_, T, fz, World.row_get _ _ _ hlt, by rw [s0]; show p.off + off * p.esz + cap * ti.size ≤ _; rw [← hpe]; omega, fun j h1 h2 => gC.2.1 j (by have h1 : p.off + off * p.esz ≤ j := h1; omega) (by have h2 : j < p.off + off * p.esz + cap * ti.size := h2; rw [← hpe] at h2; omega), fun i j z hz => by
                    have hz : cellOf ((B.rows.drop off).take len ++ new) i j = some z := hz
                    show ∃ v, (splice cs (p.off + (off + len) * p.esz) l)[p.off + off * p.esz + i * ti.size + j]? = some v ∧ _
                    rw [← hpe]
                    rw [cellOf_append, hdl] at hz
                    split at hz
                    · rename_i hil
                      have hz' : cellOf B.rows (off + i) j = some z := by
                        rw [cellOf_drop_take, if_pos hil] at hz; exact hz
                      have := s1 (off + i) j z (by omega) hz'
                      have e10 : (off + i) * p.esz = off * p.esz + i * p.esz := Nat.add_mul _ _ _
                      rw [e10] at this
                      have e5 : p.off + (off * p.esz + i * p.esz) + j = p.off + off * p.esz + i * p.esz + j := by omega
                      rw [e5] at this; exact this
                    · rename_i hil
                      have := s2 (i - len) j z hz
                      have e6 : off + len + (i - len) = off + i := by omega
                      have e10 : (off + i) * p.esz = off * p.esz + i * p.esz := Nat.add_mul _ _ _
                      rw [e6, e10] at this
                      have e5 : p.off + (off * p.esz + i * p.esz) + j = p.off + off * p.esz + i * p.esz + j := by omega
                      rw [e5] at this; exact this⟩)
                  (by simp)
                refine ⟨.slice (some ⟨p.row, p.off + off * p.esz, none⟩) (len + new.length) cap, _, _, ?_, key.1, ?_, key.2.1, key.2.2⟩
                · rw [hR.1 hroom]
                  simp only [add_plain]
                  have e7 : p.off + off * p.esz + len * ti.size = p.off + (off + len) * p.esz := by rw [hpe, Nat.add_mul]; omega
                  rw [e7, hrun]; rfl
                · refine .psl _ (by rw [List.getElem?_set, if_pos rfl, if_pos (List.getElem?_eq_some_iff.1 hp).1]) (Nat.le_refl _) (fun _ => ⟨_, cap, rfl, hroom, ?_, ?_, .inr ⟨rfl, ?_⟩⟩)
                  · show 0 + (len + new.length) ≤ len + new.length; omega
                  · show 0 + cap ≤ cap; omega
                  · simp
            · -- it moves
              obtain ⟨newCap, n1, n2⟩ := hR.2 (by omega) hb0 hbytes ol (fun w' hw => ⟨o4 w' hw, r3 w' hw⟩)
              have hzl : z.length = ti.size := by
                obtain ⟨_, _, _, _, z4⟩ := run_zeroValue hz w
                simp [szOf, hi] at z4; exact z4.symm
              have hF0 : Frm w (Own ι) w.drew (Own ι) := ⟨Nat.le_refl _, fun _ _ _ => rfl, fun _ h => .inl h, rfl, rfl, rfl⟩
              have H0 : HRel X w.drew ι h := H.grown (w' := w.drew) hF0 (fun _ _ => rfl)
              have key := H0.set (w' := w.drew.alloc (.cells (ol.toArray ++ l.toArray ++ Builtin.zeroCells z.toArray (newCap - (len + new.length))) e)) hp ⟨w.heap.size, 0, ti.size, len + new.length, newCap, ver + 1, true⟩ ⟨ver + 1, ti.size, (B.rows.drop off).take len ++ new⟩
                (by simp) (fun i hi _ => by
                  show (w.drew.heap.push _)[i]? = _
                  rw [Array.getElem?_push, if_neg (by have : i < w.drew.heap.size := hi; omega)]) rfl rfl rfl (fun _ => .inr (Nat.le_refl _)) (.inr (by show p.ver < ver + 1; omega)) rfl rfl he0
                (by rw [List.length_append, hdl]) n1 hrows'
                (fun _ => ⟨_, e, (0, 0), by show (w.drew.heap.push _)[w.heap.size]? = _; exact Array.getElem?_push_size, by
                    show 0 + newCap * ti.size ≤ _
                    rw [Array.size_append, Array.size_append, zeroCells_size]; simp only [List.size_toArray, hzl]; rw [o3, r2, ← Nat.add_mul, ← Nat.add_mul]
                    have e9 : len + new.length + (newCap - (len + new.length)) = newCap := by omega
                    rw [e9, Nat.zero_add]; exact Nat.le_refl _,
                  fun j _ _ => by simp, fun i j zz hz => by
                    have hz : cellOf ((B.rows.drop off).take len ++ new) i j = some zz := hz
                    show ∃ v, (ol.toArray ++ l.toArray ++ Builtin.zeroCells z.toArray (newCap - (len + new.length)))[0 + i * ti.size + j]? = some v ∧ _
                    rw [Nat.zero_add]
                    have hj := (cellOf_lt hrows' hz).2
                    rw [cellOf_append, hdl] at hz
                    have hsz : (ol.toArray ++ l.toArray).size = (len + new.length) * ti.size := by simp [o3, r2, Nat.add_mul]
                    split at hz
                    · rename_i hil
                      obtain ⟨uu, h3, h4⟩ := o6 i j zz hil hz
                      have h5 := (List.getElem?_eq_some_iff.1 h3).1
                      refine ⟨uu, ?_, o5 uu (List.mem_of_getElem? h3), h4.mono (hF0.x X) (Refs.refl _)⟩
                      rw [Array.getElem?_append_left (by rw [hsz, Nat.add_mul]; omega), Array.getElem?_append_left (by simpa using h5)]
                      simpa using h3
                    · rename_i hil
                      have hn := (cellOf_lt r1 hz).1
                      obtain ⟨uu, h3, h4⟩ := r5 (i - len) j zz hn hz
                      have h5 := (List.getElem?_eq_some_iff.1 h3).1
                      have e8 : i * ti.size + j = len * ti.size + ((i - len) * ti.size + j) := by
                        have : i = len + (i - len) := by omega
                        rw [show i * ti.size = (len + (i - len)) * ti.size by rw [← this], Nat.add_mul]; omega
                      refine ⟨uu, ?_, r4 uu (List.mem_of_getElem? h3), h4.mono (hF0.x X) (Refs.refl _)⟩
                      rw [e8, Array.getElem?_append_left (by rw [hsz, Nat.add_mul]; omega), Array.getElem?_append_right (by simp [o3])]
                      simp only [List.size_toArray, o3, Nat.add_sub_cancel_left, List.getElem?_toArray]
                      exact h3⟩)
                (by simp)
              refine ⟨_, _, _, n2, key.1, ?_, hF0.trans key.2.1, key.2.2⟩
              refine .psl _ (by rw [List.getElem?_set, if_pos rfl, if_pos (List.getElem?_eq_some_iff.1 hp).1]) (Nat.le_refl _) (fun _ => ⟨_, newCap, rfl, n1, ?_, ?_, .inr ⟨rfl, ?_⟩⟩)
              · show 0 + (len + new.length) ≤ len + new.length; omega
              · show 0 + newCap ≤ newCap; omega
              · simp
          · cases hst
        · cases hst
      · cases hst
    · cases hst
  · cases hst
end
end Go.Proofs.Ytjmmompbmjhkpaa.Calc
