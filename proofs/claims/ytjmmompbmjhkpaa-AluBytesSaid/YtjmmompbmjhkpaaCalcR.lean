/- The calculus, part 14a: 'stepA' and the model: structs and arrays compared, texts made. No condition beyond those in each lemma. -/
import Derived.Test.YtjmmompbmjhkpaaCalcD
import Derived.Laws.StructEq
import Derived.ChangeKeysEq
import Derived.Laws.IdiomStrings
namespace Go.Proofs.Ytjmmompbmjhkpaa.Calc
open Go
set_option linter.unusedSimpArgs false
variable {X : Nat → Prop}

theorem eqLv_length : ∀ {ks : List CK} {xs ys : List Value} {r : Bool}, eqLv ks xs ys = some r → xs.length = ks.length ∧ ys.length = ks.length := by
  intro ks
  induction ks with
  | nil => intro xs ys r h; cases xs <;> cases ys <;> simp [eqLv] at h ⊢
  | cons k ks ih =>
    intro xs ys r h
    cases xs with
    | nil => simp [eqLv] at h
    | cons x xs =>
      cases ys with
      | nil => simp [eqLv] at h
      | cons y ys =>
        simp only [eqLv] at h
        split at h
        · rename_i h2
          have := ih h2
          simp [this.1, this.2]
        · cases h
theorem eqLv_append : ∀ {ks ls : List CK} {xs ys : List Value} {r : Bool}, eqLv (ks ++ ls) xs ys = some r →
    ∃ a b, eqLv ks (xs.take ks.length) (ys.take ks.length) = some a ∧ eqLv ls (xs.drop ks.length) (ys.drop ks.length) = some b ∧ r = (a && b) := by
  intro ks
  induction ks with
  | nil => intro ls xs ys r h; exact ⟨true, r, by simp [eqLv], by simpa using h, by simp⟩
  | cons k ks ih =>
    intro ls xs ys r h
    cases xs with
    | nil => simp [eqLv] at h
    | cons x xs =>
      cases ys with
      | nil => simp [eqLv] at h
      | cons y ys =>
        simp only [List.cons_append, eqLv] at h
        split at h
        · rename_i p q hp hq
          obtain ⟨a, b, h1, h2, rfl⟩ := ih hq
          cases h
          exact ⟨p && a, b, by simp [eqLv, hp, h1], by simpa using h2, by simp [Bool.and_assoc]⟩
        · cases h

/-- A value out of its cells. -/
def asV (P : Program) (t : TypeId) (cs : List Value) : Value := match P.underlying t with
  | some (.struct _) => .agg cs.toArray
  | some (.array _ _) => .agg cs.toArray
  | _ => cs.headD undef

section
variable {P : Program}
theorem run_partV (w : World) {t : TypeId} {ks : List CK} {d : Nat} (hs : shp P d t = some ks) (hc : P.cellsOf t = ks.length) (xs : List Value) {off : Nat} (hl : off + ks.length ≤ xs.length) (hk : ∀ u, P.underlying t = some u → (∀ fs, u ≠ .struct fs) → (∀ n e, u ≠ .array n e) → ks.length = 1) :
    (part t xs.toArray off).run P w = .ok (asV P t ((xs.drop off).take ks.length)) w := by
  cases d with
  | zero => simp [shp] at hs
  | succ d =>
    cases hu : P.underlying t with
    | none => simp [shp, hu] at hs
    | some u =>
      obtain ⟨i, hi⟩ := info_of_underlying hu
      have hsz : i.size = ks.length := by rw [← hc]; simp [Program.cellsOf, hi]
      have agg : (∃ fs, u = .struct fs) ∨ (∃ n e, u = .array n e) → (part t xs.toArray off).run P w = .ok (asV P t ((xs.drop off).take ks.length)) w := by
        intro h
        have e : xs.toArray.extract off (off + ks.length) = ((xs.drop off).take ks.length).toArray := by
          apply Array.ext'
          rw [Array.toList_extract]
          simp [List.extract]
        rcases h with ⟨fs, rfl⟩ | ⟨n, e', rfl⟩ <;> simp [part, isAgg, run_underlying hu, sizeOf, typeInfo, hi, hsz, asV, hu, e]
      have one : (∀ fs, u ≠ .struct fs) → (∀ n e, u ≠ .array n e) → (part t xs.toArray off).run P w = .ok (asV P t ((xs.drop off).take ks.length)) w := by
        intro h1 h2
        have hl1 := hk u hu h1 h2
        have hlt : off < xs.length := by omega
        have e : asV P t ((xs.drop off).take ks.length) = xs[off] := by
          have e1 : asV P t ((xs.drop off).take ks.length) = ((xs.drop off).take ks.length).headD undef := by
            unfold asV
            rw [hu]
            cases u <;> first | rfl | exact absurd rfl (h1 _) | exact absurd rfl (h2 _ _)
          rw [e1, hl1, List.drop_eq_getElem_cons hlt]; rfl
        rw [e]
        have ha : (isAgg t).run P w = .ok false w := by
          simp only [isAgg, Sem.run_bind, run_underlying hu, Result.andThen_ok]
          cases u <;> first | rfl | exact absurd rfl (h1 _) | exact absurd rfl (h2 _ _)
        simp [part, ha, hlt]
      cases u with
      | struct fs => exact agg (.inl ⟨fs, rfl⟩)
      | array n e => exact agg (.inr ⟨n, e, rfl⟩)
      | _ => exact one nofun nofun

theorem shp_one {d : Nat} {t : TypeId} {ks : List CK} (hs : shp P d t = some ks) : ∀ u, P.underlying t = some u → (∀ fs, u ≠ .struct fs) → (∀ n e, u ≠ .array n e) → ks.length = 1 := by
  intro u hu h1 h2
  cases d with
  | zero => simp [shp] at hs
  | succ d =>
    simp only [shp, hu] at hs
    cases u <;> first | (exact absurd rfl (h1 _)) | (exact absurd rfl (h2 _ _)) | (simp at hs; done) | (simp at hs; subst hs; rfl)

/-- Values of a plain type are compared cell by cell. -/
theorem run_eq_shp : ∀ (d : Nat) (t : TypeId) (ks : List CK), shp P d t = some ks → ∀ (w : World) (D : Nat) (cx cy : List Value) (r : Bool), eqLv ks cx cy = some r →
    (Op.equalIn (D + d) t (asV P t cx) (asV P t cy)).run P w = .ok r w := by
  intro d
  induction d with
  | zero => intro t ks h; simp [shp] at h
  | succ d ih =>
    intro t ks hs w D cx cy r hr
    cases hu : P.underlying t with
    | none => simp [shp, hu] at hs
    | some u =>
      simp only [shp, hu] at hs
      have single : ∀ k : CK, ks = [k] → ∃ x y, cx = [x] ∧ cy = [y] ∧ eqC k x y = some r := by
        rintro k rfl
        obtain ⟨h1, h2⟩ := eqLv_length hr
        obtain ⟨x, rfl⟩ := List.length_eq_one_iff.1 h1
        obtain ⟨y, rfl⟩ := List.length_eq_one_iff.1 h2
        refine ⟨x, y, rfl, rfl, ?_⟩
        simp only [eqLv] at hr
        split at hr
        · rename_i a b ha hb; cases hb; cases hr; simpa using ha
        · cases hr
      cases u <;> try (simp at hs; done)
      case bool =>
        simp at hs
        obtain ⟨x, y, rfl, rfl, h⟩ := single .b hs.symm
        cases x <;> cases y <;> simp [eqC] at h
        rename_i a b
        subst h
        simp [asV, hu, Op.equalIn, run_underlying hu]
      case int k =>
        simp at hs
        obtain ⟨x, y, rfl, rfl, h⟩ := single (.i k) hs.symm
        cases x <;> cases y <;> simp [eqC] at h
        rename_i k1 a k2 b
        obtain ⟨⟨h1, h2⟩, h3⟩ := h
        subst h1; subst h2; subst h3
        simp only [asV, hu, List.headD_cons]
        rw [show D + (d + 1) = D + d + 1 from rfl, run_equalIn_int (P := P) w (D + d) t _ _ a b hu]
        rfl
      case string =>
        simp at hs
        obtain ⟨x, y, rfl, rfl, h⟩ := single .s hs.symm
        cases x <;> cases y <;> simp [eqC] at h
        rename_i a b
        subst h
        simp only [asV, hu, List.headD_cons]
        rw [show D + (d + 1) = D + d + 1 from rfl, run_equalIn_string w (D + d) t a b hu, bytes_eq]
      case array n e =>
        dsimp only at hs
        split at hs
        · rename_i l hl
          split at hs
          · rename_i hcc
            obtain ⟨hce, hpos⟩ := hcc
            simp only [Option.some.injEq] at hs
            subst hs
            simp only [asV, hu]
            have hie : ∃ i, P.info? e = some i := by
              cases d with
              | zero => simp [shp] at hl
              | succ d =>
                cases hue : P.underlying e with
                | none => simp [shp, hue] at hl
                | some _ => exact info_of_underlying hue
            obtain ⟨i, hi⟩ := hie
            rw [show D + (d + 1) = D + d + 1 from rfl, run_equalIn_array w (D + d) cx.toArray cy.toArray hu hi]
            have key : ∀ (m j : Nat) (r : Bool), eqLv (List.replicate m l).flatten (cx.drop (j * l.length)) (cy.drop (j * l.length)) = some r →
                (Op.eqItems (D + d) e (P.cellsOf e) cx.toArray cy.toArray (List.range' j m)).run P w = .ok r w := by
              intro m
              induction m with
              | zero =>
                intro j r h
                simp only [List.replicate_zero, List.flatten_nil] at h
                have : r = true := by
                  cases hx : cx.drop (j * l.length) <;> cases hy : cy.drop (j * l.length) <;> rw [hx, hy] at h <;> simp [eqLv] at h
                  exact h
                subst this
                simp [Op.eqItems]
              | succ m ihm =>
                intro j r h
                rw [List.replicate_succ, List.flatten_cons] at h
                obtain ⟨a, b, h1, h2, rfl⟩ := eqLv_append h
                obtain ⟨g1, g2⟩ := eqLv_length h1
                rw [List.length_take, List.length_drop] at g1 g2
                have hx := run_partV w hl hce cx (off := j * l.length) (by omega) (shp_one hl)
                have hy := run_partV w hl hce cy (off := j * l.length) (by omega) (shp_one hl)
                have he := ih e l hl w D _ _ _ h1
                have h3 := ihm (j + 1) b (by rw [Nat.add_mul, Nat.one_mul]; simpa [List.drop_drop] using h2)
                rw [List.range'_succ]
                simp only [Op.eqItems, Sem.run_bind, hce, hx, hy, he, Result.andThen_ok]
                cases a
                · simp
                · rw [hce] at h3; simpa using h3
            rw [List.range_eq_range']
            exact key n 0 r (by simpa using hr)
          · cases hs
        · cases hs
      case struct fs =>
        dsimp only at hs
        split at hs
        · cases hs
        · rename_i hp
          simp only [asV, hu]
          have hfs : P.fieldsOf t = fs := by simp [Program.fieldsOf, hu]
          rw [show D + (d + 1) = D + d + 1 from rfl, run_equalIn_struct w (D + d) t cx.toArray cy.toArray (by rw [hfs]; exact hu) (by simpa using hp), hfs]
          have key : ∀ (l : List Field) (o : Nat) (ks : List CK) (r : Bool), shpF P (shp P d) l o = some ks → eqLv ks (cx.drop o) (cy.drop o) = some r →
              (Op.eqFields (D + d) cx.toArray cy.toArray l).run P w = .ok r w := by
            intro l
            induction l with
            | nil =>
              intro o ks r h1 h2
              simp [shpF] at h1; subst h1
              have : r = true := by
                cases hx : cx.drop o <;> cases hy : cy.drop o <;> rw [hx, hy] at h2 <;> simp [eqLv] at h2
                exact h2
              subst this
              simp [Op.eqFields]
            | cons f l ihl =>
              intro o ks r h1 h2
              simp only [shpF] at h1
              split at h1
              · rename_i kf hkf
                split at h1
                · rename_i hcc
                  obtain ⟨hn, ho, hce, hpos⟩ := hcc
                  obtain ⟨kr, h3, rfl⟩ := Option.map_eq_some_iff.1 h1
                  obtain ⟨a, b, e1, e2, rfl⟩ := eqLv_append h2
                  obtain ⟨g1, g2⟩ := eqLv_length e1
                  rw [List.length_take, List.length_drop] at g1 g2
                  have hz := shp_one hkf
                  have hx := run_partV w hkf hce cx (off := o) (by omega) hz
                  have hy := run_partV w hkf hce cy (off := o) (by omega) hz
                  have he := ih f.type kf hkf w D _ _ _ e1
                  have h4 := ihl (o + kf.length) kr b h3 (by simpa [List.drop_drop] using e2)
                  simp only [Op.eqFields, hn, ne_eq, not_false_eq_true, if_true, Sem.run_bind, ho, hx, hy, he, Result.andThen_ok]
                  cases a
                  · simp
                  · simpa using h4
                · cases h1
              · cases h1
          exact key _ 0 _ _ hs (by simpa using hr)

theorem plainL_rel {w : World} {ι : List Place} : ∀ {xs : List V} {us : List Value} {vs : List Value}, plainL xs = some us → vs.length = xs.length → (∀ (i : Nat) (v : Value) (y : V), vs[i]? = some v → xs[i]? = some y → Rel w (OX X ι) ι v y) → vs = us := by
  intro xs
  induction xs with
  | nil => intro us vs h hl _; simp [plainL] at h; subst h; exact List.eq_nil_of_length_eq_zero (by simpa using hl)
  | cons x xs ih =>
    intro us vs h hl hr
    cases vs with
    | nil => simp at hl
    | cons v vs =>
      cases x <;> simp only [plainL, reduceCtorEq] at h
      rename_i u
      obtain ⟨us', h1, rfl⟩ := Option.map_eq_some_iff.1 h
      have h0 := (hr 0 v _ rfl rfl).c_eq
      have h2 := ih (vs := vs) h1 (by simpa using hl) (fun i v' y hv hy => hr (i + 1) v' y (by simpa using hv) (by simpa using hy))
      rw [h0, h2]
theorem plainA_rel {w : World} {ι : List Place} {v : Value} {y : V} {us : List Value} (hx : Rel w (OX X ι) ι v y) (h : plainA y = some us) : v = .agg us.toArray := by
  unfold plainA at h
  split at h
  · rename_i cs
    cases hx with
    | agg hl hs hh =>
      rename_i vs
      have := plainL_rel (w := w) (ι := ι) (vs := vs.toList) h (by simpa using hl) (fun i v y hv hy => hh i v y (by simpa using hv) hy)
      rw [← this]
  · cases h
    rw [hx.c_eq]
  · cases h
theorem run_eqs {op : BinOp} {ne : Bool} {t : TypeId} {ks : List CK} {xo yo : Operand} {us vs : List Value} {b : Bool} (w : World) (hs : shp P 20 t = some ks) (hg : P.eqGuardType P.depth t = false)
    (ht : (∃ fs, P.underlying t = some (.struct fs)) ∨ ∃ n e, P.underlying t = some (.array n e)) (hop : op = if ne then .neq else .eql) (he : eqLv ks us vs = some b) :
    (do eqGuard op t xo yo (.agg us.toArray) (.agg vs.toArray); binOp op t (.agg us.toArray) (.agg vs.toArray)).run P w = .ok (.bool (xor ne b)) w := by
  have h := run_eq_shp 20 t ks hs w 9980 us vs b he
  have e1 : asV P t us = .agg us.toArray := by rcases ht with ⟨fs, hu⟩ | ⟨n, e, hu⟩ <;> simp [asV, hu]
  have e2 : asV P t vs = .agg vs.toArray := by rcases ht with ⟨fs, hu⟩ | ⟨n, e, hu⟩ <;> simp [asV, hu]
  rw [e1, e2] at h
  subst hop
  cases ne
  · simp only [Bool.false_eq_true, if_false, Sem.run_bind, run_eqGuard_agg w _ _ _ _ _ _ hg, Result.andThen_ok, run_eql_struct]
    rw [h]; simp
  · simp only [if_true, Sem.run_bind, run_eqGuard_agg w _ _ _ _ _ _ hg, Result.andThen_ok, run_neq_struct]
    rw [h]; simp

/-- Bytes of a text as cells. -/
theorem st_s2b {w : World} {ι : List Place} {h : List Blk} {ev : AO → V} {bl : Nat → Option Blk} {c : Nat} {x : V} {ups : List (Nat × Blk)} {news : List Blk} {R : List Nat} (H : HRel X w ι h) {src dst e : TypeId} (hs : P.underlying src = some .string) (hd : P.underlying dst = some (.slice e)) (he : P.underlying e = some (.int .u8))
    {v : Value} {xo : AO} (hx : Rel w (OX X ι) ι v (ev xo)) (hst : stepA (.s2b xo) ev bl c = some (x, ups, news, R)) (hnew : ∀ i, i < news.length → ∃ k, h[c + i]? = some k ∧ k.ver = 0) :
    OkV X P w ι (convert src dst v) x (appN (appU h ups) c news) := by
  simp only [stepA] at hst
  split at hst
  · rename_i s e1
    rw [e1] at hx
    obtain rfl := hx.c_eq
    cases hst
    have hrun := run_bytes_of_string w src dst e s hs hd he
    obtain ⟨cap, hcap⟩ : ∃ cap, grownCap w s.size 0 e = cap := ⟨_, rfl⟩
    have hge : s.size ≤ cap := by rw [← hcap]; exact grownCap_ge w _ _ _
    rw [hcap] at hrun
    have hsz : (bytesRow s cap).size = cap := by
      simp only [bytesRow, Array.size_append, Array.size_map, Array.size_replicate]
      have : s.data.size = s.size := rfl
      omega
    rw [hsz] at hrun
    obtain ⟨k, hk, hv⟩ := hnew 0 (by simp)
    rw [Nat.add_zero] at hk
    obtain ⟨p, hp, B⟩ := H.at hk
    have hlt := (List.getElem?_eq_some_iff.1 hp).1
    have key := H.set (w' := w.drew.alloc (.cells (bytesRow s cap) e (cap, cap + 1))) hp ⟨w.heap.size, 0, 1, s.size, cap, 1, true⟩ ⟨1, 1, s.data.toList.map fun b => [.c (.int .u8 b.toNat)]⟩
      (by show w.heap.size ≤ (w.heap.push _).size; rw [Array.size_push]; omega) (fun r hr _ => by
        show (w.heap.push _)[r]? = _
        rw [Array.getElem?_push, if_neg (by omega)]) rfl rfl rfl
      (fun _ => .inr (Nat.le_refl _)) (.inr (by show p.ver < 1; rw [← B.ver, hv]; decide)) rfl rfl Nat.one_pos (by rw [List.length_map]; rfl) hge (fun row hr => by obtain ⟨q, _, rfl⟩ := List.mem_map.1 hr; rfl)
      (fun _ => ⟨bytesRow s cap, e, (cap, cap + 1), by show (w.heap.push _)[w.heap.size]? = _; simp, by simp [hsz], fun j h1 h2 => by simp at h2 ⊢; omega, fun i j y hy => by
        unfold cellOf at hy
        rw [List.getElem?_map] at hy
        cases hi : s.data.toList[i]? with
        | none => rw [hi] at hy; simp at hy
        | some q =>
          rw [hi] at hy
          simp only [Option.map_some, Option.bind_some] at hy
          cases j with
          | zero =>
            simp at hy; subst hy
            refine ⟨.int .u8 q.toNat, ?_, rfl, .c⟩
            have hil := (List.getElem?_eq_some_iff.1 hi).1
            simp only [Nat.zero_add, Nat.mul_one, Nat.add_zero, bytesRow]
            rw [Array.getElem?_append_left (by simpa using hil)]
            simp at hi ⊢
            exact ⟨q, hi, rfl⟩
          | succ j => simp at hy⟩) (by simp)
    refine ⟨_, _, _, hrun, key.1, .psl ⟨w.heap.size, 0, 1, s.size, cap, 1, true⟩ (by rw [List.getElem?_set, if_pos rfl, if_pos hlt]) (Nat.le_refl _) (fun _ => ⟨_, cap, rfl, hge, by simp, by simp, .inr ⟨rfl, by simp⟩⟩), key.2.1, key.2.2⟩
  · cases hst
theorem run_clear {t ty e : TypeId} {z : List Value} (w : World) (ht : P.underlying t = some (.slice e)) (hz : zeroOf P e = some z) (a : Addr) (n cap : Nat) (hn : n ≠ 0) :
    (Builtin.clear_ #[t] ty #[.slice (some a) n cap]).run P w = ((storeCells a (Builtin.zeroCells z.toArray n).toList).run P w).andThen fun _ w' => .ok (.tuple #[]) w' := by
  obtain ⟨zv, z1, z2, _, _⟩ := run_zeroValue hz w
  unfold Builtin.clear_
  obtain ⟨m, rfl⟩ : ∃ m, n = m + 1 := ⟨n - 1, by omega⟩
  simp [run_underlying ht, z1, z2]
theorem run_clear0 {t ty e : TypeId} (w : World) (ht : P.underlying t = some (.slice e)) (a : Option Addr) (n cap : Nat) (hn : a = none ∨ n = 0) :
    (Builtin.clear_ #[t] ty #[.slice a n cap]).run P w = .ok (.tuple #[]) w := by
  unfold Builtin.clear_
  rcases hn with rfl | rfl
  · simp [run_underlying ht]
  · cases a <;> simp [run_underlying ht]
theorem st_clr {w : World} {ι : List Place} {h : List Blk} {ev : AO → V} {bl : Nat → Option Blk} {c : Nat} {x : V} {ups : List (Nat × Blk)} {news : List Blk} {R : List Nat} (H : HRel X w ι h) {t ty e : TypeId} {z : List Value} (ht : P.underlying t = some (.slice e)) (hz : zeroOf P e = some z)
    {v : Value} {xo : AO} (hx : Rel w (OX X ι) ι v (ev xo)) (hst : stepA (.clr z xo) ev bl c = some (x, ups, news, R)) (hbl : ∀ b ∈ R, bl b = h[b]?) :
    OkV X P w ι (Builtin.clear_ #[t] ty #[v]) x (appN (appU h ups) c news) := by
  simp only [stepA] at hst
  split at hst
  · rename_i b ver off len e1
    rw [e1] at hx
    split at hst
    · rename_i B hB
      split at hst
      · rename_i hc
        obtain ⟨hver, hesz⟩ := hc
        cases hst
        have hb := hbl b (by simp)
        rw [hB] at hb
        obtain ⟨p, hp, hpv, hP, hBR⟩ := psl_at H hx hb.symm hver
        obtain ⟨ad, cap, rfl, q1, q2, q3, q4⟩ := hP
        have hpe : p.esz = z.length := by rw [← hBR.esz, hesz]
        have he0 : 0 < z.length := by rw [← hpe]; exact hBR.pos
        have hoff : off + len ≤ B.rows.length := by rw [hBR.num]; omega
        obtain ⟨_, _, _, hzs, _⟩ := run_zeroValue hz w
        by_cases hl0 : len = 0
        · subst hl0
          have hsame : ({ B with rows := B.rows.take off ++ List.replicate 0 (z.map .c) ++ B.rows.drop (off + 0) } : Blk) = B := by simp
          have hset : h.set b B = h := by
            apply List.ext_getElem?
            intro i
            rw [List.getElem?_set]
            by_cases hbi : b = i
            · subst hbi; rw [if_pos rfl, ← hb]; split
              · rfl
              · rename_i hnl; rw [hb]; exact (List.getElem?_eq_none (by omega)).symm
            · rw [if_neg hbi]
          simp only [appU, appN, hsame, hset]
          exact OkV.same H (run_clear0 w ht _ _ _ (.inr rfl)) (.tup rfl (by simp))
        · rcases q4 with rfl | ⟨hreal, rfl⟩
          · omega
          obtain ⟨cs, T, fz, g1, gC⟩ := hBR.cells hreal
          obtain ⟨l, hl⟩ : ∃ l, (Builtin.zeroCells z.toArray len).toList = l := ⟨_, rfl⟩
          have hll : l.length = len * z.length := by rw [← hl, Array.length_toList, zeroCells_size]; simp
          have hget : ∀ i j, i < len → j < z.length → l[i * z.length + j]? = z[j]? := by
            intro i j hi hj
            have hlt : i * z.length + j < len * z.length := by
              have : (i + 1) * z.length ≤ len * z.length := Nat.mul_le_mul_right _ hi
              rw [Nat.add_mul, Nat.one_mul] at this; omega
            have := zeros_get z len (i * z.length + j) he0 hlt
            rw [← hl]
            simp only [Builtin.zeroCells] at this ⊢
            rw [Array.getElem?_toList]
            rw [show z.toArray.size = z.length by simp] at this ⊢
            rw [this]
            simp only [mul_mod_row hj]
            exact (List.getElem?_eq_getElem hj).symm
          have hsc : ∀ u ∈ l, scal u = true := by
            intro u hu
            obtain ⟨k, hk⟩ := List.mem_iff_getElem?.1 hu
            have hkl := (List.getElem?_eq_some_iff.1 hk).1
            rw [hll] at hkl
            have hm := Nat.mod_lt k he0
            have hd : k / z.length < len := (Nat.div_lt_iff_lt_mul he0).2 hkl
            have e2 : k / z.length * z.length + k % z.length = k := by rw [Nat.mul_comm]; exact Nat.div_add_mod k z.length
            have := hget _ _ hd hm
            rw [e2, hk] at this
            exact List.all_eq_true.1 hzs u (List.mem_of_getElem? this.symm)
          have hnewl : (List.replicate len (z.map V.c)).length = len := by simp
          have hnewr : ∀ row ∈ List.replicate len (z.map V.c), row.length = p.esz := fun row hm => by rw [List.eq_of_mem_replicate hm, hpe]; simp
          have hmul : (off + len) * p.esz ≤ p.cap * p.esz := Nat.mul_le_mul_right _ (by have := hBR.fit; omega)
          rw [Nat.add_mul] at hmul
          obtain ⟨s0, s1, s2, s3⟩ := spliced (off := off) gC hBR.rows hnewr (vs := l) (by rw [hnewl, hpe]; exact hll) hsc (fun i j y hi hy => by
            rw [hnewl] at hi
            obtain ⟨_, hj⟩ := cellOf_replicate _ _ _ _ _ hy
            rw [List.getElem?_map] at hj
            obtain ⟨q, hq, rfl⟩ := Option.map_eq_some_iff.1 hj
            have hjl := (List.getElem?_eq_some_iff.1 hq).1
            exact ⟨q, by rw [hpe, hget i j hi hjl]; exact hq, .c⟩) (by rw [hnewl]; have := hBR.fit; omega)
          have hrun := run_storeCells (P := P) (r := p.row) (o := p.off + off * p.esz) (T := T) (fz := fz) l 0 w cs g1 (by have := gC.1; rw [hll, ← hpe]; omega)
            (fun j h1 h2 => gC.2.1 j (by omega) (by rw [hll, ← hpe] at h2; omega)) hsc
          rw [Nat.add_zero] at hrun
          have hlt := (Array.getElem?_eq_some_iff.1 g1).1
          have hto : (B.rows.take off).length = off := by rw [List.length_take]; omega
          have key := H.set (w' := World.row w p.row (.cells (splice cs (p.off + off * p.esz) l) T fz)) hp p { B with rows := B.rows.take off ++ List.replicate len (z.map .c) ++ B.rows.drop (off + len) }
            (by simp) (fun i hi hne => World.row_other _ _ _ _ (hne hreal)) rfl rfl rfl (fun _ => .inl ⟨hreal, rfl⟩) (.inl rfl) hBR.ver hBR.esz hBR.pos
            (by have := hBR.num; simp only [List.length_append, List.length_take, List.length_drop, List.length_replicate]; omega) hBR.fit
            (fun row hm => by
              simp only [List.mem_append] at hm
              rcases hm with (hm | hm) | hm
              · exact hBR.rows row (List.mem_of_mem_take hm)
              · exact hnewr row hm
              · exact hBR.rows row (List.mem_of_mem_drop hm))
            (fun _ => ⟨_, T, fz, World.row_get _ _ _ hlt, by rw [s0]; exact gC.1, gC.2.1, fun i j y hy => by
              have hy : cellOf (B.rows.take off ++ List.replicate len (z.map .c) ++ B.rows.drop (off + len)) i j = some y := hy
              rw [List.append_assoc, cellOf_append, hto] at hy
              split at hy
              · rename_i hi
                have := cellOf_drop_take B.rows 0 off i j
                simp only [List.drop_zero, if_pos hi, Nat.zero_add] at this
                rw [this] at hy
                exact s1 i j y hi hy
              · rename_i hi
                rw [cellOf_append, hnewl] at hy
                split at hy
                · have := s2 (i - off) j y hy
                  have e5 : off + (i - off) = i := by omega
                  rw [e5] at this; exact this
                · rename_i hi2
                  have e6 : cellOf (B.rows.drop (off + len)) (i - off - len) j = cellOf B.rows i j := by
                    unfold cellOf
                    rw [List.getElem?_drop]
                    congr 2; omega
                  rw [e6] at hy
                  exact s3 i j y (by rw [hnewl]; omega) hy⟩)
            (fun hf => by rw [hreal] at hf; cases hf)
          refine ⟨.tuple #[], _, _, ?_, key.1, .tup rfl (by simp), key.2.1, key.2.2⟩
          rw [run_clear w ht hz _ _ _ hl0, hl, hrun]; rfl
      · cases hst
    · cases hst
  · rename_i e1
    rw [e1] at hx
    cases hst
    obtain rfl := hx.c_eq
    exact OkV.same H (run_clear0 w ht _ _ _ (.inl rfl)) (.tup rfl (by simp))
  · cases hst
/-- A part of a text. -/
theorem run_slice_str {t : TypeId} (ht : P.underlying t = some .string) {s : ByteArray} {lo hi : Option Value} {l hh : Int} (w : World)
    (hlo : ∀ v, lo = some v → ∃ k, v = .int k l) (hlo' : lo = none → l = 0) (hhi : ∀ v, hi = some v → ∃ k, v = .int k hh) (hhi' : hi = none → hh = s.size) (h0 : 0 ≤ l) (h1 : l ≤ hh) (h2 : hh ≤ s.size) :
    (Instr.sliceAt t (.string s) lo hi none).run P w = .ok (.string (s.extract l.toNat hh.toNat)) w := by
  have hb : (Instr.sliceBounds false s.size s.size lo hi none).run P w = .ok (l.toNat, hh.toNat, s.size) w := by
    have sb : ∀ (v : Value) (n : Int) (y : Nat) (code : BoundsCode), (∃ k, v = .int k n) → 0 ≤ n → n ≤ y → (Instr.sliceBound v y code).run P w = .ok n.toNat w := by
      rintro v n y code ⟨k, rfl⟩ h h'
      simp [Instr.sliceBound, asIntOf, h, h']
    cases lo with
    | none =>
      have := hlo' rfl
      subst this
      cases hi with
      | none => have := hhi' rfl; subst this; simp [Instr.sliceBounds]
      | some u => simp [Instr.sliceBounds, sb u hh s.size _ (hhi u rfl) (by omega) h2]
    | some v =>
      cases hi with
      | none =>
        have := hhi' rfl; subst this
        simp [Instr.sliceBounds, sb v l s.size _ (hlo v rfl) h0 (by omega)]
      | some u => simp [Instr.sliceBounds, sb u hh s.size _ (hhi u rfl) (by omega) h2, sb v l hh.toNat _ (hlo v rfl) h0 (by omega)]
  simp only [Instr.sliceAt, Instr.slice, Sem.run_bind, run_underlying ht, Result.andThen_ok, hb, Option.isSome_none, Bool.false_eq_true, if_false, Sem.run_pure]
end
end Go.Proofs.Ytjmmompbmjhkpaa.Calc
