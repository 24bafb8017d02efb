/- The calculus, part 9: 'stepA' and the model, operation by operation: slices that are written out, parts of slices, lengths. No condition beyond those in each lemma. -/
import Derived.Test.YtjmmompbmjhkpaaCalc8
namespace Go.Proofs.Ytjmmompbmjhkpaa.Calc
open Go
variable {X : Nat → Prop}
section
variable {P : Program} {w : World} {ι : List Place} {h : List Blk} {ev : AO → V} {bl : Nat → Option Blk} {c : Nat} {x : V} {ups : List (Nat × Blk)} {news : List Blk} {R : List Nat}

def RowsRel (X : Nat → Prop) (w : World) (ι : List Place) (cs : Array Value) (rows : List (List V)) (esz : Nat) : Prop :=
  (∀ row ∈ rows, row.length = esz) ∧ cs.size = rows.length * esz ∧ ∀ i j y, cellOf rows i j = some y → ∃ v, cs[i * esz + j]? = some v ∧ scal v = true ∧ Rel w (OX X ι) ι v y

theorem cellOf_lt {rows : List (List V)} {esz : Nat} (hr : ∀ row ∈ rows, row.length = esz) {i j : Nat} {y : V} (hy : cellOf rows i j = some y) : i < rows.length ∧ j < esz := by
  unfold cellOf at hy
  cases hi : rows[i]? with
  | none => rw [hi] at hy; simp at hy
  | some row =>
    rw [hi] at hy
    have h1 := hr row (List.mem_of_getElem? hi)
    have h2 := (List.getElem?_eq_some_iff.1 (show row[j]? = some y from hy)).1
    exact ⟨(List.getElem?_eq_some_iff.1 hi).1, by omega⟩

theorem RowsRel.set {cs : Array Value} {rows : List (List V)} {esz : Nat} (hl : RowsRel X w ι cs rows esz) (vs : Array Value) (zs : List V) (i : Nat) (hsz : vs.size = zs.length) (hz : zs.length = esz) (hi : i < rows.length)
    (hs : ∀ (i : Nat) (c : Value), vs[i]? = some c → scal c = true) (hr : ∀ (i : Nat) (c : Value) (y : V), vs[i]? = some c → zs[i]? = some y → Rel w (OX X ι) ι c y) :
    i * esz + esz ≤ cs.size ∧ RowsRel X w ι (splice cs (i * esz) vs.toList) (rows.set i zs) esz := by
  obtain ⟨h1, h2, h3⟩ := hl
  have hin : i * esz + esz ≤ cs.size := by
    have : (i + 1) * esz ≤ rows.length * esz := Nat.mul_le_mul_right _ hi
    rw [Nat.add_mul, Nat.one_mul] at this
    omega
  have hvl : vs.toList.length = esz := by simp; omega
  refine ⟨hin, ⟨fun row hrow => ?_, by rw [splice_size, List.length_set, h2], fun i' j y hy => ?_⟩⟩
  · rcases List.mem_or_eq_of_mem_set hrow with h4 | rfl
    · exact h1 row h4
    · exact hz
  · rw [splice_get _ _ _ _ (by omega), hvl]
    rcases cellOf_set _ _ _ _ _ _ hy with ⟨rfl, hy'⟩ | ⟨hne, hy'⟩
    · have hj := (List.getElem?_eq_some_iff.1 hy').1
      rw [if_pos (by omega)]
      have e : i' * esz + j - i' * esz = j := by omega
      rw [e]
      have hjv : j < vs.size := by omega
      exact ⟨vs[j], by simp [hjv], hs j _ (by simp [hjv]), hr j _ y (by simp [hjv]) hy'⟩
    · have hj := (cellOf_lt h1 hy').2
      have := row_apart (k := 0) (n := esz) hj (by omega) hne
      rw [if_neg (by omega)]
      exact h3 i' j y hy'

theorem fillR_ok (H : HRel X w ι h) {sl : Nat → V} {a : Act} (hs : SlRel X w ι sl a) {esz : Nat} :
    ∀ (parts : List (Nat × Operand)) (ps : List (Nat × AO)), (parts.mapM fun (p : Nat × Operand) => (compO p.2).map fun y => (p.1, y)) = some ps →
    ∀ (cs : Array Value) (rows rows' : List (List V)) (R' : List Nat), RowsRel X w ι cs rows esz → fillR bl (AO.ev sl) esz rows ps = some (rows', R') → (∀ b ∈ R', bl b = h[b]?) →
    ∃ cs', Instr.fill (fun i => some (i * esz, esz)) cs (parts.map fun p => (p.1, a.eval p.2)) = some cs' ∧ RowsRel X w ι cs' rows' esz ∧ rows'.length = rows.length := by
  intro parts
  induction parts with
  | nil =>
    intro ps hps cs rows rows' R' hl hf _
    simp at hps; subst hps
    simp only [fillR, Option.some.injEq, Prod.mk.injEq] at hf
    obtain ⟨rfl, rfl⟩ := hf
    exact ⟨cs, rfl, hl, rfl⟩
  | cons p parts ih =>
    intro ps hps cs rows rows' R' hl hf hbl
    obtain ⟨i, o⟩ := p
    simp only [List.mapM_cons] at hps
    cases ho : compO o with
    | none => rw [ho] at hps; simp at hps
    | some y =>
      rw [ho] at hps
      simp only [Option.bind_some, Option.map_some, Option.bind_eq_bind] at hps
      obtain ⟨ps', h1, h2⟩ := Option.bind_eq_some_iff.1 hps
      simp at h2
      subst h2
      simp only [fillR] at hf
      split at hf
      · cases hf
      · rename_i l hlv
        split at hf
        · rename_i hc
          obtain ⟨⟨r1, r2⟩, h3, h4⟩ := Option.map_eq_some_iff.1 hf
          simp only [Prod.mk.injEq] at h4
          obtain ⟨rfl, rfl⟩ := h4
          obtain ⟨g1, g2, g3⟩ := vcells_rel H (AO.ev_rel hs ho) hlv (fun b hb => hbl b (by simp [hb]))
          obtain ⟨hin, hset⟩ := hl.set (a.eval o).cells l i g1 hc.1 hc.2 g2 g3
          obtain ⟨cs', e1, e2, e3⟩ := ih ps' h1 (splice cs (i * esz) (a.eval o).cells.toList) (rows.set i l) _ _ hset h3 (fun b hb => hbl b (by simp [hb]))
          refine ⟨cs', ?_, e2, by rw [e3, List.length_set]⟩
          simp only [List.map_cons, Instr.fill]
          rw [if_neg (by simp only [Bool.or_eq_true, decide_eq_true_eq]; rw [g1, hc.1]; omega), zip_splice']
          exact e1
        · cases hf

theorem zeros_rows (z : List Value) (n m : Nat) (h0 : 0 < z.length) (hs : z.all scal = true) (hnm : n ≤ m) :
    ∀ i j y, cellOf (List.replicate n (z.map V.c)) i j = some y → ∃ v, ((Array.range (m * z.length)).map (z.toArray[· % z.toArray.size]!))[i * z.length + j]? = some v ∧ scal v = true ∧ Rel w (OX X ι) ι v y := by
  intro i j y hy
  obtain ⟨hi, hj⟩ := cellOf_replicate _ _ _ _ _ hy
  rw [List.getElem?_map] at hj
  obtain ⟨q, hq, rfl⟩ := Option.map_eq_some_iff.1 hj
  have hjl := (List.getElem?_eq_some_iff.1 hq).1
  have hin : i * z.length + j < m * z.length := by
    have : (i + 1) * z.length ≤ m * z.length := Nat.mul_le_mul_right _ (by omega)
    rw [Nat.add_mul, Nat.one_mul] at this; omega
  refine ⟨q, ?_, List.all_eq_true.1 hs q (List.mem_of_getElem? hq), .c⟩
  rw [zeros_get z _ _ h0 hin]
  simp only [mul_mod_row hjl]
  rw [List.getElem?_eq_getElem hjl] at hq; exact hq

theorem st_bsl (H : HRel X w ι h) {sl : Nat → V} {a : Act} (hs : SlRel X w ι sl a) {t e : TypeId} {z : List Value} {len : Nat} {parts : Array (Nat × Operand)} {ps : List (Nat × AO)} (ht : P.underlying t = some (.slice e)) (hz : zeroOf P e = some z)
    (hp : (parts.toList.mapM fun (p : Nat × Operand) => (compO p.2).map fun y => (p.1, y)) = some ps)
    (hst : stepA (.bsl z len ps) (AO.ev sl) bl c = some (x, ups, news, R)) (hbl : ∀ b ∈ R, bl b = h[b]?) (hnew : ∀ i, i < news.length → ∃ k, h[c + i]? = some k ∧ k.ver = 0) :
    OkV X P w ι (Instr.buildSlice t len (parts.map fun (i, x) => (i, a.eval x))) x (appN (appU h ups) c news) := by
  simp only [stepA] at hst
  split at hst
  · rename_i hc
    split at hst
    · rename_i rows R' hf
      cases hst
      obtain ⟨zv, z1, z2, z3, z4⟩ := run_zeroValue hz w
      have hparts : (parts.map fun (i, x) => (i, a.eval x)).toList = parts.toList.map fun p => (p.1, a.eval p.2) := by simp
      have hinit : RowsRel X w ι ((Array.range (len * z.length)).map (z.toArray[· % z.toArray.size]!)) (List.replicate len (z.map V.c)) z.length :=
        ⟨by simp, by simp, zeros_rows z len len hc.1 z3 (Nat.le_refl _)⟩
      obtain ⟨cs', e1, e2, e3⟩ := fillR_ok H hs _ _ hp _ _ _ _ hinit hf hbl
      obtain ⟨r1, r2, r3⟩ := e2
      rw [List.length_replicate] at e3
      obtain ⟨ι', g1, g2, g3, g4⟩ := mk_block H (c := c) (by simpa using hnew 0 (by simp)) e cs' rows z.length len hc.1 (by omega) r1 (by rw [r2, e3]; exact Nat.le_refl _) r3
      refine ⟨.slice (some ⟨w.heap.size, 0, none⟩) len len, _, ι', ?_, g1, .psl _ g4 (Nat.le_refl _) (fun _ => ⟨_, len, rfl, Nat.le_refl _, by simp [e3], by simp, .inr ⟨rfl, by simp⟩⟩), g2, g3⟩
      simp only [Instr.buildSlice, Sem.run_bind, run_underlying ht, Result.andThen_ok, run_sizeOf z4]
      have hne : ¬ (len * z.length > 2 ^ 24) := by omega
      simp only [Sem.run_ite, if_neg hne, Sem.run_bind, Sem.run_pure, z1, Result.andThen_ok, z2, hparts]
      by_cases h0 : len * z.length = 0
      · rw [if_pos h0]
        rw [h0] at e1 ⊢
        have hz' : Array.range 0 = #[] := by simp [Array.range]
        rw [hz'] at e1 ⊢
        simp only [List.map_toArray, List.map_nil] at e1 ⊢
        rw [e1]
        simp [newRow]
      · rw [if_neg h0]
        rw [e1]
        simp [newRow]
    · cases hst
  · cases hst

theorem run_sliceBound {v : Value} {k : IntKind} {n : Int} (hv : v = .int k n) (y : Nat) (code : BoundsCode) (h0 : 0 ≤ n) (h1 : n ≤ y) : (Instr.sliceBound v y code).run P w = .ok n.toNat w := by
  subst hv
  simp only [Instr.sliceBound, asIntOf, Sem.run_bind, Sem.run_pure, Result.andThen_ok, Sem.run_ite, if_pos (And.intro h0 h1)]

/-- The bounds of a slice expression. -/
theorem run_bounds {len cap : Nat} {lo hi : Option Value} {l hh : Int} (hlo : ∀ v, lo = some v → ∃ k, v = .int k l) (hlo' : lo = none → l = 0) (hhi : ∀ v, hi = some v → ∃ k, v = .int k hh) (hhi' : hi = none → hh = len)
    (h0 : 0 ≤ l) (h1 : l ≤ hh) (h2 : hh ≤ cap) : (Instr.sliceBounds true len cap lo hi none).run P w = .ok (l.toNat, hh.toNat, cap) w := by
  cases hi with
  | none =>
    have e := hhi' rfl
    have e2 : hh.toNat = len := by omega
    cases lo with
    | none =>
      have := hlo' rfl
      subst this
      simp only [Instr.sliceBounds, Sem.run_bind, Sem.run_pure, Result.andThen_ok, e2]; rfl
    | some v =>
      obtain ⟨k, hv⟩ := hlo v rfl
      simp only [Instr.sliceBounds, Sem.run_bind, Sem.run_pure, Result.andThen_ok, run_sliceBound hv len _ h0 (by omega), e2]
  | some u =>
    obtain ⟨k', hu⟩ := hhi u rfl
    have hb := fun code => run_sliceBound (P := P) (w := w) hu cap code (by omega) h2
    cases lo with
    | none =>
      have := hlo' rfl
      subst this
      simp only [Instr.sliceBounds, Sem.run_bind, Sem.run_pure, Result.andThen_ok, hb]; rfl
    | some v =>
      obtain ⟨k, hv⟩ := hlo v rfl
      simp only [Instr.sliceBounds, Sem.run_bind, Sem.run_pure, Result.andThen_ok, hb, run_sliceBound hv hh.toNat _ h0 (by omega)]
end
end Go.Proofs.Ytjmmompbmjhkpaa.Calc
