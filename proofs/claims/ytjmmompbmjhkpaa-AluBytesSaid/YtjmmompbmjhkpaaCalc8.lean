/- The calculus, part 8: 'stepA' and the model, operation by operation: aggregates and slices that are written out, parts of slices, lengths, copies. No condition beyond those in each lemma. -/
import Derived.Test.YtjmmompbmjhkpaaCalc7
namespace Go.Proofs.Ytjmmompbmjhkpaa.Calc
open Go
variable {X : Nat → Prop}

theorem run_mapM_list {P : Program} {α β : Type} {f : α → Sem β} {g : α → β} {w : World} : ∀ (l : List α), (∀ x ∈ l, (f x).run P w = .ok (g x) w) → (l.mapM f).run P w = .ok (l.map g) w := by
  intro l
  induction l with
  | nil => intro _; simp
  | cons x l ih =>
    intro h
    simp only [List.mapM_cons, Sem.run_bind, h x (by simp), Result.andThen_ok, ih (fun y hy => h y (by simp [hy])), Sem.run_pure, List.map_cons]
theorem run_mapM {P : Program} {α β : Type} {f : α → Sem β} {g : α → β} {w : World} (l : Array α) (h : ∀ x ∈ l.toList, (f x).run P w = .ok (g x) w) : (l.mapM f).run P w = .ok (l.map g) w := by
  rw [Array.mapM_eq_mapM_toList]
  simp only [Sem.run_map, run_mapM_list l.toList h, Result.andThen_ok]
  congr 1
  apply Array.ext'
  simp

theorem zip_splice (l : List Value) : ∀ (cs : Array Value) (off k : Nat), (l.zipIdx k).foldl (fun cs (p : Value × Nat) => cs.setIfInBounds (off + p.2) p.1) cs = splice cs (off + k) l := by
  induction l with
  | nil => intro cs off k; rfl
  | cons v l ih => intro cs off k; simp only [List.zipIdx_cons, List.foldl_cons, splice]; rw [ih, Nat.add_assoc]
theorem zip_splice' (l : Array Value) (cs : Array Value) (off : Nat) : l.zipIdx.foldl (fun cs (p : Value × Nat) => cs.setIfInBounds (off + p.2) p.1) cs = splice cs off l.toList := by
  have := zip_splice l.toList cs off 0
  rw [Nat.add_zero] at this
  rw [← this, ← Array.foldl_toList, Array.toList_zipIdx]

section
variable {P : Program} {w : World} {ι : List Place} {h : List Blk} {ev : AO → V} {bl : Nat → Option Blk} {c : Nat} {x : V} {ups : List (Nat × Blk)} {news : List Blk} {R : List Nat}

/-- Cells and abstract cells, one by one. -/
def LRel (X : Nat → Prop) (w : World) (ι : List Place) (cs : Array Value) (ys : List V) : Prop :=
  cs.size = ys.length ∧ ∀ (i : Nat) (v : Value), cs[i]? = some v → scal v = true ∧ ∀ y : V, ys[i]? = some y → Rel w (OX X ι) ι v y
theorem LRel.splice {cs : Array Value} {ys : List V} (hl : LRel X w ι cs ys) (vs : Array Value) (zs : List V) (off : Nat) (hsz : vs.size = zs.length) (hoff : off + zs.length ≤ ys.length)
    (hs : ∀ (i : Nat) (c : Value), vs[i]? = some c → scal c = true) (hr : ∀ (i : Nat) (c : Value) (y : V), vs[i]? = some c → zs[i]? = some y → Rel w (OX X ι) ι c y) :
    LRel X w ι (Calc.splice cs off vs.toList) (spl ys off zs) := by
  obtain ⟨h1, h2⟩ := hl
  refine ⟨by rw [splice_size, spl_length, h1], fun i v hv => ?_⟩
  rw [splice_get _ _ _ _ (by simp; omega)] at hv
  have hlen : vs.toList.length = zs.length := by simpa using hsz
  rw [hlen] at hv
  by_cases hi : off ≤ i ∧ i < off + zs.length
  · rw [if_pos hi] at hv
    have hv' : vs[i - off]? = some v := by simpa using hv
    refine ⟨hs _ _ hv', fun y hy => ?_⟩
    rw [spl_get _ _ _ _ hoff, if_pos hi] at hy
    exact hr _ _ _ hv' hy
  · rw [if_neg hi] at hv
    obtain ⟨g1, g2⟩ := h2 i v hv
    refine ⟨g1, fun y hy => ?_⟩
    rw [spl_get _ _ _ _ hoff, if_neg hi] at hy
    exact g2 y hy
theorem LRel.consts (z : List Value) (hz : z.all scal = true) : LRel X w ι z.toArray (z.map .c) := by
  refine ⟨by simp, fun i v hv => ⟨List.all_eq_true.1 hz v (List.mem_of_getElem? (by simpa using hv)), fun y hy => ?_⟩⟩
  rw [List.getElem?_map] at hy
  have : z[i]? = some v := by simpa using hv
  rw [this] at hy; cases hy; exact .c
theorem LRel.agg {cs : Array Value} {ys : List V} (hl : LRel X w ι cs ys) : Rel w (OX X ι) ι (.agg cs) (.agg ys) :=
  .agg hl.1 (fun i c hc => (hl.2 i c hc).1) (fun i c y hc hy => (hl.2 i c hc).2 y hy)

theorem fill_ok (H : HRel X w ι h) {sl : Nat → V} {a : Act} (hs : SlRel X w ι sl a) {place : Nat → Option (Nat × Nat)} :
    ∀ (parts : List (Nat × Operand)) (ps : List (Nat × Nat × AO)), (parts.mapM fun (p : Nat × Operand) => (place p.1).bind fun (q : Nat × Nat) => (compO p.2).map fun y => (q.1, q.2, y)) = some ps →
    ∀ (cs : Array Value) (ys ys' : List V) (R' : List Nat), LRel X w ι cs ys → fillP bl (AO.ev sl) ys ps = some (ys', R') → (∀ b ∈ R', bl b = h[b]?) →
    ∃ cs', Instr.fill place cs (parts.map fun p => (p.1, a.eval p.2)) = some cs' ∧ LRel X w ι cs' ys' := by
  intro parts
  induction parts with
  | nil =>
    intro ps hps cs ys ys' R' hl hf _
    simp at hps; subst hps
    simp only [fillP, Option.some.injEq, Prod.mk.injEq] at hf
    obtain ⟨rfl, rfl⟩ := hf
    exact ⟨cs, rfl, hl⟩
  | cons p parts ih =>
    intro ps hps cs ys ys' R' hl hf hbl
    obtain ⟨i, o⟩ := p
    simp only [List.mapM_cons] at hps
    cases hp : place i with
    | none => rw [hp] at hps; simp at hps
    | some q =>
      obtain ⟨off, size⟩ := q
      rw [hp] at hps
      cases ho : compO o with
      | none => rw [ho] at hps; simp at hps
      | some y =>
        rw [ho] at hps
        simp only [Option.bind_some, Option.map_some, Option.bind_eq_bind] at hps
        obtain ⟨ps', h1, h2⟩ := Option.bind_eq_some_iff.1 hps
        simp at h2
        subst h2
        simp only [fillP] at hf
        split at hf
        · cases hf
        · rename_i l hlv
          split at hf
          · rename_i hc
            obtain ⟨⟨r1, r2⟩, h3, h4⟩ := Option.map_eq_some_iff.1 hf
            simp only [Prod.mk.injEq] at h4
            obtain ⟨rfl, rfl⟩ := h4
            obtain ⟨g1, g2, g3⟩ := vcells_rel H (AO.ev_rel hs ho) hlv (fun b hb => hbl b (by simp [hb]))
            obtain ⟨cs', e1, e2⟩ := ih ps' h1 (splice cs off (a.eval o).cells.toList) (spl ys off l) _ _ (hl.splice _ _ _ g1 (by rw [hc.1]; exact hc.2) g2 g3) h3 (fun b hb => hbl b (by simp [hb]))
            refine ⟨cs', ?_, e2⟩
            simp only [List.map_cons, Instr.fill, hp]
            have := hl.1
            rw [if_neg (by simp only [Bool.or_eq_true, decide_eq_true_eq]; rw [g1, hc.1]; omega), zip_splice']
            exact e1
          · cases hf

theorem sz_some {t : TypeId} (h : (szOf P t).isSome = true) : szOf P t = some (P.cellsOf t) := by
  unfold szOf at *
  unfold Program.cellsOf
  cases hi : P.info? t with
  | none => rw [hi] at h; cases h
  | some i => rfl

theorem st_build (H : HRel X w ι h) {sl : Nat → V} {a : Act} (hs : SlRel X w ι sl a) {t : TypeId} {z : List Value} {parts : Array (Nat × Operand)} {ps : List (Nat × Nat × AO)} (hz : zeroOf P t = some z) (hp : compP P t parts.toList = some ps)
    (hst : stepA (.build z ps) (AO.ev sl) bl c = some (x, ups, news, R)) (hbl : ∀ b ∈ R, bl b = h[b]?) :
    OkV X P w ι (Instr.build t (parts.map fun (i, x) => (i, a.eval x))) x (appN (appU h ups) c news) := by
  simp only [stepA] at hst
  split at hst
  · rename_i ys' R' hf
    cases hst
    obtain ⟨zv, z1, z2, z3, z4⟩ := run_zeroValue hz w
    have hparts : (parts.map fun (i, x) => (i, a.eval x)).toList = parts.toList.map fun p => (p.1, a.eval p.2) := by simp
    unfold compP at hp
    split at hp
    · rename_i fields ht
      split at hp
      · rename_i hall
        have hplaces : (fields.mapM fun (f : Field) => do pure (f.offset, ← sizeOf f.type)).run P w = .ok (fields.map fun f => (f.offset, P.cellsOf f.type)) w := by
          refine run_mapM fields fun f hf => ?_
          have := sz_some (Array.all_eq_true_iff_forall_mem.1 hall f (by simpa using hf))
          simp [run_sizeOf this]
        have hps : (parts.toList.mapM fun (p : Nat × Operand) => ((fields.map fun f => (f.offset, P.cellsOf f.type))[p.1]?).bind fun (q : Nat × Nat) => (compO p.2).map fun y => (q.1, q.2, y)) = some ps := by
          rw [← hp]
          congr 1
          funext p
          obtain ⟨i, o⟩ := p
          simp only [Array.getElem?_map]
          cases hfi : fields[i]? with
          | none => simp
          | some f =>
            have := sz_some (Array.all_eq_true_iff_forall_mem.1 hall f (Array.mem_of_getElem? hfi))
            simp only [Option.map_some, Option.bind_some, this, Option.bind_eq_bind]
            cases compO o <;> simp
        obtain ⟨cs', e1, e2⟩ := fill_ok H hs _ _ hps zv.cells _ _ _ (by rw [z2]; exact LRel.consts z z3) hf hbl
        refine OkV.same H ?_ e2.agg
        simp only [Instr.build, Sem.run_bind, z1, Result.andThen_ok, run_underlying ht, hplaces, hparts, e1, Sem.run_pure]
      · cases hp
    · rename_i n e ht
      cases hsz : szOf P e with
      | none => rw [hsz] at hp; cases hp
      | some s =>
        rw [hsz] at hp
        dsimp only at hp
        have hps : (parts.toList.mapM fun (p : Nat × Operand) => (some (p.1 * s, s)).bind fun (q : Nat × Nat) => (compO p.2).map fun y => (q.1, q.2, y)) = some ps := by
          rw [← hp]
          congr 1
          funext p
          obtain ⟨i, o⟩ := p
          simp only [Option.bind_some, Option.bind_eq_bind]
          cases compO o <;> simp
        obtain ⟨cs', e1, e2⟩ := fill_ok H hs (place := fun i => some (i * s, s)) _ _ hps zv.cells _ _ _ (by rw [z2]; exact LRel.consts z z3) hf hbl
        refine OkV.same H ?_ e2.agg
        simp only [Instr.build, Sem.run_bind, z1, Result.andThen_ok, run_underlying ht, run_sizeOf hsz, hparts, e1, Sem.run_pure]
    · cases hp
  · cases hst
end
end Go.Proofs.Ytjmmompbmjhkpaa.Calc
