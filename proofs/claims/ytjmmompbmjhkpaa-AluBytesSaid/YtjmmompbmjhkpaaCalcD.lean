/- The calculus, part 13: 'stepA' and the model, operation by operation: what reads no memory; and all operations together. No condition beyond those in each lemma. -/
import Derived.Test.YtjmmompbmjhkpaaCalcC
namespace Go.Proofs.Ytjmmompbmjhkpaa.Calc
open Go
variable {X : Nat → Prop}
section
variable {P : Program} {w : World} {ι : List Place} {h : List Blk} {ev : AO → V} {bl : Nat → Option Blk} {c : Nat} {x : V} {ups : List (Nat × Blk)} {news : List Blk} {R : List Nat}

theorem st_nilc (H : HRel X w ι h) {v : Value} {y : V} (hx : Rel w (OX X ι) ι v y) {xo : AO} (he : ev xo = y)
    (hst : stepA (.nilc xo) ev bl c = some (x, ups, news, R)) (hbl : ∀ b ∈ R, bl b = h[b]?) :
    appN (appU h ups) c news = h ∧ x = y ∧ ((∃ a, v = .pointer (some a)) ∨ (∃ f cs, v = .func (.func f) #[] cs) ∨ ∃ t u, v = .iface t u) := by
  simp only [stepA, he] at hst
  cases hx with
  | ptr p hp hle hP =>
    rename_i b ver r k
    dsimp only at hst
    split at hst
    · rename_i B hB
      split at hst
      · rename_i hver
        cases hst
        have hb := hbl b (by simp)
        rw [hB] at hb
        obtain ⟨_, rfl⟩ := hP (by rw [← hver]; exact (H.blk b p B hp hb.symm).ver)
        exact ⟨rfl, rfl, .inl ⟨_, rfl⟩⟩
      · cases hst
    · cases hst
  | dp cv hc hr => cases hst; exact ⟨rfl, rfl, .inl ⟨_, rfl⟩⟩
  | fn hl hh => cases hst; exact ⟨rfl, rfl, .inr (.inl ⟨_, _, rfl⟩)⟩
  | ifc hh => cases hst; exact ⟨rfl, rfl, .inr (.inr ⟨_, _, rfl⟩)⟩
  | any => cases hst
  | bit => cases hst
  | c => cases hst
  | slnil => cases hst
  | sl => cases hst
  | psl => cases hst
  | agg => cases hst
  | tup => cases hst

theorem run_equal_bool {t : TypeId} (ht : P.underlying t = some .bool) (a b : Bool) : (Op.equal t (.bool a) (.bool b)).run P w = .ok (a == b) w := by
  have h : ∀ d, (Op.equalIn (d + 1) t (.bool a) (.bool b)).run P w = .ok (a == b) w := fun d => by simp [Op.equalIn, run_underlying ht]
  exact h 9999
theorem run_equal_nil {t e : TypeId} (ht : P.underlying t = some (.slice e)) (a : Option Addr) (n c m k : Nat) : (Op.equal t (.slice a n c) (.slice none m k)).run P w = .ok a.isNone w := by
  have h : ∀ d, (Op.equalIn (d + 1) t (.slice a n c) (.slice none m k)).run P w = .ok a.isNone w := fun d => by cases a <;> simp [Op.equalIn, run_underlying ht]
  exact h 9999

theorem run_part {t : TypeId} {n : Option Nat} (ht : aggOf P t = some n) {cs : Array Value} {ys : List V} (hl : LRel X w ι cs ys) {off : Nat} {x : V}
    (hx : partL n ys off = some x) : ∃ v, (part t cs off).run P w = .ok v w ∧ Rel w (OX X ι) ι v x := by
  obtain ⟨h1, h2⟩ := run_isAgg ht w
  cases n with
  | none =>
    simp only [partL] at hx
    have hlt := (List.getElem?_eq_some_iff.1 hx).1
    have hc : cs[off]? = some (cs[off]'(by rw [hl.1]; exact hlt)) := Array.getElem?_eq_getElem _
    refine ⟨_, ?_, (hl.2 off _ hc).2 x hx⟩
    simp only [part, Sem.run_bind, h1, Option.isSome_none, Result.andThen_ok, Bool.false_eq_true, if_false, hc, Sem.run_pure]
  | some n =>
    simp only [partL] at hx
    cases hx
    refine ⟨.agg (cs.extract off (off + n)), ?_, ?_⟩
    · simp only [part, Sem.run_bind, h1, Option.isSome_some, Result.andThen_ok, if_true, h2 n rfl, Sem.run_pure]
    · have hget : ∀ (i : Nat) (v : Value), (cs.extract off (off + n))[i]? = some v → cs[off + i]? = some v ∧ i < n := by
        intro i v hv
        rw [Array.getElem?_extract] at hv
        split at hv
        · rename_i hi
          exact ⟨hv, by omega⟩
        · cases hv
      refine .agg ?_ (fun i v hv => (hl.2 _ v (hget i v hv).1).1) (fun i v y hv hy => ?_)
      · rw [Array.size_extract, List.length_take, List.length_drop, hl.1]; omega
      · obtain ⟨g1, g2⟩ := hget i v hv
        rw [List.getElem?_take, if_pos g2, List.getElem?_drop] at hy
        exact (hl.2 _ v g1).2 y hy

theorem agg_LRel {v : Value} {ys : List V} (hx : Rel w (OX X ι) ι v (.agg ys)) : ∃ cs, v = .agg cs ∧ LRel X w ι cs ys := by
  cases hx with
  | agg h1 h2 h3 => exact ⟨_, rfl, h1, fun i v hv => ⟨h2 i v hv, fun y hy => h3 i v y hv hy⟩⟩

theorem run_mnx (mx : Bool) : ∀ (rest : List Value) (rs : List AO) (acc : Value) (ya : V) (z : V), rest.length = rs.length →
    (∀ (i : Nat) (u : Value) (y : AO), rest[i]? = some u → rs[i]? = some y → Rel w (OX X ι) ι u (ev y)) → Rel w (OX X ι) ι acc ya →
    rs.foldl (mnxF mx ev) (some ya) = some z →
    ∃ v, (rest.foldlM (if mx then Builtin.max2 else Builtin.min2) acc).run P w = .ok v w ∧ Rel w (OX X ι) ι v z := by
  have hnone : ∀ rs : List AO, rs.foldl (mnxF mx ev) none = none := by
    intro rs
    induction rs with
    | nil => rfl
    | cons y rs ih => simpa [mnxF] using ih
  intro rest
  induction rest with
  | nil =>
    intro rs acc ya z hl _ ha hz
    obtain rfl : rs = [] := List.eq_nil_of_length_eq_zero (by simpa using hl.symm)
    simp at hz; subst hz
    exact ⟨acc, by simp, ha⟩
  | cons u rest ih =>
    intro rs acc ya z hl hr ha hz
    cases rs with
    | nil => simp at hl
    | cons y rs =>
      simp only [List.foldl_cons, mnxF] at hz
      have hu := hr 0 u y rfl rfl
      split at hz
      · rename_i k a k' b e1 e2
        cases e1
        rw [e2] at hu
        obtain rfl := hu.c_eq
        obtain rfl := ha.c_eq
        split at hz
        · rename_i hk
          subst hk
          obtain ⟨v, h1, h2⟩ := ih rs (.int k (if mx then (if b > a then b else a) else (if b < a then b else a))) _ z (by simpa using hl) (fun i u y h1 h2 => hr (i + 1) u y (by simpa using h1) (by simpa using h2)) .c hz
          refine ⟨v, ?_, h2⟩
          cases mx <;> simp only [List.foldlM_cons, Sem.run_bind, Builtin.max2, Builtin.min2, Bool.false_eq_true, if_false, if_true, Sem.run_pure, Result.andThen_ok] at h1 ⊢ <;> exact h1
        · rw [hnone] at hz; cases hz
      · rw [hnone] at hz; cases hz

theorem compL_rel {sl : Nat → V} {a : Act} (hs : SlRel X w ι sl a) : ∀ {l : List Operand} {l' : List AO}, compL l = some l' → l.length = l'.length ∧
    ∀ (i : Nat) (u : Value) (y : AO), (l.map a.eval)[i]? = some u → l'[i]? = some y → Rel w (OX X ι) ι u (y.ev sl) := by
  intro l
  induction l with
  | nil => intro l' hl; simp [compL] at hl; subst hl; simp
  | cons o l ih =>
    intro l' hl
    simp only [compL, List.mapM_cons, Option.bind_eq_bind] at hl
    obtain ⟨y, h1, hl⟩ := Option.bind_eq_some_iff.1 hl
    obtain ⟨ys, h2, hl⟩ := Option.bind_eq_some_iff.1 hl
    simp at hl; subst hl
    obtain ⟨g1, g2⟩ := ih (l' := ys) h2
    refine ⟨by simp [g1], fun i u y' hu hy => ?_⟩
    cases i with
    | zero => simp at hu hy; subst hu; subst hy; exact AO.ev_rel hs h1
    | succ i => exact g2 i u y' (by simpa using hu) (by simpa using hy)
end
end Go.Proofs.Ytjmmompbmjhkpaa.Calc
