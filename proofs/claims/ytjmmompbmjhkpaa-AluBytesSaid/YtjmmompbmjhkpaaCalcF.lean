/- The calculus, part 15: the contract of a function over abstract values, and what a call does: only the blocks that are passed may change, and what the function has made is the caller's. No condition beyond those in each lemma. -/
import Derived.Test.YtjmmompbmjhkpaaCalcE
namespace Go.Proofs.Ytjmmompbmjhkpaa.Calc
open Go
variable {X : Nat → Prop}

/-- A function, called with these values over these blocks, returns this value, over those blocks. -/
def FnE (P : Program) (f : FuncId) (args : List V) (h : List Blk) (r : V) (h' : List Blk) : Prop :=
  ∀ (X : Nat → Prop) (w : World) (ι : List Place) (vs : Array Value), HRel X w ι h → vs.size = args.length →
    (∀ (i : Nat) (v : Value) (y : V), vs[i]? = some v → args[i]? = some y → Rel w (OX X ι) ι v y) →
    Calls P f vs w fun e w' => ∃ v ι', e = .returned v ∧ HRel X w' ι' h' ∧ Rel w' (OX X ι') ι' v r ∧ Frm w (Own ι) w' (Own ι') ∧ Refs ι ι'

/-- A function that the model stands in for, called with these values, leaves what there is as it is, and returns this value. -/
def ExtE (P : Program) (f : FuncId) (args : List V) (r : V) : Prop :=
  ∀ (X : Nat → Prop) (w : World) (ι : List Place) (vs : Array Value), vs.size = args.length →
    (∀ (i : Nat) (v : Value) (y : V), vs[i]? = some v → args[i]? = some y → Rel w (OX X ι) ι v y) →
    ∃ v, (callFunc f vs).run P w = .ok (.value v) w ∧ Rel w (OX X ι) ι v r

/-- What is passed: the blocks of the list, renumbered; other references are forgotten. -/
def pas (ids : List Nat) : V → V :=
  V.mapR (fun b ver off len => match pos ids b with
      | some b' => .psl b' ver off len
      | none => .any)
    (fun b ver r k => match pos ids b with
      | some b' => .ptr b' ver r k
      | none => .any)
def pasB (ids : List Nat) (k : Blk) : Blk := { k with rows := k.rows.map (·.map (pas ids)) }
def pasH (h : List Blk) (ids : List Nat) : List Blk := ids.map fun b => pasB ids (h.getD b default)

/-- What comes back: block j of the callee's is block keys[j]. -/
def ren (keys : List Nat) : V → V :=
  V.mapR (fun b ver off len => match keys[b]? with
      | some b' => .psl b' ver off len
      | none => .any)
    (fun b ver r k => match keys[b]? with
      | some b' => .ptr b' ver r k
      | none => .any)
def renB (keys : List Nat) (k : Blk) : Blk := { k with rows := k.rows.map (·.map (ren keys)) }
def back (h : List Blk) (keys : List Nat) (hout : List Blk) : List Blk :=
  (List.range h.length).map fun b => match pos keys b with
    | some j => renB keys (hout.getD j default)
    | none => h.getD b default

theorem passed {w : World} {ι : List Place} {h : List Blk} (H : HRel X w ι h) (ids : List Nat) (hnd : ids.Nodup) (hlt : ∀ b ∈ ids, b < h.length) :
    ∃ (ι' : List Place) (X' : Nat → Prop), ι' = ids.map (fun b => ι.getD b default) ∧ (∀ r, X' r ↔ OX X ι r ∧ ¬ Own ι' r) ∧ HRel X' w ι' (pasH h ids) ∧ (∀ v x, Rel w (OX X ι) ι v x → Rel w (OX X' ι') ι' v (pas ids x)) ∧
      (∀ r, Own ι' r → Own ι r) ∧ (∀ (i : Nat) (p : Place), ι'[i]? = some p → ∃ b : Nat, ids[i]? = some b ∧ ι[b]? = some p) := by
  have hget : ∀ {i : Nat} {p : Place}, (ids.map (fun b => ι.getD b default))[i]? = some p → ∃ b, ids[i]? = some b ∧ ι[b]? = some p := by
    intro i p hi
    rw [List.getElem?_map] at hi
    obtain ⟨b, h1, h2⟩ := Option.map_eq_some_iff.1 hi
    refine ⟨b, h1, ?_⟩
    have := hlt b (List.mem_of_getElem? h1)
    rw [← H.len] at this
    rw [List.getD_eq_getElem?_getD, List.getElem?_eq_getElem this] at h2
    rw [List.getElem?_eq_getElem this]; simpa using h2
  have hput : ∀ {i b : Nat} {p : Place}, ids[i]? = some b → ι[b]? = some p → (ids.map (fun b => ι.getD b default))[i]? = some p := by
    intro i b p h1 h2
    rw [List.getElem?_map, h1, Option.map_some, List.getD_eq_getElem?_getD, h2]; rfl
  have hown' : ∀ r, Own (ids.map (fun b => ι.getD b default)) r → Own ι r := by
    rintro r ⟨p, hp, hr, rfl⟩
    obtain ⟨i, hi⟩ := List.mem_iff_getElem?.1 hp
    obtain ⟨b, h1, h2⟩ := hget hi
    exact Own.of h2 hr
  refine ⟨ids.map (fun b => ι.getD b default), fun r => OX X ι r ∧ ¬ Own (ids.map (fun b => ι.getD b default)) r, rfl, fun r => Iff.rfl, ?_⟩
  have hrel : ∀ v x, Rel w (OX X ι) ι v x → Rel w (OX (fun r => OX X ι r ∧ ¬ Own (ids.map (fun b => ι.getD b default)) r) (ids.map (fun b => ι.getD b default))) (ids.map (fun b => ι.getD b default)) v (pas ids x) := by
    intro v x hx
    refine hx.mapR (fun r hr => ?_) (fun b ver off len cv hcv => ?_) (fun b ver r k cv hcv => ?_)
    · rcases hr with hr | hr
      · exact .inl (hown' r hr)
      · exact hr.1
    · cases hb : pos ids b with
      | none => exact .any
      | some b' =>
        cases hcv with
        | psl p hp hle hP => exact .psl p (hput (pos_get hb) hp) hle hP
    · cases hb : pos ids b with
      | none => exact .any
      | some b' =>
        cases hcv with
        | ptr p hp hle hP => exact .ptr p (hput (pos_get hb) hp) hle hP
  refine ⟨⟨by simp [pasH], ?_, ?_, ?_, ?_⟩, hrel, hown', fun i p hi => hget hi⟩
  · intro i p k hi hk
    obtain ⟨b, h1, h2⟩ := hget hi
    have hb : b < h.length := hlt b (List.mem_of_getElem? h1)
    simp only [pasH, List.getElem?_map, h1, Option.map_some, Option.some.injEq] at hk
    subst hk
    have hg : h.getD b default = h[b] := by rw [List.getD_eq_getElem?_getD, List.getElem?_eq_getElem hb]; rfl
    have B := H.blk b p h[b] h2 (List.getElem?_eq_getElem hb)
    rw [← hg] at B
    refine ⟨B.ver, B.esz, B.pos, by simpa [pasB] using B.num, B.fit, ?_, fun hr => ?_, B.virt⟩
    · intro row hrow
      simp only [pasB] at hrow
      obtain ⟨r, hr, rfl⟩ := List.mem_map.1 hrow
      rw [List.length_map]; exact B.rows r hr
    · obtain ⟨c, T, fz, g1, g2, g3, g4⟩ := B.cells hr
      refine ⟨c, T, fz, g1, g2, g3, fun i j x hx => ?_⟩
      simp only [pasB] at hx
      obtain ⟨y, hy, rfl⟩ := cellOf_map _ _ _ _ _ hx
      obtain ⟨v, e1, e3, e2⟩ := g4 i j y hy
      exact ⟨v, e1, e3, hrel v y e2⟩
  · intro i j p p' hi hj hr hr' e
    obtain ⟨b, h1, h2⟩ := hget hi
    obtain ⟨b', h1', h2'⟩ := hget hj
    have hbb := H.sep b b' p p' h2 h2' hr hr' e
    subst hbb
    exact (List.getElem?_inj (List.getElem?_eq_some_iff.1 h1).1 hnd).1 (by rw [h1, h1'])
  · intro i p hi hr hx
    exact hx.2 (Own.of hi hr)
  · intro r hr
    rcases hr.1 with h1 | h1
    · exact H.own_lt h1
    · exact H.xlt r h1

theorem nodup_pos {keys : List Nat} (hnd : keys.Nodup) {j b : Nat} (h : keys[j]? = some b) : pos keys b = some j := by
  have hm := List.mem_of_getElem? h
  obtain ⟨i, hi⟩ := Option.isSome_iff_exists.1 (pos_mem hm)
  have := pos_get hi
  have e : i = j := (List.getElem?_inj (List.getElem?_eq_some_iff.1 this).1 hnd).1 (by rw [this, h])
  rw [hi, e]

theorem call_ok {P : Program} {f : FuncId} {w : World} {ι : List Place} {h : List Blk} (H : HRel X w ι h) {perm newk : List Nat} {args : List V} {r : V} {hout : List Blk} {vs : Array Value}
    (hF : FnE P f (args.map (pas perm)) (pasH h perm) r hout) (hsz : vs.size = args.length) (hargs : ∀ (i : Nat) (v : Value) (y : V), vs[i]? = some v → args[i]? = some y → Rel w (OX X ι) ι v y)
    (hnd : (perm ++ newk).Nodup) (hlt : ∀ b ∈ perm ++ newk, b < h.length) (hlen : hout.length = (perm ++ newk).length)
    (hver : ∀ (j b : Nat) (k : Blk), perm.length ≤ j → (perm ++ newk)[j]? = some b → hout[j]? = some k → 0 < k.ver ∧ ∃ k0 : Blk, h[b]? = some k0 ∧ k0.ver = 0) :
    Calls P f vs w fun e w' => ∃ v ι', e = .returned v ∧ HRel X w' ι' (back h (perm ++ newk) hout) ∧ Rel w' (OX X ι') ι' v (ren (perm ++ newk) r) ∧ Frm w (Own ι) w' (Own ι') ∧ Refs ι ι' := by
  have hnd1 : perm.Nodup := (List.nodup_append.1 hnd).1
  obtain ⟨ιi, X', rfl, hX', Hi, hri, howni, hgeti⟩ := passed H perm hnd1 (fun b hb => hlt b (by simp [hb]))
  refine (hF X' w _ vs Hi (by simpa using hsz) (fun i v y hv hy => ?_)).mono ?_
  · rw [List.getElem?_map] at hy
    obtain ⟨y', h1, rfl⟩ := Option.map_eq_some_iff.1 hy
    exact hri v y' (hargs i v y' hv h1)
  rintro e w' ⟨v, ιo, rfl, Ho, hro, hFo, hRo⟩
  generalize hk : perm ++ newk = keys at *
  -- the caller's places
  obtain ⟨ι', hι'⟩ : ∃ ι' : List Place, ι' = (List.range ι.length).map (fun b => match pos keys b with | some j => ιo.getD j default | none => ι.getD b default) := ⟨_, rfl⟩
  have holen : ιo.length = keys.length := by rw [Ho.len, hlen]
  have hlook : ∀ {b : Nat} {p : Place}, ι'[b]? = some p → (∃ j, pos keys b = some j ∧ ιo[j]? = some p) ∨ (pos keys b = none ∧ ι[b]? = some p) := by
    intro b p hb
    rw [hι', List.getElem?_map] at hb
    obtain ⟨b', h1, h2⟩ := Option.map_eq_some_iff.1 hb
    obtain ⟨h3, rfl⟩ := range_some h1
    cases hp : pos keys b with
    | none =>
      rw [hp] at h2
      dsimp only at h2
      rw [List.getD_eq_getElem?_getD, List.getElem?_eq_getElem h3] at h2
      exact .inr ⟨rfl, by rw [List.getElem?_eq_getElem h3]; simpa using h2⟩
    | some j =>
      rw [hp] at h2
      dsimp only at h2
      have hj : j < ιo.length := by rw [holen]; exact (List.getElem?_eq_some_iff.1 (pos_get hp)).1
      rw [List.getD_eq_getElem?_getD, List.getElem?_eq_getElem hj] at h2
      exact .inl ⟨j, rfl, by rw [List.getElem?_eq_getElem hj]; simpa using h2⟩
  have hputo : ∀ {j b : Nat} {p : Place}, keys[j]? = some b → ιo[j]? = some p → ι'[b]? = some p := by
    intro j b p h1 h2
    have hb : b < ι.length := by rw [H.len]; exact hlt b (List.mem_of_getElem? h1)
    rw [hι', List.getElem?_map, List.getElem?_range hb, Option.map_some, nodup_pos hnd h1]
    dsimp only
    rw [List.getD_eq_getElem?_getD, h2]; rfl
  have hputn : ∀ {b : Nat} {p : Place}, pos keys b = none → ι[b]? = some p → ι'[b]? = some p := by
    intro b p h1 h2
    have hb := (List.getElem?_eq_some_iff.1 h2).1
    rw [hι', List.getElem?_map, List.getElem?_range hb, Option.map_some, h1]
    dsimp only
    rw [List.getD_eq_getElem?_getD, h2]; rfl
  have hlookh : ∀ {b : Nat} {k : Blk}, (back h keys hout)[b]? = some k → (∃ j k1, pos keys b = some j ∧ hout[j]? = some k1 ∧ k = renB keys k1) ∨ (pos keys b = none ∧ h[b]? = some k) := by
    intro b k hb
    unfold back at hb
    rw [List.getElem?_map] at hb
    obtain ⟨b', h1, h2⟩ := Option.map_eq_some_iff.1 hb
    obtain ⟨h3, rfl⟩ := range_some h1
    cases hp : pos keys b with
    | none =>
      rw [hp] at h2
      dsimp only at h2
      rw [List.getD_eq_getElem?_getD, List.getElem?_eq_getElem h3] at h2
      exact .inr ⟨rfl, by rw [List.getElem?_eq_getElem h3]; simpa using h2⟩
    | some j =>
      rw [hp] at h2
      dsimp only at h2
      have hj : j < hout.length := by rw [hlen]; exact (List.getElem?_eq_some_iff.1 (pos_get hp)).1
      rw [List.getD_eq_getElem?_getD, List.getElem?_eq_getElem hj] at h2
      exact .inl ⟨j, hout[j], rfl, List.getElem?_eq_getElem hj, by simpa using h2.symm⟩
  -- a place of one's own that was not passed
  have hother : ∀ {b : Nat} {p : Place}, pos keys b = none → ι[b]? = some p → p.real = true → ¬ Own (perm.map (fun b => ι.getD b default)) p.row := by
    rintro b p hb hp hr ⟨q, hq, hqr, e⟩
    obtain ⟨i, hi⟩ := List.mem_iff_getElem?.1 hq
    obtain ⟨b', h1, h2⟩ := hgeti i q hi
    have := H.sep b' b q p h2 hp hqr hr e
    subst this
    have hm : b' ∈ keys := by rw [← hk]; exact List.mem_append_left _ (List.mem_of_getElem? h1)
    rw [Option.isSome_iff_exists.1 (pos_mem hm) |>.choose_spec] at hb
    cases hb
  have hXno : ∀ r, X r → X' r := fun r hr => (hX' r).2 ⟨.inr hr, fun ⟨q, hq, hqr, e⟩ => by
    obtain ⟨i, hi⟩ := List.mem_iff_getElem?.1 hq
    obtain ⟨b', h1, h2⟩ := hgeti i q hi
    exact H.xsep b' q h2 hqr (e ▸ hr)⟩
  have hsub : ∀ r, OX X ι' r → OX X' ιo r := by
    rintro r (⟨p, hp, hr, rfl⟩ | hr)
    · obtain ⟨b, hb⟩ := List.mem_iff_getElem?.1 hp
      rcases hlook hb with ⟨j, h1, h2⟩ | ⟨h1, h2⟩
      · exact .inl (Own.of h2 hr)
      · exact .inr ((hX' _).2 ⟨.inl (Own.of h2 hr), hother h1 h2 hr⟩)
    · exact .inr (hXno r hr)
  have hFr : Frm w (Own ι) w' (Own ι') := by
    refine ⟨hFo.size, fun r hr ho => hFo.same r hr (fun h' => ho (howni r h')), ?_, hFo.os, hFo.tape, hFo.output⟩
    rintro r ⟨p, hp, hr, rfl⟩
    obtain ⟨b, hb⟩ := List.mem_iff_getElem?.1 hp
    rcases hlook hb with ⟨j, h1, h2⟩ | ⟨h1, h2⟩
    · rcases hFo.own _ (Own.of h2 hr) with h3 | h3
      · exact .inl (howni _ h3)
      · exact .inr h3
    · exact .inl (Own.of h2 hr)
  have hRf : Refs ι ι' := by
    intro b p hp
    cases hb : pos keys b with
    | none => exact ⟨p, hputn hb hp, .inl rfl⟩
    | some j =>
      have hkj := pos_get hb
      have hj : j < ιo.length := by rw [holen]; exact (List.getElem?_eq_some_iff.1 hkj).1
      by_cases hjp : j < perm.length
      · have h1 : perm[j]? = some b := by rw [← hk, List.getElem?_append_left hjp] at hkj; exact hkj
        have h2 : (perm.map (fun b => ι.getD b default))[j]? = some p := by
          rw [List.getElem?_map, h1, Option.map_some, List.getD_eq_getElem?_getD, hp]; rfl
        obtain ⟨p', h3, h4⟩ := hRo j p h2
        exact ⟨p', hputo hkj h3, h4⟩
      · have hj' : j < hout.length := by rw [← Ho.len]; exact hj
        obtain ⟨h3, k0, h4, h5⟩ := hver j b _ (by omega) hkj (List.getElem?_eq_getElem hj')
        refine ⟨ιo[j], hputo hkj (List.getElem?_eq_getElem hj), .inr ?_⟩
        have B1 := Ho.blk j _ _ (List.getElem?_eq_getElem hj) (List.getElem?_eq_getElem hj')
        have B0 := H.blk b p k0 hp h4
        rw [← B1.ver, ← B0.ver, h5]; exact h3
  have hrel : ∀ v y, Rel w' (OX X' ιo) ιo v y → Rel w' (OX X ι') ι' v (ren keys y) := by
    intro v y hy
    refine hy.mapR hsub (fun b ver off len cv hcv => ?_) (fun b ver r k cv hcv => ?_)
    · cases hcv with
      | psl p hp hle hP =>
        cases hb : keys[b]? with
        | none => exact .any
        | some b' => exact .psl p (hputo hb hp) hle hP
    · cases hcv with
      | ptr p hp hle hP =>
        cases hb : keys[b]? with
        | none => exact .any
        | some b' => exact .ptr p (hputo hb hp) hle hP
  refine ⟨v, ι', rfl, ⟨by simp [hι', back, H.len], ?_, ?_, ?_, ?_⟩, hrel v r hro, hFr, hRf⟩
  · intro b p k hp hkk
    rcases hlook hp with ⟨j, h1, h2⟩ | ⟨h1, h2⟩
    · rcases hlookh hkk with ⟨j', k1, h3, h4, rfl⟩ | ⟨h3, _⟩
      · rw [h1] at h3; cases h3
        have B := Ho.blk j p k1 h2 h4
        refine ⟨B.ver, B.esz, B.pos, by simpa [renB] using B.num, B.fit, ?_, fun hr => ?_, B.virt⟩
        · intro row hrow
          simp only [renB] at hrow
          obtain ⟨r', hr', rfl⟩ := List.mem_map.1 hrow
          rw [List.length_map]; exact B.rows r' hr'
        · obtain ⟨c, T, fz, g1, g2, g3, g4⟩ := B.cells hr
          refine ⟨c, T, fz, g1, g2, g3, fun i j x hx => ?_⟩
          simp only [renB] at hx
          obtain ⟨y, hy, rfl⟩ := cellOf_map _ _ _ _ _ hx
          obtain ⟨u, e1, e3, e2⟩ := g4 i j y hy
          exact ⟨u, e1, e3, hrel u y e2⟩
      · rw [h1] at h3; cases h3
    · rcases hlookh hkk with ⟨j', k1, h3, _⟩ | ⟨h3, h4⟩
      · rw [h1] at h3; cases h3
      · have B := H.blk b p k h2 h4
        refine ⟨B.ver, B.esz, B.pos, B.num, B.fit, B.rows, fun hr => ?_, B.virt⟩
        obtain ⟨c, T, fz, g1, g2⟩ := B.cells hr
        exact ⟨c, T, fz, by rw [hFo.same _ (H.row_lt h2 hr) (hother h1 h2 hr)]; exact g1, g2.mono (hFr.x X) hRf⟩
  · intro b b' p p' hp hp' hr hr' e
    rcases hlook hp with ⟨j, h1, h2⟩ | ⟨h1, h2⟩ <;> rcases hlook hp' with ⟨j', h1', h2'⟩ | ⟨h1', h2'⟩
    · have := Ho.sep j j' p p' h2 h2' hr hr' e
      subst this
      have g1 := pos_get h1
      have g2 := pos_get h1'
      rw [g1] at g2; cases g2; rfl
    · exfalso
      rcases hFo.own _ (Own.of h2 hr) with h3 | h3
      · exact hother h1' h2' hr' (e ▸ h3)
      · have := H.row_lt h2' hr'; omega
    · exfalso
      rcases hFo.own _ (Own.of h2' hr') with h3 | h3
      · exact hother h1 h2 hr (e ▸ h3)
      · have := H.row_lt h2 hr; omega
    · exact H.sep b b' p p' h2 h2' hr hr' e
  · intro b p hp hr hx
    rcases hlook hp with ⟨j, h1, h2⟩ | ⟨h1, h2⟩
    · exact Ho.xsep j p h2 hr (hXno _ hx)
    · exact H.xsep b p h2 hr hx
  · intro r hr
    exact Nat.lt_of_lt_of_le (H.xlt r hr) hFo.size
end Go.Proofs.Ytjmmompbmjhkpaa.Calc
