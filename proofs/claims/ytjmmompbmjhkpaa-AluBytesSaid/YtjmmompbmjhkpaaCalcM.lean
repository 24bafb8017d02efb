/- The calculus, part 22: a region whose order is open does in each order what it does in the text's, if operations that touch the same slots or blocks are ordered. No condition beyond those in each lemma. -/
import Derived.Test.YtjmmompbmjhkpaaCalcL
namespace Go.Proofs.Ytjmmompbmjhkpaa.Calc
open Go
set_option linter.unusedSimpArgs false
variable {X : Nat → Prop}

def guardOf (ops : Array Oper) : Option (Nat × Bool) → Option (Option (Nat × Bool))
  | none => some none
  | some (j, b) => match (ops[j]?).bind (·.dst) with
    | some g => some (some (g, b))
    | none => none

def dstOk (n : Nat) : Option Nat → Bool
  | some d => decide (d < n)
  | none => true

def compOne (P : Program) (ops : Array Oper) (n : Nat) (o : Oper) : Option AOper := do
  let g ← guardOf ops o.guard
  if dstOk n o.dst = true then pure ⟨o.dst, (comp P o.op).getD .bad, g⟩ else none

def compR (P : Program) (n : Nat) (ops : Array Oper) : Option (List AOper) := (List.range ops.size).mapM fun i => (ops[i]?).bind (compOne P ops n)

section
variable {P : Program} {w0 : World} {ι0 : List Place} {n : Nat}

theorem compOne_parts {ops : Array Oper} {o : Oper} {ao : AOper} (h : compOne P ops n o = some ao) :
    (ao.op ≠ .bad → comp P o.op = some ao.op) ∧ ao.dst = o.dst ∧ (∀ d, o.dst = some d → d < n) ∧
      ((o.guard = none ∧ ao.guard = none) ∨ ∃ j b g, o.guard = some (j, b) ∧ (ops[j]?).bind (·.dst) = some g ∧ ao.guard = some (g, b)) := by
  unfold compOne at h
  obtain ⟨g, h2, h⟩ := bind_some h
  split at h
  · rename_i hd
    cases h
    refine ⟨fun hne => by
      cases hc : comp P o.op with
      | none => rw [hc] at hne; exact absurd rfl hne
      | some op => rfl, rfl, fun d hd' => by rw [hd'] at hd; simpa [dstOk] using hd, ?_⟩
    cases hg : o.guard with
    | none => rw [hg] at h2; cases h2; exact .inl ⟨rfl, rfl⟩
    | some q =>
      obtain ⟨j, b⟩ := q
      rw [hg] at h2
      simp only [guardOf] at h2
      split at h2
      · rename_i g' hg'
        cases h2
        exact .inr ⟨j, b, g', rfl, hg', rfl⟩
      · cases h2
  · cases h

/-- A guard's answer. -/
theorem guard_val {fr : Fr} {h : List Blk} {a : Act} {w : World} (hS : St X w0 ι0 n fr h a w) {g : Nat} {b : Bool} (hg : lk fr g = .c (.bool b)) : a.tmps[g]? = some (.bool b) := by
  obtain ⟨⟨ι, H, hFr, hRf, hSl⟩, _⟩ := hS
  have := hSl g
  rw [hg] at this
  have e := this.c_eq
  rw [Array.getD_eq_getD_getElem?] at e
  cases hh : a.tmps[g]? with
  | none => rw [hh] at e; simp [undef] at e
  | some v => rw [hh] at e; simp at e; rw [e]

theorem guard_any {fr : Fr} {h : List Blk} {a : Act} {w : World} (hS : St X w0 ι0 n fr h a w) {g : Nat} {v : Value} {want : Bool} (hg : lk fr g = .c v) (hne : ∀ b, v = .bool b → b ≠ want) : a.tmps[g]? ≠ some (.bool want) := by
  obtain ⟨⟨ι, H, hFr, hRf, hSl⟩, _⟩ := hS
  have := hSl g
  rw [hg] at this
  have e := this.c_eq
  rw [Array.getD_eq_getD_getElem?] at e
  intro hh
  rw [hh] at e
  exact hne want e.symm rfl
theorem St.skip {fr : Fr} {h : List Blk} {a : Act} {w : World} (hS : St X w0 ι0 n fr h a w) (dst : Option Nat) (v : Value) (hd : ∀ d, dst = some d → d < n) : St X w0 ι0 n (put fr dst (.c v)) h (a.put dst v) w := by
  obtain ⟨⟨ι, H, hFr, hRf, hSl⟩, hn, hdef⟩ := hS
  exact ⟨⟨ι, H, hFr, hRf, hSl.put dst .c (fun d h => by rw [hn]; exact hd d h)⟩, by cases dst <;> simp [Act.put, hn], by cases dst <;> simp [Act.put, hdef]⟩
theorem St.forget {fr : Fr} {h : List Blk} {a : Act} {w : World} (hS : St X w0 ι0 n fr h a w) (dst : Option Nat) (v : Value) (hd : ∀ d, dst = some d → d < n) : St X w0 ι0 n (put fr dst .any) h (a.put dst v) w := by
  obtain ⟨⟨ι, H, hFr, hRf, hSl⟩, hn, hdef⟩ := hS
  exact ⟨⟨ι, H, hFr, hRf, hSl.put dst .any (fun d h => by rw [hn]; exact hd d h)⟩, by cases dst <;> simp [Act.put, hn], by cases dst <;> simp [Act.put, hdef]⟩


theorem appU_other (ups : List (Nat × Blk)) : ∀ (h : List Blk) (b : Nat), b ∉ ups.map (·.1) → (appU h ups)[b]? = h[b]? := by
  induction ups with
  | nil => intro h b _; rfl
  | cons u ups ih =>
    intro h b hb
    obtain ⟨c, k⟩ := u
    simp only [List.map_cons, List.mem_cons, not_or] at hb
    simp only [appU]
    rw [ih _ _ hb.2, List.getElem?_set_ne (Ne.symm hb.1)]
theorem appU_same (ups : List (Nat × Blk)) : ∀ (h h' : List Blk) (b : Nat), (b ∈ ups.map (·.1) ∨ h[b]? = h'[b]?) → b < h.length → b < h'.length → (appU h ups)[b]? = (appU h' ups)[b]? := by
  induction ups with
  | nil => intro h h' b hb _ _; simpa [appU] using hb
  | cons u ups ih =>
    intro h h' b hb h1 h2
    obtain ⟨c, k⟩ := u
    simp only [appU]
    refine ih _ _ _ ?_ (by simpa using h1) (by simpa using h2)
    by_cases hc : c = b
    · subst hc; right; rw [List.getElem?_set_self h1, List.getElem?_set_self h2]
    · rcases hb with hb | hb
      · simp only [List.map_cons, List.mem_cons] at hb
        rcases hb with hb | hb
        · exact absurd hb.symm hc
        · exact .inl hb
      · right; rw [List.getElem?_set_ne hc, List.getElem?_set_ne hc]; exact hb
theorem appN_get (news : List Blk) : ∀ (h : List Blk) (c b : Nat), c + news.length ≤ h.length → (appN h c news)[b]? = if c ≤ b ∧ b < c + news.length then news[b - c]? else h[b]? := by
  induction news with
  | nil => intro h c b _; simp only [appN, List.length_nil, Nat.add_zero]; rw [if_neg (by omega)]
  | cons k news ih =>
    intro h c b hl
    simp only [List.length_cons] at hl
    simp only [appN]
    rw [ih _ _ _ (by rw [List.length_set]; omega)]
    simp only [List.length_cons]
    by_cases h1 : c = b
    · subst h1
      rw [if_neg (by omega), if_pos (by omega), List.getElem?_set_self (by omega)]; simp
    · by_cases h2 : c + 1 ≤ b ∧ b < c + 1 + news.length
      · rw [if_pos h2, if_pos (by omega)]
        rw [show b - c = (b - (c + 1)) + 1 by omega]; rfl
      · rw [if_neg h2, if_neg (by omega), List.getElem?_set_ne h1]
theorem appN_length (news : List Blk) : ∀ (h : List Blk) (c : Nat), (appN h c news).length = h.length := by
  induction news with
  | nil => intro h c; rfl
  | cons k news ih => intro h c; simp only [appN]; rw [ih, List.length_set]
theorem mem_upto {c m b : Nat} (h1 : c ≤ b) (h2 : b < c + m) : b ∈ upto c m := by
  refine List.mem_iff_getElem?.2 ⟨b - c, ?_⟩
  rw [upto_get, if_pos (by omega)]; congr 1; omega
theorem back_length (h : List Blk) (keys : List Nat) (hout : List Blk) : (back h keys hout).length = h.length := by simp [back]
theorem back_out {h : List Blk} {keys : List Nat} {hout : List Blk} {b : Nat} (hb : b ∉ keys) : (back h keys hout)[b]? = h[b]? := by
  have hp : pos keys b = none := by
    cases hp : pos keys b with
    | none => rfl
    | some j => exact absurd (List.mem_of_getElem? (pos_get hp)) hb
  unfold back
  rw [List.getElem?_map]
  by_cases hl : b < h.length
  · rw [List.getElem?_range hl, Option.map_some, hp]
    dsimp only
    rw [List.getD_eq_getElem?_getD, List.getElem?_eq_getElem hl]; rfl
  · rw [List.getElem?_eq_none (by simpa using hl), List.getElem?_eq_none (by simpa using hl)]; rfl
theorem back_in {h h' : List Blk} {keys : List Nat} {hout : List Blk} {b : Nat} (hb : b ∈ keys) (h1 : b < h.length) (h2 : b < h'.length) : (back h keys hout)[b]? = (back h' keys hout)[b]? := by
  obtain ⟨j, hj⟩ := Option.isSome_iff_exists.1 (pos_mem hb)
  unfold back
  rw [List.getElem?_map, List.getElem?_map, List.getElem?_range h1, List.getElem?_range h2, Option.map_some, Option.map_some, hj]

theorem ExT.facts {op : AOp} {fr : Fr} {h h' : List Blk} {x : V} {R W : List Nat} (hE : ExT P op fr h x h' R W) : h.length ≤ h'.length ∧ (∀ b, b ∈ R ∨ b ∈ W → b < h'.length) ∧ ∀ b, b ∉ W → (h'[b]?).getD dum = (h[b]?).getD dum := by
  have call : ∀ {f args}, CallT P f args h x h' R W → h.length ≤ h'.length ∧ (∀ b, b ∈ R ∨ b ∈ W → b < h'.length) ∧ ∀ b, b ∉ W → (h'[b]?).getD dum = (h[b]?).getD dum := by
    rintro f args ⟨perm, m, r, hout, h1, h2, h3, h4, h5, h6, rfl, rfl, rfl, rfl⟩
    rw [back_length, List.length_append, List.length_replicate]
    refine ⟨by omega, fun b hb => ?_, fun b hb => ?_⟩
    · have : b ∈ R ∨ b ∈ upto h.length m := by
        rcases hb with hb | hb
        · exact .inl hb
        · exact List.mem_append.1 hb
      rcases this with hb | hb
      · have := h2 b hb; omega
      · exact (upto_mem hb).2
    · rw [back_out hb]
      by_cases hl : b < h.length
      · rw [List.getElem?_append_left hl]
      · rw [List.getElem?_append_right (by omega), List.getElem?_eq_none (l := h) (by omega), List.getElem?_replicate]
        split <;> rfl
  cases hE with
  | call hc => exact call hc
  | callc hy hc => exact call hc
  | inv hy hc => exact call hc
  | xcall hx => exact ⟨Nat.le_refl _, by simp, fun _ _ => rfl⟩
  | plain hn1 hn2 hp =>
    obtain ⟨ups, news, hst, rfl, rfl⟩ := hp
    have hin : ∀ u ∈ ups, u.1 < h.length := fun u hu => by
      obtain ⟨k, hk⟩ := Option.isSome_iff_exists.1 (ups_in hst u hu).2
      exact (List.getElem?_eq_some_iff.1 hk).1
    have hR : ∀ b ∈ R, b < h.length := fun b hb => by
      obtain ⟨k, hk⟩ := Option.isSome_iff_exists.1 (R_some hst b hb)
      exact (List.getElem?_eq_some_iff.1 hk).1
    rw [List.length_append, appU_length]
    refine ⟨by omega, fun b hb => ?_, fun b hb => ?_⟩
    · rcases hb with hb | hb
      · have := hR b hb; omega
      · rcases List.mem_append.1 hb with hb | hb
        · obtain ⟨u, hu, rfl⟩ := List.mem_map.1 hb
          have := hin u hu; omega
        · exact (upto_mem hb).2
    · rw [List.mem_append, not_or] at hb
      by_cases hl : b < h.length
      · rw [List.getElem?_append_left (by rw [appU_length]; exact hl), appU_other _ _ _ hb.1]
      · have : ¬ b < h.length + news.length := fun h2 => hb.2 (mem_upto (by omega) h2)
        rw [List.getElem?_eq_none (by rw [List.length_append, appU_length]; omega), List.getElem?_eq_none (by omega)]

theorem callAt_sound {f : FuncId} {args : List V} {fr : Fr} {h hc h' : List Blk} {x : V} {R W : List Nat} {a : Act} {w : World} {vs : Array Value} {dst : Option Nat} {next : Act → World → Prop} {Q : Exit → Act → World → Prop}
    (hS : St X w0 ι0 n fr hc a w) (hW : CallT P f args h x h' R W) (hsz : vs.size = args.length)
    (hblk : ∀ b, b ∈ R ∨ b ∈ W → hc[b]? = some ((h[b]?).getD dum))
    (hargs : ∀ ι, SlRel X w ι (lk fr) a → ∀ (i : Nat) (v : Value) (y : V), vs[i]? = some v → args[i]? = some y → Rel w (OX X ι) ι v y) (hdst : ∀ d, dst = some d → d < n)
    (hnext : ∀ H' a' w', H'.length = hc.length → (∀ b ∈ W, H'[b]? = h'[b]?) → (∀ b, b ∉ W → H'[b]? = hc[b]?) → St X w0 ι0 n (put fr dst x) H' a' w' → next a' w') :
    Calls P f vs w fun
      | .returned v, w'' => next (a.put dst v) w''
      | .panicked chain, w'' => Q (.panic chain) a w''
      | .outgrown, _ => LetsOut Q := by
  obtain ⟨perm, m, r, hout, hnd, hlt, hlen, hver, _, hF, rfl, rfl, rfl, rfl⟩ := hW
  obtain ⟨⟨ι, H, hFr, hRf, hSl⟩, hn, hdef⟩ := hS
  have hltc : ∀ b, b ∈ R ++ upto h.length m → b < hc.length := fun b hb => (List.getElem?_eq_some_iff.1 (hblk b (.inr hb))).1
  have hpas : pasH hc R = pasH h R := by
    unfold pasH
    apply List.map_congr_left
    intro b hb
    have e := hblk b (.inl hb)
    have := hlt b hb
    rw [List.getElem?_eq_getElem this] at e
    rw [List.getD_eq_getElem?_getD, List.getD_eq_getElem?_getD, e, List.getElem?_eq_getElem this]; rfl
  have key := call_ok (newk := upto h.length m) H (hpas ▸ hF) hsz (hargs ι hSl) (List.nodup_append.2 ⟨hnd, upto_nodup _ _, fun x hx y hy e => by
      have := (upto_mem hy).1; have := hlt x hx; omega⟩)
    hltc
    (by rw [hlen, List.length_append, upto_len])
    (fun j b k hj hb hk => by
      refine ⟨hver k ?_, dum, ?_, rfl⟩
      · refine List.mem_of_getElem? (i := j - R.length) ?_
        rw [List.getElem?_drop]
        rw [← hk]; congr 1; omega
      · have hm := List.mem_of_getElem? hb
        have e := hblk b (.inr hm)
        rw [List.getElem?_append_right hj, upto_get] at hb
        split at hb
        · cases hb
          rw [e, List.getElem?_eq_none (by omega)]; rfl
        · cases hb)
  refine key.mono ?_
  rintro e w' ⟨v, ι', rfl, H', hr', hF', hR'⟩
  refine hnext _ _ _ (back_length _ _ _) (fun b hb => ?_) (fun b hb => back_out hb) ⟨⟨ι', H', hFr.trans hF', hRf.trans hR', (hSl.mono hF' hR').put dst hr' (fun d hd => by rw [hn]; exact hdst d hd)⟩, ?_, ?_⟩
  · refine back_in hb (hltc b hb) ?_
    rw [List.length_append, List.length_replicate]
    rcases List.mem_append.1 hb with hb | hb
    · have := hlt b hb; omega
    · exact (upto_mem hb).2
  · cases dst <;> simp [Act.put, hn]
  · cases dst <;> simp [Act.put, hdef]

/-- One operation, over a memory that is for what it touches the text's. -/
theorem op_at {o : Oper} {op : AOp} {fr frt : Fr} {h hc h' : List Blk} {x : V} {R W : List Nat} {a : Act} {w : World} {next : Act → World → Prop} {Q : Exit → Act → World → Prop}
    (hco : comp P o.op = some op) (hS : St X w0 ι0 n fr hc a w) (hdst : ∀ d, o.dst = some d → d < n) (hE : ExT P op frt h x h' R W)
    (hsl : ∀ i ∈ slotsOf op, lk fr i = lk frt i) (hblk : ∀ b, b ∈ R ∨ b ∈ W → hc[b]? = some ((h[b]?).getD dum))
    (hnext : ∀ H' a' w', H'.length = hc.length → (∀ b ∈ W, H'[b]? = h'[b]?) → (∀ b, b ∉ W → H'[b]? = hc[b]?) → St X w0 ι0 n (put fr o.dst x) H' a' w' → next a' w') : o.wp P a w next Q := by
  cases hE with
  | @call f args _ _ _ _ _ _ hc' =>
    obtain ⟨as, ats, ho, he, hl⟩ := comp_call hco
    have hrun : (execOp a.eval o).run P w = .ok (.enter f (as.map a.eval)) w := by
      unfold execOp
      rw [ho]
      simp [resolve, Act.eval, Deferred.ofValue, invoke, run_enters he]
    have hmap : args.map (AO.ev (lk fr)) = args.map (AO.ev (lk frt)) := map_congr args (fun i hi => hsl i (by simpa [slotsOf] using hi))
    rw [← hmap] at hc'
    unfold Oper.wp
    rw [hrun]
    have hlen : (as.map a.eval).size = (args.map (AO.ev (lk fr))).length := by
      obtain ⟨⟨ι, H, hFr, hRf, hSl⟩, _⟩ := hS
      have := (compL_rel hSl hl).1
      simpa using this
    exact callAt_sound hS hc' hlen hblk (fun ι hSl i v y hv hy => by
      rw [List.getElem?_map] at hy
      obtain ⟨y', h1, rfl⟩ := Option.map_eq_some_iff.1 hy
      exact (compL_rel hSl hl).2 i v y' (by rw [← hv]; simp) h1) hdst hnext
  | @callc xo args _ _ _ _ _ _ f caps hy hc' =>
    obtain ⟨g, as, ats, ho, hg, hl⟩ := comp_callc hco
    have hmap : args.map (AO.ev (lk fr)) = args.map (AO.ev (lk frt)) := map_congr args (fun i hi => hsl i (by simp only [slotsOf, List.mem_append]; exact .inr hi))
    have hx : xo.ev (lk fr) = .fn f caps := by rw [← hy]; exact ev_congr fun i hi => hsl i (by simp only [slotsOf, List.mem_append]; exact .inl hi)
    rw [← hmap] at hc'
    have he : enters P f = true := by obtain ⟨_, _, _, _, _, _, _, _, he, _⟩ := hc'; exact he
    obtain ⟨⟨ι, H, hFr, hRf, hSl⟩, hn, hdef⟩ := hS
    have hgr := AO.ev_rel hSl hg
    rw [hx] at hgr
    generalize hv : a.eval g = gv at hgr
    have hgr0 := hgr
    cases hgr with
    | fn hcl hcr =>
      rename_i cvs
      have hrun : (execOp a.eval o).run P w = .ok (.enter f (as.map a.eval ++ cvs)) w := by
        unfold execOp
        rw [ho]
        simp [resolve, hv, Deferred.ofValue, invoke, run_enters he]
      unfold Oper.wp
      rw [hrun]
      have hlen : (as.map a.eval ++ cvs).size = (args.map (AO.ev (lk fr)) ++ caps).length := by
        have := (compL_rel hSl hl).1
        rw [List.length_append, Array.size_append, hcl, Array.size_map, List.length_map]
        simpa using this
      refine callAt_sound ⟨⟨ι, H, hFr, hRf, hSl⟩, hn, hdef⟩ hc' hlen hblk (fun ι' hSl' i v y hvv hyy => ?_) hdst hnext
      have hgr' := AO.ev_rel hSl' hg
      rw [hx, hv] at hgr'
      cases hgr' with
      | fn hcl' hcr' =>
        have hal := (compL_rel hSl' hl).1
        rw [Array.getElem?_append] at hvv
        rw [List.getElem?_append] at hyy
        have e1 : (as.map a.eval).size = args.length := by simpa using hal
        have e2 : (args.map (AO.ev (lk fr))).length = args.length := by simp
        rw [e1] at hvv; rw [e2] at hyy
        by_cases hi : i < args.length
        · rw [if_pos hi] at hvv hyy
          rw [List.getElem?_map] at hyy
          obtain ⟨y', h1, rfl⟩ := Option.map_eq_some_iff.1 hyy
          exact (compL_rel hSl' hl).2 i v y' (by rw [← hvv]; simp) h1
        · rw [if_neg hi] at hvv hyy
          exact hcr' _ _ _ hvv hyy
  | @xcall f args _ _ _ hF =>
    obtain ⟨as, ats, ho, hl⟩ := comp_xcall hco
    have hmap : args.map (AO.ev (lk fr)) = args.map (AO.ev (lk frt)) := map_congr args (fun i hi => hsl i (by simpa [slotsOf] using hi))
    rw [← hmap] at hF
    obtain ⟨⟨ι, H, hFr, hRf, hSl⟩, hn, hdef⟩ := hS
    have hlen : (as.map a.eval).size = (args.map (AO.ev (lk fr))).length := by
      have := (compL_rel hSl hl).1
      simpa using this
    obtain ⟨v, h1, h2⟩ := hF X w ι _ hlen (fun i v y hv hy => by
      rw [List.getElem?_map] at hy
      obtain ⟨y', h1, rfl⟩ := Option.map_eq_some_iff.1 hy
      exact (compL_rel hSl hl).2 i v y' (by rw [← hv]; simp) h1)
    unfold Oper.wp
    rw [run_xcall ho, h1]
    exact hnext hc _ _ rfl (by simp) (fun _ _ => rfl) ⟨⟨ι, H, hFr, hRf, hSl.put o.dst h2 (fun d hd => by rw [hn]; exact hdst d hd)⟩, by cases o.dst <;> simp [Act.put, hn], by cases o.dst <;> simp [Act.put, hdef]⟩
  | @inv tab xo args _ _ _ _ _ _ f v hy hc' =>
    obtain ⟨g, name, as, ats, ho, rfl, hg, hl⟩ := comp_inv hco
    have hmap : args.map (AO.ev (lk fr)) = args.map (AO.ev (lk frt)) := map_congr args (fun i hi => hsl i (by simp only [slotsOf, List.mem_append]; exact .inr hi))
    have hx : invOf (methTab P name) (xo.ev (lk fr)) = some (f, v) := by rw [← hy]; congr 1; exact ev_congr fun i hi => hsl i (by simp only [slotsOf, List.mem_append]; exact .inl hi)
    rw [← hmap] at hc'
    obtain ⟨t, e1, e2⟩ := invOf_some hx
    unfold Oper.wp
    have hlen : ∀ cv : Value, (#[cv] ++ as.map a.eval).size = (v :: args.map (AO.ev (lk fr))).length := by
      intro cv
      obtain ⟨⟨ι, H, hFr, hRf, hSl⟩, _⟩ := hS
      have := (compL_rel hSl hl).1
      simp at this ⊢; omega
    obtain ⟨⟨ι, H, hFr, hRf, hSl⟩, hn, hdef⟩ := hS
    have hgr := AO.ev_rel hSl hg
    rw [e1] at hgr
    generalize hv : a.eval g = gv at hgr
    cases hgr with
    | ifc hr =>
      rename_i cv
      rw [run_invoke ho hv (look_meth e2)]
      refine callAt_sound ⟨⟨ι, H, hFr, hRf, hSl⟩, hn, hdef⟩ hc' (hlen cv) hblk (fun ι' hSl' i u y hvv hyy => ?_) hdst hnext
      have hgr' := AO.ev_rel hSl' hg
      rw [e1, hv] at hgr'
      exact inv_args hSl' hl hgr' hvv hyy
  | plain hn1 hn2 hp =>
    obtain ⟨ups, news, hst, rfl, rfl⟩ := hp
    have hin : ∀ u ∈ ups, u.1 < h.length := fun u hu => by
      obtain ⟨k, hk⟩ := Option.isSome_iff_exists.1 (ups_in hst u hu).2
      exact (List.getElem?_eq_some_iff.1 hk).1
    have hkeys : ∀ b ∈ ups.map (·.1), b < h.length := fun b hb => by
      obtain ⟨u, hu, rfl⟩ := List.mem_map.1 hb
      exact hin u hu
    have hst' := hst
    rw [← stepA_congr hsl] at hst'
    have hcl : ∀ i, i < news.length → h.length + i < hc.length := fun i hi => (List.getElem?_eq_some_iff.1 (hblk (h.length + i) (.inr (List.mem_append_right _ (mem_upto (by omega) (by omega)))))).1
    have hcl' : h.length + news.length ≤ hc.length ∨ news.length = 0 := by
      by_cases h0 : news.length = 0
      · exact .inr h0
      · have := hcl (news.length - 1) (by omega); exact .inl (by omega)
    obtain ⟨⟨ι, H, hFr, hRf, hSl⟩, hn, hdef⟩ := hS
    obtain ⟨nx, cv, w', ι', hrun, hnx, H', hx, hF', hR'⟩ := step_sound hco H hSl hst' (fun b hb => by
        have e := hblk b (.inl hb)
        obtain ⟨k, hk⟩ := Option.isSome_iff_exists.1 (R_some hst b hb)
        rw [e, hk]; rfl)
      (fun i hi => ⟨dum, by rw [hblk _ (.inr (List.mem_append_right _ (mem_upto (c := h.length) (b := h.length + i) (by omega) (by omega)))), List.getElem?_eq_none (by omega)]; rfl, rfl⟩)
    have hget : ∀ b, (appN (appU hc ups) h.length news)[b]? = if h.length ≤ b ∧ b < h.length + news.length then news[b - h.length]? else (appU hc ups)[b]? := by
      intro b
      rcases hcl' with h1 | h1
      · exact appN_get _ _ _ _ (by rw [appU_length]; exact h1)
      · have : news = [] := List.length_eq_zero_iff.1 h1
        subst this
        simp only [appN, List.length_nil, Nat.add_zero]
        rw [if_neg (by omega)]
    have fin : next (a.put o.dst cv) w' := by
      refine hnext _ _ _ (by rw [appN_length, appU_length]) (fun b hb => ?_) (fun b hb => ?_) ⟨⟨ι', H', hFr.trans hF', hRf.trans hR', (hSl.mono hF' hR').put o.dst hx (fun d hd => by rw [hn]; exact hdst d hd)⟩, by cases o.dst <;> simp [Act.put, hn], by cases o.dst <;> simp [Act.put, hdef]⟩
      · rw [hget]
        have hbc := (List.getElem?_eq_some_iff.1 (hblk b (.inr hb))).1
        rcases List.mem_append.1 hb with hb | hb
        · have := hkeys b hb
          rw [if_neg (by omega), List.getElem?_append_left (by rw [appU_length]; exact this)]
          exact appU_same _ _ _ _ (.inl hb) hbc this
        · have := upto_mem hb
          rw [if_pos this, List.getElem?_append_right (by rw [appU_length]; exact this.1), appU_length]
      · rw [List.mem_append, not_or] at hb
        rw [hget, if_neg (fun h2 => hb.2 (mem_upto h2.1 h2.2)), appU_other _ _ _ hb.1]
    unfold Oper.wp
    rw [hrun]
    rcases hnx with rfl | ⟨rfl, rfl⟩
    · exact fin
    · exact fin
theorem ExS.ne_bad {op : AOp} {fr : Fr} {h h' : List Blk} {x : V} {R W : List Nat} (hE : ExS P op fr h x h' R W) : op ≠ .bad := by
  rintro rfl
  obtain ⟨W0, hE, _⟩ := hE
  cases hE with
  | plain _ _ hp =>
    obtain ⟨ups, news, hst, _⟩ := hp
    simp [stepA] at hst
theorem ExS.facts {op : AOp} {fr : Fr} {h h' : List Blk} {x : V} {R W : List Nat} (hE : ExS P op fr h x h' R W) : h.length ≤ h'.length ∧ (∀ b, b ∈ R ∨ b ∈ W → b < h'.length) ∧ ∀ b, b ∉ W → (h'[b]?).getD dum = (h[b]?).getD dum := by
  obtain ⟨W0, hE, hsub, hsame⟩ := hE
  obtain ⟨h1, h2, h3⟩ := hE.facts
  refine ⟨h1, fun b hb => h2 b (hb.imp id (hsub b)), fun b hb => ?_⟩
  by_cases hw : b ∈ W0
  · rw [(hsame b hw hb).2.2]
  · exact h3 b hw
theorem op_atS {o : Oper} {op : AOp} {fr frt : Fr} {h hc h' : List Blk} {x : V} {R W : List Nat} {a : Act} {w : World} {next : Act → World → Prop} {Q : Exit → Act → World → Prop}
    (hco : comp P o.op = some op) (hS : St X w0 ι0 n fr hc a w) (hdst : ∀ d, o.dst = some d → d < n) (hE : ExS P op frt h x h' R W)
    (hsl : ∀ i ∈ slotsOf op, lk fr i = lk frt i) (hblk : ∀ b, b ∈ R ∨ b ∈ W → hc[b]? = some ((h[b]?).getD dum))
    (hnext : ∀ H' a' w', H'.length = hc.length → (∀ b ∈ W, H'[b]? = h'[b]?) → (∀ b, b ∉ W → H'[b]? = hc[b]?) → St X w0 ι0 n (put fr o.dst x) H' a' w' → next a' w') : o.wp P a w next Q := by
  obtain ⟨W0, hE, hsub, hsame⟩ := hE
  refine op_at hco hS hdst hE hsl (fun b hb => ?_) fun H' a' w' h1 h2 h3 h4 => hnext H' a' w' h1 (fun b hb => h2 b (hsub b hb)) (fun b hb => ?_) h4
  · rcases hb with hb | hb
    · exact hblk b (.inl hb)
    · by_cases hw : b ∈ W
      · exact hblk b (.inr hw)
      · exact hblk b (.inl (hsame b hb hw).1)
  · by_cases hw : b ∈ W0
    · obtain ⟨g1, g2, g3⟩ := hsame b hw hb
      rw [h2 b hw, g3, hblk b (.inl g1), List.getElem?_eq_getElem g2]; rfl
    · exact h3 b hw
end
end Go.Proofs.Ytjmmompbmjhkpaa.Calc
