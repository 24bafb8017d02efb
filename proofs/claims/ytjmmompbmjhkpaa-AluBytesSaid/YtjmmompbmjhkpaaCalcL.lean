/- The calculus, part 21: the abstract law of open orders, and operations with what they touch. No condition beyond those in each lemma. -/
import Derived.Test.YtjmmompbmjhkpaaCalcK
namespace Go.Proofs.Ytjmmompbmjhkpaa.Calc
open Go
variable {X : Nat → Prop}

section
variable {α : Type} {txt : Nat → Nat → α} {wr rd bef : Nat → Nat → Prop} {N : Nat} {S : Nat → Prop} {st st' : Nat → α} {i : Nat}

/-- S: what has run. A thing whose writers that have run are those of a beginning of the text holds what it holds there. -/
def OInv (txt : Nat → Nat → α) (wr : Nat → Nat → Prop) (N : Nat) (S : Nat → Prop) (st : Nat → α) : Prop :=
  ∀ r j, j ≤ N → (∀ k, k < N → wr k r → (k < j ↔ S k)) → st r = txt j r
def OConf (wr rd bef : Nat → Nat → Prop) (N : Nat) : Prop :=
  ∀ i j r, i < j → j < N → ((wr i r ∧ (wr j r ∨ rd j r)) ∨ (rd i r ∧ wr j r)) → bef j i

theorem OInv.at (hI : OInv txt wr N S st) (hconf : OConf wr rd bef N) (hcl : ∀ j k, S j → bef j k → S k) (hi : i < N) (hni : ¬ S i) (hpre : ∀ k, bef i k → S k) {r : Nat} (ht : wr i r ∨ rd i r) : st r = txt i r := by
  refine hI r i (Nat.le_of_lt hi) fun k hk hw => ⟨fun h => hpre k (hconf k i r h hi (.inl ⟨hw, ht⟩)), fun hS => ?_⟩
  rcases Nat.lt_trichotomy k i with h | h | h
  · exact h
  · subst h; exact absurd hS hni
  · refine absurd (hcl k i hS (hconf i k r h hk ?_)) hni
    rcases ht with ht | ht
    · exact .inl ⟨ht, .inl hw⟩
    · exact .inr ⟨ht, hw⟩

theorem OInv.step (hI : OInv txt wr N S st) (hconf : OConf wr rd bef N) (hper : ∀ i r, i < N → ¬ wr i r → txt (i + 1) r = txt i r) (hcl : ∀ j k, S j → bef j k → S k) (hi : i < N) (hni : ¬ S i)
    (hst : ∀ r, (wr i r → st' r = txt (i + 1) r) ∧ (¬ wr i r → st' r = st r)) : OInv txt wr N (fun k => S k ∨ k = i) st' := by
  intro r j hj hw
  by_cases hwi : wr i r
  · rw [(hst r).1 hwi]
    have hij : i < j := (hw i hi hwi).2 (.inr rfl)
    have key : ∀ d, i + 1 + d ≤ j → txt (i + 1 + d) r = txt (i + 1) r := by
      intro d
      induction d with
      | zero => intro _; rfl
      | succ d ih =>
        intro hd
        rw [← ih (by omega)]
        refine hper (i + 1 + d) r (by omega) fun hwm => ?_
        rcases (hw _ (by omega) hwm).1 (by omega) with h | h
        · exact hni (hcl _ i h (hconf i _ r (by omega) (by omega) (.inl ⟨hwi, .inl hwm⟩)))
        · omega
    have := key (j - (i + 1)) (by omega)
    rw [show i + 1 + (j - (i + 1)) = j by omega] at this
    exact this.symm
  · rw [(hst r).2 hwi]
    refine hI r j hj fun k hk hwk => ?_
    rw [hw k hk hwk]
    refine ⟨fun h => ?_, .inl⟩
    rcases h with h | rfl
    · exact h
    · exact absurd hwk hwi
end

/-- The direct forerunners of an operation. -/
def dirs (o : Oper) : List Nat := (o.after.toList.filter fun e => Region.binds .any e).map (·.on)
/-- All forerunners. -/
def befGo : List Oper → List (List Nat) → Option (List (List Nat))
  | [], acc => some acc
  | o :: rest, acc => if (dirs o).all (fun d => decide (d < acc.length)) = true then
      befGo rest (acc ++ [(List.range acc.length).filter fun k => (dirs o).contains k || (dirs o).any fun d => (acc.getD d []).contains k]) else none

structure BefOk (ops : List Oper) (B : List (List Nat)) : Prop where
  len : B.length = ops.length
  low : ∀ (j : Nat) (o : Oper), ops[j]? = some o → ∀ d ∈ dirs o, d < j
  mem : ∀ (j : Nat) (o : Oper), ops[j]? = some o → ∀ k ∈ B.getD j [], k ∈ dirs o ∨ ∃ d ∈ dirs o, k ∈ B.getD d []

theorem befGo_ok : ∀ (rest pre : List Oper) (acc B : List (List Nat)), BefOk pre acc → befGo rest acc = some B → BefOk (pre ++ rest) B := by
  intro rest
  induction rest with
  | nil => intro pre acc B h hb; simp only [befGo, Option.some.injEq] at hb; subst hb; simpa using h
  | cons o rest ih =>
    intro pre acc B h hb
    simp only [befGo] at hb
    split at hb
    · rename_i hall
      have hall : ∀ d ∈ dirs o, d < acc.length := by simpa using hall
      have := ih (pre ++ [o]) _ B ⟨by simp [h.len], fun j o' hj => ?_, fun j o' hj => ?_⟩ hb
      · simpa using this
      · rw [List.getElem?_append] at hj
        split at hj
        · exact h.low j o' hj
        · rename_i hlt
          cases hk : j - pre.length with
          | zero =>
            rw [hk] at hj
            simp at hj; subst hj
            intro d hd
            have := hall d hd
            rw [h.len] at this; omega
          | succ _ => rw [hk] at hj; simp at hj
      · intro k hk
        rw [List.getElem?_append] at hj
        split at hj
        · rename_i hlt
          rw [List.getD_eq_getElem?_getD, List.getElem?_append_left (by rw [h.len]; exact hlt), ← List.getD_eq_getElem?_getD] at hk
          rcases h.mem j o' hj k hk with h1 | ⟨d, h1, h2⟩
          · exact .inl h1
          · refine .inr ⟨d, h1, ?_⟩
            have := h.low j o' hj d h1
            rw [List.getD_eq_getElem?_getD, List.getElem?_append_left (by rw [h.len]; omega), ← List.getD_eq_getElem?_getD]
            exact h2
        · rename_i hlt
          cases hk' : j - pre.length with
          | zero =>
            rw [hk'] at hj
            simp at hj; subst hj
            have e : j = acc.length := by rw [h.len]; omega
            subst e
            rw [List.getD_eq_getElem?_getD, List.getElem?_append_right (Nat.le_refl _)] at hk
            simp only [Nat.sub_self, List.getElem?_cons_zero, Option.getD_some, List.mem_filter, Bool.or_eq_true, List.any_eq_true, List.contains_iff_mem] at hk
            rcases hk.2 with h1 | ⟨d, h1, h2⟩
            · exact .inl h1
            · refine .inr ⟨d, h1, ?_⟩
              rw [List.getD_eq_getElem?_getD, List.getElem?_append_left (hall d h1), ← List.getD_eq_getElem?_getD]
              exact h2
          | succ _ => rw [hk'] at hj; simp at hj
    · cases hb

theorem BefOk.closed {ops : List Oper} {B : List (List Nat)} (hB : BefOk ops B) {S : Nat → Prop} (hS : ∀ (j : Nat) (o : Oper), ops[j]? = some o → S j → ∀ d ∈ dirs o, S d) :
    ∀ (j : Nat) (o : Oper), ops[j]? = some o → (∀ d ∈ dirs o, S d) → ∀ k ∈ B.getD j [], S k := by
  intro j
  induction j using Nat.strongRecOn with
  | _ j ih =>
    intro o ho hd k hk
    rcases hB.mem j o ho k hk with h | ⟨d, h1, h2⟩
    · exact hd k h
    · have hlt := hB.low j o ho d h1
      have hj := (List.getElem?_eq_some_iff.1 ho).1
      have hod := List.getElem?_eq_getElem (l := ops) (show d < ops.length by omega)
      exact ih d hlt _ hod (hS d _ hod (hd d h1)) k h2

/-- What an operation with its guard reads. -/
def readsOf (o : AOper) : List Nat := (match o.guard with
  | some (g, _) => [g]
  | none => []) ++ slotsOf o.op
def slApart (a b : AOper) : Bool := (match a.dst with
  | some d => !(readsOf b).contains d && b.dst != some d
  | none => true) && (match b.dst with
  | some d => !(readsOf a).contains d
  | none => true)
/-- Operations that touch the same slots are ordered. -/
def slotsOk (B : List (List Nat)) (aops : List AOper) : Bool :=
  (List.range aops.length).all fun j => (List.range j).all fun i => (B.getD j []).contains i || slApart (aops.getD i default) (aops.getD j default)
def apartT (x y : List Nat × List Nat) : Bool := x.2.all (fun b => !y.1.contains b && !y.2.contains b) && x.1.all (fun b => !y.2.contains b)
/-- Operations that touch the same blocks are ordered. -/
def okTr (B : List (List Nat)) (tr : List (List Nat × List Nat)) : Bool :=
  (List.range tr.length).all fun j => (List.range j).all fun i => (B.getD j []).contains i || apartT (tr.getD i ([], [])) (tr.getD j ([], []))

theorem slotsOk_spec {B : List (List Nat)} {aops : List AOper} (h : slotsOk B aops = true) : OConf (fun j i => ∃ ao, aops[j]? = some ao ∧ ao.dst = some i) (fun j i => ∃ ao, aops[j]? = some ao ∧ i ∈ readsOf ao) (fun j k => k ∈ B.getD j []) aops.length := by
  intro i j r hij hj hc
  simp only [slotsOk, List.all_eq_true, List.mem_range, Bool.or_eq_true, List.contains_iff_mem] at h
  rcases h j hj i hij with h1 | h1
  · exact h1
  · exfalso
    have hi : i < aops.length := by omega
    rw [List.getD_eq_getElem?_getD, List.getD_eq_getElem?_getD, List.getElem?_eq_getElem hi, List.getElem?_eq_getElem hj] at h1
    simp only [Option.getD_some, slApart, Bool.and_eq_true] at h1
    rcases hc with ⟨⟨a, ha, hda⟩, hc⟩ | ⟨⟨a, ha, hra⟩, ⟨b, hb, hdb⟩⟩
    · rw [List.getElem?_eq_getElem hi] at ha; cases ha
      rw [hda] at h1
      simp at h1
      rcases hc with ⟨b, hb, hdb⟩ | ⟨b, hb, hrb⟩ <;> rw [List.getElem?_eq_getElem hj] at hb <;> cases hb
      · exact h1.1.2 hdb
      · exact h1.1.1 hrb
    · rw [List.getElem?_eq_getElem hi] at ha; cases ha
      rw [List.getElem?_eq_getElem hj] at hb; cases hb
      rw [hdb] at h1
      simp at h1
      exact h1.2 hra

theorem okTr_spec {B : List (List Nat)} {N : Nat} {RW : Nat → List Nat × List Nat} (h : okTr B ((List.range N).map RW) = true) : OConf (fun j b => b ∈ (RW j).2) (fun j b => b ∈ (RW j).1) (fun j k => k ∈ B.getD j []) N := by
  intro i j r hij hj hc
  simp only [okTr, List.all_eq_true, List.mem_range, Bool.or_eq_true, List.contains_iff_mem, List.length_map, List.length_range] at h
  rcases h j hj i hij with h1 | h1
  · exact h1
  · exfalso
    have hi : i < N := by omega
    have e : ∀ k, k < N → ((List.range N).map RW).getD k ([], []) = RW k := fun k hk => by
      rw [List.getD_eq_getElem?_getD, List.getElem?_map, List.getElem?_range hk]; rfl
    rw [e i hi, e j hj] at h1
    simp only [apartT, Bool.and_eq_true, List.all_eq_true, Bool.not_eq_true', List.contains_eq_mem, decide_eq_false_iff_not] at h1
    rcases hc with ⟨h2, h3 | h3⟩ | ⟨h2, h3⟩
    · exact (h1.1 r h2).2 h3
    · exact (h1.1 r h2).1 h3
    · exact h1.2 r h2 h3

/-! ### Operations with what they touch -/
def CallT (P : Program) (f : FuncId) (args : List V) (h : List Blk) (x : V) (h' : List Blk) (R W : List Nat) : Prop :=
  ∃ (perm : List Nat) (m : Nat) (r : V) (hout : List Blk), perm.Nodup ∧ (∀ b ∈ perm, b < h.length) ∧ hout.length = perm.length + m ∧ (∀ k ∈ hout.drop perm.length, 0 < k.ver) ∧
    enters P f = true ∧ FnE P f (args.map (pas perm)) (pasH h perm) r hout ∧ x = ren (perm ++ upto h.length m) r ∧ h' = back (h ++ List.replicate m dum) (perm ++ upto h.length m) hout ∧ R = perm ∧ W = perm ++ upto h.length m
def PlainT (op : AOp) (fr : Fr) (h : List Blk) (x : V) (h' : List Blk) (R W : List Nat) : Prop :=
  ∃ ups news, stepA op (AO.ev (lk fr)) (fun b => h[b]?) h.length = some (x, ups, news, R) ∧ h' = appU h ups ++ news ∧ W = ups.map (·.1) ++ upto h.length news.length
inductive ExT (P : Program) : AOp → Fr → List Blk → V → List Blk → List Nat → List Nat → Prop
  | call {f args fr h x h' R W} (hc : CallT P f (args.map (AO.ev (lk fr))) h x h' R W) : ExT P (.call f args) fr h x h' R W
  | callc {y args fr h x h' R W f caps} (hy : y.ev (lk fr) = .fn f caps) (hc : CallT P f (args.map (AO.ev (lk fr)) ++ caps) h x h' R W) : ExT P (.callc y args) fr h x h' R W
  | inv {tab y args fr h x h' R W f v} (hy : invOf tab (y.ev (lk fr)) = some (f, v)) (hc : CallT P f (v :: args.map (AO.ev (lk fr))) h x h' R W) : ExT P (.inv tab y args) fr h x h' R W
  | xcall {f args fr h r} (hx : ExtE P f (args.map (AO.ev (lk fr))) r) : ExT P (.xcall f args) fr h r h [] []
  | plain {op fr h x h' R W} (hn1 : ∀ f args, op ≠ .call f args) (hn2 : ∀ x args, op ≠ .callc x args) (hp : PlainT op fr h x h' R W) : ExT P op fr h x h' R W

/-- Of what may have been written less need be told: blocks that were read, too, and are as they were. -/
structure Shr (h h' : List Blk) (R W W' : List Nat) : Prop where
  sub : ∀ b ∈ W', b ∈ W
  same : ∀ b ∈ W, b ∉ W' → b ∈ R ∧ b < h.length ∧ h'[b]? = h[b]?
theorem Shr.refl {h h' : List Blk} {R W : List Nat} : Shr h h' R W W := ⟨fun _ h => h, fun _ h1 h2 => absurd h1 h2⟩
def ExS (P : Program) (op : AOp) (fr : Fr) (h : List Blk) (x : V) (h' : List Blk) (R W' : List Nat) : Prop := ∃ W, ExT P op fr h x h' R W ∧ Shr h h' R W W'
/-- A call, with what it touches. -/
def CallOkT (P : Program) (f : FuncId) (args : List V) (h : List Blk) (K : List Nat → List Nat → V → List Blk → Prop) : Prop :=
  ∃ (perm : List Nat) (m : Nat) (r : V) (hout : List Blk) (W' : List Nat), perm.Nodup ∧ (∀ b ∈ perm, b < h.length) ∧ hout.length = perm.length + m ∧ (∀ k ∈ hout.drop perm.length, 0 < k.ver) ∧
    enters P f = true ∧ FnE P f (args.map (pas perm)) (pasH h perm) r hout ∧ Shr h (back (h ++ List.replicate m dum) (perm ++ upto h.length m) hout) perm (perm ++ upto h.length m) W' ∧
    K perm W' (ren (perm ++ upto h.length m) r) (back (h ++ List.replicate m dum) (perm ++ upto h.length m) hout)
def WOpT (P : Program) (op : AOp) (fr : Fr) (h : List Blk) (K : List Nat → List Nat → V → List Blk → Prop) : Prop :=
  match op with
  | .call f args => CallOkT P f (args.map (AO.ev (lk fr))) h K
  | .callc x args => match (x.ev (lk fr)) with
    | .fn f caps => CallOkT P f (args.map (AO.ev (lk fr)) ++ caps) h K
    | _ => False
  | .inv tab x args => match invOf tab (x.ev (lk fr)) with
    | some (f, v) => CallOkT P f (v :: args.map (AO.ev (lk fr))) h K
    | none => False
  | .xcall f args => ∃ r, ExtE P f (args.map (AO.ev (lk fr))) r ∧ K [] [] r h
  | op => match stepA op (AO.ev (lk fr)) (fun b => h[b]?) h.length with
    | some (x, ups, news, R) => K R (ups.map (·.1) ++ upto h.length news.length) x (appU h ups ++ news)
    | none => False
def WOpsT (P : Program) : List AOper → List (List Nat × List Nat) → Fr → List Blk → (List (List Nat × List Nat) → Fr → List Blk → Prop) → Prop
  | [], tr, fr, h, K => K tr fr h
  | o :: rest, tr, fr, h, K =>
    match o.guard with
    | none => WOpT P o.op fr h fun R W x h' => WOpsT P rest (tr ++ [(R, W)]) (put fr o.dst x) h' K
    | some (g, want) => match lk fr g with
      | .c (.bool b) => if b = want then WOpT P o.op fr h fun R W x h' => WOpsT P rest (tr ++ [(R, W)]) (put fr o.dst x) h' K
          else WOpsT P rest (tr ++ [([], [])]) (put fr o.dst (.c undef)) h K
      | .c (.tuple _) => WOpsT P rest (tr ++ [([], [])]) (put fr o.dst (.c undef)) h K
      | _ => False

variable {P : Program}
theorem WOpT.ex {op : AOp} {fr : Fr} {h : List Blk} {K : List Nat → List Nat → V → List Blk → Prop} (hW : WOpT P op fr h K) : ∃ R W x h', ExS P op fr h x h' R W ∧ K R W x h' := by
  unfold WOpT at hW
  split at hW
  · obtain ⟨perm, m, r, hout, W', h1, h2, h3, h4, h5, h6, h8, h7⟩ := hW
    exact ⟨_, _, _, _, ⟨_, .call ⟨perm, m, r, hout, h1, h2, h3, h4, h5, h6, rfl, rfl, rfl, rfl⟩, h8⟩, h7⟩
  · split at hW
    · rename_i hx
      obtain ⟨perm, m, r, hout, W', h1, h2, h3, h4, h5, h6, h8, h7⟩ := hW
      exact ⟨_, _, _, _, ⟨_, .callc hx ⟨perm, m, r, hout, h1, h2, h3, h4, h5, h6, rfl, rfl, rfl, rfl⟩, h8⟩, h7⟩
    · exact hW.elim
  · split at hW
    · rename_i hx
      obtain ⟨perm, m, r, hout, W', h1, h2, h3, h4, h5, h6, h8, h7⟩ := hW
      exact ⟨_, _, _, _, ⟨_, .inv hx ⟨perm, m, r, hout, h1, h2, h3, h4, h5, h6, rfl, rfl, rfl, rfl⟩, h8⟩, h7⟩
    · exact hW.elim
  · obtain ⟨r, h1, h2⟩ := hW
    exact ⟨_, _, _, _, ⟨_, .xcall h1, .refl⟩, h2⟩
  · rename_i hn1 hn2 _ _
    split at hW
    · rename_i hst
      exact ⟨_, _, _, _, ⟨_, .plain (fun f args e => hn1 f args e) (fun x args e => hn2 x args e) ⟨_, _, hst, rfl, rfl⟩, .refl⟩, hW⟩
    · exact hW.elim

inductive StepT (P : Program) (o : AOper) (fr : Fr) (h : List Blk) : Fr → List Blk → List Nat → List Nat → Prop
  | pass {g want v} (hg : o.guard = some (g, want)) (hb : lk fr g = .c v) (hne : ∀ b, v = .bool b → b ≠ want) : StepT P o fr h (put fr o.dst (.c undef)) h [] []
  | run {x h' R W} (hg : o.guard = none ∨ ∃ g want, o.guard = some (g, want) ∧ lk fr g = .c (.bool want)) (hE : ExS P o.op fr h x h' R W) : StepT P o fr h (put fr o.dst x) h' R W

theorem WOpsT.unroll : ∀ (aops : List AOper) (tr : List (List Nat × List Nat)) (fr : Fr) (h : List Blk) (K : List (List Nat × List Nat) → Fr → List Blk → Prop), WOpsT P aops tr fr h K →
    ∃ (frs : Nat → Fr) (hs : Nat → List Blk) (RW : Nat → List Nat × List Nat), frs 0 = fr ∧ hs 0 = h ∧ (∀ i o, aops[i]? = some o → StepT P o (frs i) (hs i) (frs (i + 1)) (hs (i + 1)) (RW i).1 (RW i).2) ∧
      K (tr ++ (List.range aops.length).map RW) (frs aops.length) (hs aops.length) := by
  intro aops
  induction aops with
  | nil => intro tr fr h K hW; exact ⟨fun _ => fr, fun _ => h, fun _ => ([], []), rfl, rfl, by simp, by simpa [WOpsT] using hW⟩
  | cons o rest ih =>
    intro tr fr h K hW
    have glue : ∀ {fr' h' R W}, StepT P o fr h fr' h' R W → WOpsT P rest (tr ++ [(R, W)]) fr' h' K → ∃ (frs : Nat → Fr) (hs : Nat → List Blk) (RW : Nat → List Nat × List Nat), frs 0 = fr ∧ hs 0 = h ∧ (∀ i o', (o :: rest)[i]? = some o' → StepT P o' (frs i) (hs i) (frs (i + 1)) (hs (i + 1)) (RW i).1 (RW i).2) ∧
      K (tr ++ (List.range (o :: rest).length).map RW) (frs (o :: rest).length) (hs (o :: rest).length) := by
      intro fr' h' R W hst hr
      obtain ⟨frs, hs, RW, e1, e2, h3, h4⟩ := ih _ _ _ _ hr
      refine ⟨fun | 0 => fr | k + 1 => frs k, fun | 0 => h | k + 1 => hs k, fun | 0 => (R, W) | k + 1 => RW k, rfl, rfl, fun i o' hi => ?_, ?_⟩
      · cases i with
        | zero => simp at hi; subst hi; simp only [e1, e2]; exact hst
        | succ i => exact h3 i o' (by simpa using hi)
      · rw [List.length_cons, List.range_succ_eq_map, List.map_cons, List.map_map]
        rw [List.append_assoc] at h4
        exact h4
    simp only [WOpsT] at hW
    split at hW
    · rename_i hg
      obtain ⟨R, W, x, h', hE, hK⟩ := hW.ex
      exact glue (.run (.inl hg) hE) hK
    · rename_i g want hg
      split at hW
      · rename_i b hb
        split at hW
        · rename_i he; subst he
          obtain ⟨R, W, x, h', hE, hK⟩ := hW.ex
          exact glue (.run (.inr ⟨g, b, hg, hb⟩) hE) hK
        · rename_i hne
          exact glue (.pass hg hb (by rintro b' ⟨⟩; exact hne)) hW
      · rename_i t hb
        exact glue (.pass hg hb (by rintro b' ⟨⟩)) hW
      · exact hW.elim
end Go.Proofs.Ytjmmompbmjhkpaa.Calc
