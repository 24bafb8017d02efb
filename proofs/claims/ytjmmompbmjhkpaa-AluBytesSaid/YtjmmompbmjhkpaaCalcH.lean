/- The calculus, part 17: 'WOps' is sound: a region without open order, whose operations do over abstract values what is wanted, does it in the model. No condition beyond those in each lemma. -/
import Derived.Test.YtjmmompbmjhkpaaCalcG
namespace Go.Proofs.Ytjmmompbmjhkpaa.Calc
open Go
set_option linter.unusedSimpArgs false
variable {X : Nat → Prop}

theorem vlook_some {bl : Nat → Option Blk} {x : V} {l : List V} (h : vcells bl x = some l) : ∀ b ∈ vlook x, (bl b).isSome = true := by
  intro b hb
  cases x <;> simp [vlook] at hb
  · subst hb
    simp only [vcells] at h
    split at h
    · simp_all
    · cases h
  · subst hb
    simp only [vcells] at h
    split at h
    · simp_all
    · cases h
theorem rows_look {bl : Nat → Option Blk} {x : V} {e : Nat × List (List V)} (h : rowsOf bl x = some e) : ∀ b ∈ vlook x, (bl b).isSome = true := by
  intro b hb
  unfold rowsOf at h
  split at h
  · simp [vlook] at hb
  · simp [vlook] at hb; subst hb
    split at h
    · simp_all
    · cases h
  · cases h
theorem src_look {bl : Nat → Option Blk} {x : V} {s : Nat} {e : Nat × List (List V)} (h : srcOf bl s x = some e) : ∀ b ∈ vlook x, (bl b).isSome = true := by
  unfold srcOf at h
  split at h
  · intro b hb; simp [vlook] at hb
  · exact rows_look h
theorem fillP_look {bl : Nat → Option Blk} {ev : AO → V} : ∀ (ps : List (Nat × Nat × AO)) (cs r : List V) (k : List Nat), fillP bl ev cs ps = some (r, k) → ∀ b ∈ k, (bl b).isSome = true := by
  intro ps
  induction ps with
  | nil => intro cs r k h b hb; simp only [fillP, Option.some.injEq, Prod.mk.injEq] at h; obtain ⟨rfl, rfl⟩ := h; simp at hb
  | cons p ps ih =>
    intro cs r k h b hb
    obtain ⟨off, size, x⟩ := p
    simp only [fillP] at h
    split at h
    · cases h
    · rename_i l hl
      split at h
      · obtain ⟨⟨r1, r2⟩, h3, h4⟩ := Option.map_eq_some_iff.1 h
        simp only [Prod.mk.injEq] at h4
        obtain ⟨rfl, rfl⟩ := h4
        rw [List.mem_append] at hb
        rcases hb with hb | hb
        · exact vlook_some hl b hb
        · exact ih _ _ _ h3 b hb
      · cases h
theorem fillR_look {bl : Nat → Option Blk} {ev : AO → V} {e : Nat} : ∀ (ps : List (Nat × AO)) (cs r : List (List V)) (k : List Nat), fillR bl ev e cs ps = some (r, k) → ∀ b ∈ k, (bl b).isSome = true := by
  intro ps
  induction ps with
  | nil => intro cs r k h b hb; simp only [fillR, Option.some.injEq, Prod.mk.injEq] at h; obtain ⟨rfl, rfl⟩ := h; simp at hb
  | cons p ps ih =>
    intro cs r k h b hb
    obtain ⟨i, x⟩ := p
    simp only [fillR] at h
    split at h
    · cases h
    · rename_i l hl
      split at h
      · obtain ⟨⟨r1, r2⟩, h3, h4⟩ := Option.map_eq_some_iff.1 h
        simp only [Prod.mk.injEq] at h4
        obtain ⟨rfl, rfl⟩ := h4
        rw [List.mem_append] at hb
        rcases hb with hb | hb
        · exact vlook_some hl b hb
        · exact ih _ _ _ h3 b hb
      · cases h

theorem R_some {op : AOp} {ev : AO → V} {bl : Nat → Option Blk} {c : Nat} {x : V} {ups : List (Nat × Blk)} {news : List Blk} {R : List Nat} (hst : stepA op ev bl c = some (x, ups, news, R)) :
    ∀ b ∈ R, (bl b).isSome = true := by
  have nil : R = [] → ∀ b ∈ R, (bl b).isSome = true := by rintro rfl u hu; simp at hu
  have pure : ∀ {y : Option V}, pureS y = some (x, ups, news, R) → ∀ b ∈ R, (bl b).isSome = true := by
    intro y h
    unfold pureS at h
    obtain ⟨z, h1, h2⟩ := Option.map_eq_some_iff.1 h
    cases h2; exact nil rfl
  cases op <;> simp only [stepA] at hst
  all_goals first
    | (exact pure hst)
    | (repeat' split at hst) <;> first
        | (cases hst; done)
        | (cases hst; exact nil rfl)
        | (obtain ⟨_, _, hst⟩ := Option.map_eq_some_iff.1 hst; cases hst; exact nil rfl)
        | (obtain ⟨_, _, hst⟩ := Option.map_eq_some_iff.1 hst; cases hst; intro b hb; simp at hb; subst hb; simp_all; done)
        | (cases hst; intro b hb; simp at hb; subst hb; simp_all; done)
        | (cases hst; exact vlook_some (by assumption))
        | (cases hst; exact fillP_look _ _ _ _ (by assumption))
        | (cases hst; exact fillR_look _ _ _ _ (by assumption))
        | (cases hst; exact src_look (by assumption))
        | (cases hst; intro b hb; rcases List.mem_cons.1 hb with rfl | hb; (· simp_all); (· exact vlook_some (by assumption) b hb))
        | (cases hst; intro b hb; rcases List.mem_cons.1 hb with rfl | hb; (· simp_all); (· exact rows_look (by assumption) b hb))
        | (cases hst; intro b hb; rcases List.mem_cons.1 hb with rfl | hb; (· simp_all); (· exact src_look (by assumption) b hb))

section
variable {P : Program} {w0 : World} {ι0 : List Place} {n : Nat}

theorem run_enters {f : FuncId} (he : enters P f = true) (args : Array Value) (w : World) : (callFunc f args).run P w = .ok (.enter f args) w := by
  unfold enters at he
  cases hf : P.funcs[f]? with
  | none => rw [hf] at he; cases he
  | some fn =>
    rw [hf] at he
    dsimp only at he
    rw [Bool.and_eq_true, bne_iff_ne] at he
    have hb : fn.body.isNone = false := by
      have := he.2
      cases hb : fn.body <;> simp_all
    have hn : (fn.name == "runtime.NumGoroutine") = false := by simpa using he.1
    simp only [callFunc, Sem.run_bind, run_program, Result.andThen_ok, hf, hn, hb, Bool.false_eq_true, if_false, Sem.run_pure]

theorem comp_call {o : Op} {f : FuncId} {args : List AO} (hc : comp P o = some (.call f args)) : ∃ as ats, o = .call ⟨.value (.func f), as, ats⟩ ∧ enters P f = true ∧ compL as.toList = some args := by
  cases o with
  | call c =>
    obtain ⟨callee, as, ats⟩ := c
    simp only [comp] at hc
    cases callee with
    | value g =>
      cases g with
      | func g =>
        dsimp only at hc
        split at hc
        · rename_i he
          obtain ⟨l, h1, h2⟩ := Option.map_eq_some_iff.1 hc
          cases h2
          exact ⟨as, ats, rfl, he, h1⟩
        · obtain ⟨l, h1, h2⟩ := Option.map_eq_some_iff.1 hc
          cases h2
      | _ => dsimp only at hc; obtain ⟨y, _, hc⟩ := bind_some hc; obtain ⟨l, _, hc⟩ := bind_some hc; cases hc
    | invoke => dsimp only at hc; obtain ⟨y, _, hc⟩ := bind_some hc; obtain ⟨l, _, hc⟩ := bind_some hc; cases hc
    | builtin b =>
      exfalso
      dsimp only at hc
      (repeat' split at hc) <;> simp [Option.map_eq_some_iff, Option.bind_eq_some_iff] at hc
  | makeFunc fn first caps => exfalso; cases fn <;> simp only [comp] at hc <;> (try split at hc) <;> simp [Option.map_eq_some_iff] at hc
  | slice t x lo hi mx => exfalso; cases mx <;> simp only [comp] at hc <;> (try split at hc) <;> simp [Option.bind_eq_some_iff] at hc
  | _ =>
    exfalso
    simp only [comp] at hc
    first
      | (cases hc; done)
      | ((repeat' split at hc) <;> simp [Option.map_eq_some_iff, Option.bind_eq_some_iff] at hc; done)
      | (obtain ⟨_, _, hc⟩ := bind_some hc; (repeat' split at hc) <;> simp [Option.map_eq_some_iff, Option.bind_eq_some_iff] at hc; done)
      | (obtain ⟨_, _, hc⟩ := bind_some hc; obtain ⟨_, _, hc⟩ := bind_some hc; unfold compEq at hc; (repeat' split at hc) <;> simp [Option.map_eq_some_iff, Option.bind_eq_some_iff] at hc; done)
      | (obtain ⟨_, _, hc⟩ := bind_some hc; obtain ⟨_, _, hc⟩ := bind_some hc; (repeat' split at hc) <;> simp [Option.map_eq_some_iff, Option.bind_eq_some_iff] at hc; done)
theorem comp_callc {o : Op} {x : AO} {args : List AO} (hc : comp P o = some (.callc x args)) : ∃ g as ats, o = .call ⟨.value g, as, ats⟩ ∧ compO g = some x ∧ compL as.toList = some args := by
  cases o with
  | call c =>
    obtain ⟨callee, as, ats⟩ := c
    simp only [comp] at hc
    cases callee with
    | value g =>
      cases g with
      | func g =>
        dsimp only at hc
        split at hc
        · obtain ⟨l, h1, h2⟩ := Option.map_eq_some_iff.1 hc; cases h2
        · obtain ⟨l, h1, h2⟩ := Option.map_eq_some_iff.1 hc; cases h2
      | _ => dsimp only at hc; obtain ⟨y, h1, hc⟩ := bind_some hc; obtain ⟨l, h2, hc⟩ := bind_some hc; cases hc; exact ⟨_, as, ats, rfl, h1, h2⟩
    | invoke => dsimp only at hc; obtain ⟨y, _, hc⟩ := bind_some hc; obtain ⟨l, _, hc⟩ := bind_some hc; cases hc
    | builtin b =>
      exfalso
      dsimp only at hc
      (repeat' split at hc) <;> simp [Option.map_eq_some_iff, Option.bind_eq_some_iff] at hc
  | makeFunc fn first caps => exfalso; cases fn <;> simp only [comp] at hc <;> (try split at hc) <;> simp [Option.map_eq_some_iff] at hc
  | slice t x lo hi mx => exfalso; cases mx <;> simp only [comp] at hc <;> (try split at hc) <;> simp [Option.bind_eq_some_iff] at hc
  | _ =>
    exfalso
    simp only [comp] at hc
    first
      | (cases hc; done)
      | ((repeat' split at hc) <;> simp [Option.map_eq_some_iff, Option.bind_eq_some_iff] at hc; done)
      | (obtain ⟨_, _, hc⟩ := bind_some hc; (repeat' split at hc) <;> simp [Option.map_eq_some_iff, Option.bind_eq_some_iff] at hc; done)
      | (obtain ⟨_, _, hc⟩ := bind_some hc; obtain ⟨_, _, hc⟩ := bind_some hc; unfold compEq at hc; (repeat' split at hc) <;> simp [Option.map_eq_some_iff, Option.bind_eq_some_iff] at hc; done)
      | (obtain ⟨_, _, hc⟩ := bind_some hc; obtain ⟨_, _, hc⟩ := bind_some hc; (repeat' split at hc) <;> simp [Option.map_eq_some_iff, Option.bind_eq_some_iff] at hc; done)

theorem comp_inv {o : Op} {tab : List (TypeId × FuncId)} {x : AO} {args : List AO} (hc : comp P o = some (.inv tab x args)) : ∃ g name as ats, o = .call ⟨.invoke g name, as, ats⟩ ∧ tab = methTab P name ∧ compO g = some x ∧ compL as.toList = some args := by
  cases o with
  | call c =>
    obtain ⟨callee, as, ats⟩ := c
    simp only [comp] at hc
    cases callee with
    | value g =>
      exfalso
      cases g with
      | func g =>
        dsimp only at hc
        split at hc
        · obtain ⟨l, h1, h2⟩ := Option.map_eq_some_iff.1 hc; cases h2
        · obtain ⟨l, h1, h2⟩ := Option.map_eq_some_iff.1 hc; cases h2
      | _ => dsimp only at hc; obtain ⟨y, h1, hc⟩ := bind_some hc; obtain ⟨l, h2, hc⟩ := bind_some hc; cases hc
    | invoke g name =>
      dsimp only at hc
      obtain ⟨y, h1, hc⟩ := bind_some hc; obtain ⟨l, h2, hc⟩ := bind_some hc; cases hc; exact ⟨_, _, as, ats, rfl, rfl, h1, h2⟩
    | builtin b =>
      exfalso
      dsimp only at hc
      (repeat' split at hc) <;> simp [Option.map_eq_some_iff, Option.bind_eq_some_iff] at hc
  | makeFunc fn first caps => exfalso; cases fn <;> simp only [comp] at hc <;> (try split at hc) <;> simp [Option.map_eq_some_iff] at hc
  | slice t x lo hi mx => exfalso; cases mx <;> simp only [comp] at hc <;> (try split at hc) <;> simp [Option.bind_eq_some_iff] at hc
  | _ =>
    exfalso
    simp only [comp] at hc
    first
      | (cases hc; done)
      | ((repeat' split at hc) <;> simp [Option.map_eq_some_iff, Option.bind_eq_some_iff] at hc; done)
      | (obtain ⟨_, _, hc⟩ := bind_some hc; (repeat' split at hc) <;> simp [Option.map_eq_some_iff, Option.bind_eq_some_iff] at hc; done)
      | (obtain ⟨_, _, hc⟩ := bind_some hc; obtain ⟨_, _, hc⟩ := bind_some hc; unfold compEq at hc; (repeat' split at hc) <;> simp [Option.map_eq_some_iff, Option.bind_eq_some_iff] at hc; done)
      | (obtain ⟨_, _, hc⟩ := bind_some hc; obtain ⟨_, _, hc⟩ := bind_some hc; (repeat' split at hc) <;> simp [Option.map_eq_some_iff, Option.bind_eq_some_iff] at hc; done)
theorem comp_xcall {o : Op} {f : FuncId} {args : List AO} (hc : comp P o = some (.xcall f args)) : ∃ as ats, o = .call ⟨.value (.func f), as, ats⟩ ∧ compL as.toList = some args := by
  cases o with
  | call c =>
    obtain ⟨callee, as, ats⟩ := c
    simp only [comp] at hc
    cases callee with
    | value g =>
      cases g with
      | func g =>
        dsimp only at hc
        split at hc
        · obtain ⟨l, h1, h2⟩ := Option.map_eq_some_iff.1 hc; cases h2
        · obtain ⟨l, h1, h2⟩ := Option.map_eq_some_iff.1 hc; cases h2; exact ⟨as, ats, rfl, h1⟩
      | _ => exfalso; dsimp only at hc; obtain ⟨y, h1, hc⟩ := bind_some hc; obtain ⟨l, h2, hc⟩ := bind_some hc; cases hc
    | invoke g name =>
      dsimp only at hc
      obtain ⟨y, h1, hc⟩ := bind_some hc; obtain ⟨l, h2, hc⟩ := bind_some hc; cases hc
    | builtin b =>
      exfalso
      dsimp only at hc
      (repeat' split at hc) <;> simp [Option.map_eq_some_iff, Option.bind_eq_some_iff] at hc
  | makeFunc fn first caps => exfalso; cases fn <;> simp only [comp] at hc <;> (try split at hc) <;> simp [Option.map_eq_some_iff] at hc
  | slice t x lo hi mx => exfalso; cases mx <;> simp only [comp] at hc <;> (try split at hc) <;> simp [Option.bind_eq_some_iff] at hc
  | _ =>
    exfalso
    simp only [comp] at hc
    first
      | (cases hc; done)
      | ((repeat' split at hc) <;> simp [Option.map_eq_some_iff, Option.bind_eq_some_iff] at hc; done)
      | (obtain ⟨_, _, hc⟩ := bind_some hc; (repeat' split at hc) <;> simp [Option.map_eq_some_iff, Option.bind_eq_some_iff] at hc; done)
      | (obtain ⟨_, _, hc⟩ := bind_some hc; obtain ⟨_, _, hc⟩ := bind_some hc; unfold compEq at hc; (repeat' split at hc) <;> simp [Option.map_eq_some_iff, Option.bind_eq_some_iff] at hc; done)
      | (obtain ⟨_, _, hc⟩ := bind_some hc; obtain ⟨_, _, hc⟩ := bind_some hc; (repeat' split at hc) <;> simp [Option.map_eq_some_iff, Option.bind_eq_some_iff] at hc; done)
theorem lookT_filter {g : Nat → Option FuncId} : ∀ {l : List Nat} {t : TypeId} {f : FuncId}, lookT (l.filterMap fun t => (g t).map (t, ·)) t = some f → g t = some f := by
  intro l
  induction l with
  | nil => intro t f h; simp [lookT] at h
  | cons a l ih =>
    intro t f h
    simp only [List.filterMap_cons] at h
    cases hg : g a with
    | none => rw [hg] at h; exact ih h
    | some f' =>
      rw [hg] at h
      simp only [Option.map_some, lookT] at h
      split at h
      · rename_i e; subst e; rw [hg]; exact h
      · exact ih h
theorem look_meth {name : String} {t : TypeId} {f : FuncId} (h : lookT (methTab P name) t = some f) : methOf P t name = some f := lookT_filter (g := fun t => methOf P t name) h
theorem invOf_some {tab : List (TypeId × FuncId)} {y v : V} {f : FuncId} (h : invOf tab y = some (f, v)) : ∃ t, y = .ifc t v ∧ lookT tab t = some f := by
  unfold invOf at h
  split at h
  · rename_i t v'
    obtain ⟨f', h1, h2⟩ := Option.map_eq_some_iff.1 h
    cases h2
    exact ⟨t, rfl, h1⟩
  · cases h
theorem run_method {t : TypeId} {name : String} {f : FuncId} (h : methOf P t name = some f) (n : Nat) (v : Value) (w : World) : (method (n + 1) t v name).run P w = .ok (f, v) w ∧ enters P f = true := by
  unfold methOf at h
  split at h
  · rename_i i hi
    split at h
    · rename_i m hm
      split at h
      · rename_i g e hp hf hu
        split at h
        · rename_i he
          cases h
          refine ⟨?_, he⟩
          simp only [method, Sem.run_bind, typeInfo, run_program, hi, Result.andThen_ok, Sem.run_pure, hm, hp, follow, hf, receiverAt, run_underlying hu, Place.get]
        · cases h
      · cases h
    · cases h
  · cases h
theorem run_invoke {o : Oper} {g : Operand} {name : String} {as : Array Operand} {ats : Array TypeId} {a : Act} {t : TypeId} {cv : Value} {f : FuncId} {w : World} (ho : o.op = .call ⟨.invoke g name, as, ats⟩) (hv : a.eval g = .iface t cv) (hm : methOf P t name = some f) :
    (execOp a.eval o).run P w = .ok (.enter f (#[cv] ++ as.map a.eval)) w := by
  obtain ⟨h1, h2⟩ := run_method hm (P.types.size + Made.depth - 1) cv w
  have hd : 0 < Made.depth := by decide
  have e0 : P.types.size + Made.depth - 1 + 1 = P.types.size + Made.depth := Nat.sub_add_cancel (Nat.le_trans hd (Nat.le_add_left _ _))
  rw [e0] at h1
  unfold execOp
  rw [ho]
  simp only [resolve, Sem.run_bind, Sem.run_pure, Result.andThen_ok, invoke, hv]
  have e1 : (#[Value.iface t cv] ++ as.map a.eval)[0]? = some (.iface t cv) := by rw [Array.getElem?_append_left (by simp)]; rfl
  have e2 : (#[Value.iface t cv] ++ as.map a.eval).extract 1 (#[Value.iface t cv] ++ as.map a.eval).size = as.map a.eval := by
    apply Array.ext'
    rw [Array.toList_extract]
    simp only [List.extract, Array.toList_append, Array.size_append, Array.size_map, Array.toList_map]
    simp
    exact List.take_of_length_le (by simp)
  simp only [e1, e2, callMethod, Sem.run_bind, run_program, Result.andThen_ok, h1, run_enters h2]
theorem run_xcall {o : Oper} {f : FuncId} {as : Array Operand} {ats : Array TypeId} {a : Act} {w : World} (ho : o.op = .call ⟨.value (.func f), as, ats⟩) : (execOp a.eval o).run P w = (callFunc f (as.map a.eval)).run P w := by
  unfold execOp
  rw [ho]
  simp [resolve, Act.eval, Deferred.ofValue, invoke]
theorem inv_args {w : World} {ι : List Place} {fr : Fr} {a : Act} {as : Array Operand} {args : List AO} {t : TypeId} {cv : Value} {v : V} (hSl : SlRel X w ι (lk fr) a) (hl : compL as.toList = some args) (hr : Rel w (OX X ι) ι (.iface t cv) (.ifc t v)) {i : Nat} {u : Value} {y : V}
    (hu : (#[cv] ++ as.map a.eval)[i]? = some u) (hy : (v :: args.map (AO.ev (lk fr)))[i]? = some y) : Rel w (OX X ι) ι u y := by
  cases hr with
  | ifc hr =>
    cases i with
    | zero =>
      rw [Array.getElem?_append_left (by simp)] at hu
      simp at hu hy; subst hu; subst hy; exact hr
    | succ i =>
      rw [Array.getElem?_append_right (by simp)] at hu
      simp only [List.getElem?_cons_succ, List.getElem?_map] at hy
      obtain ⟨y', h1, rfl⟩ := Option.map_eq_some_iff.1 hy
      exact (compL_rel hSl hl).2 i u y' (by rw [← hu]; simp) h1

theorem callOk_sound {f : FuncId} {args : List V} {fr : Fr} {h : List Blk} {a : Act} {w : World} {K : V → List Blk → Prop} {vs : Array Value} {dst : Option Nat} {next : Act → World → Prop} {Q : Exit → Act → World → Prop}
    (hS : St X w0 ι0 n fr h a w) (hW : CallOk P f args h K) (hsz : vs.size = args.length)
    (hargs : ∀ ι, SlRel X w ι (lk fr) a → ∀ (i : Nat) (v : Value) (y : V), vs[i]? = some v → args[i]? = some y → Rel w (OX X ι) ι v y) (hdst : ∀ d, dst = some d → d < n)
    (hnext : ∀ x h' a' w', K x h' → St X w0 ι0 n (put fr dst x) h' a' w' → next a' w') :
    Calls P f vs w fun
      | .returned v, w'' => next (a.put dst v) w''
      | .panicked chain, w'' => Q (.panic chain) a w''
      | .outgrown, _ => LetsOut Q := by
  obtain ⟨perm, m, r, hout, hnd, hlt, hlen, hver, _, hF, hK⟩ := hW
  obtain ⟨⟨ι, H, hFr, hRf, hSl⟩, hn, hdef⟩ := hS
  obtain ⟨ι1, H1, hR1, hO1⟩ := H.dums m
  have hF1 : Frm w (Own ι) w (Own ι1) := ⟨Nat.le_refl _, fun _ _ _ => rfl, fun r hr => .inl (hO1 r hr), rfl, rfl, rfl⟩
  have hSl1 := hSl.mono hF1 hR1
  have hpas : pasH (h ++ List.replicate m dum) perm = pasH h perm := by
    unfold pasH
    apply List.map_congr_left
    intro b hb
    rw [List.getD_eq_getElem?_getD, List.getD_eq_getElem?_getD, List.getElem?_append_left (hlt b hb)]
  have key := call_ok (newk := upto h.length m) H1 (hpas ▸ hF) hsz (hargs ι1 hSl1) (List.nodup_append.2 ⟨hnd, upto_nodup _ _, fun x hx y hy e => by
      have := (upto_mem hy).1; have := hlt x hx; omega⟩)
    (fun b hb => by
      rw [List.mem_append] at hb
      rw [List.length_append, List.length_replicate]
      rcases hb with hb | hb
      · have := hlt b hb; omega
      · exact (upto_mem hb).2)
    (by rw [hlen, List.length_append, upto_len])
    (fun j b k hj hb hk => by
      refine ⟨hver k ?_, dum, ?_, rfl⟩
      · refine List.mem_of_getElem? (i := j - perm.length) ?_
        rw [List.getElem?_drop]
        rw [← hk]; congr 1; omega
      · rw [List.getElem?_append_right hj, upto_get] at hb
        split at hb
        · cases hb
          rw [List.getElem?_append_right (by omega), List.getElem?_replicate, if_pos (by omega)]
        · cases hb)
  refine key.mono ?_
  rintro e w' ⟨v, ι', rfl, H', hr', hF', hR'⟩
  refine hnext _ _ _ _ hK ⟨⟨ι', H', (hFr.trans hF1).trans hF', (hRf.trans hR1).trans hR', (hSl1.mono hF' hR').put dst hr' (fun d hd => by rw [hn]; exact hdst d hd)⟩, ?_, ?_⟩
  · cases dst <;> simp [Act.put, hn]
  · cases dst <;> simp [Act.put, hdef]

theorem wop_sound {o : Oper} {op : AOp} {fr : Fr} {h : List Blk} {a : Act} {w : World} {K : V → List Blk → Prop} {next : Act → World → Prop} {Q : Exit → Act → World → Prop}
    (hc : comp P o.op = some op) (hS : St X w0 ι0 n fr h a w) (hdst : ∀ d, o.dst = some d → d < n) (hW : WOp P op fr h K)
    (hnext : ∀ x h' a' w', K x h' → St X w0 ι0 n (put fr o.dst x) h' a' w' → next a' w') : o.wp P a w next Q := by
  have plain : ∀ {x ups news R}, stepA op (AO.ev (lk fr)) (fun b => h[b]?) h.length = some (x, ups, news, R) → K x (appU h ups ++ news) → o.wp P a w next Q := by
    intro x ups news R hst hK
    obtain ⟨⟨ι, H, hFr, hRf, hSl⟩, hn, hdef⟩ := hS
    obtain ⟨ι1, H1, hR1, hO1⟩ := H.dums news.length
    have hF1 : Frm w (Own ι) w (Own ι1) := ⟨Nat.le_refl _, fun _ _ _ => rfl, fun r hr => .inl (hO1 r hr), rfl, rfl, rfl⟩
    have hSl1 := hSl.mono hF1 hR1
    obtain ⟨nx, cv, w', ι', hrun, hnx, H', hx, hF', hR'⟩ := step_sound hc H1 hSl1 hst (fun b hb => by
        have := R_some hst b hb
        obtain ⟨k, hk⟩ := Option.isSome_iff_exists.1 this
        have hl := (List.getElem?_eq_some_iff.1 hk).1
        exact (List.getElem?_append_left hl).symm)
      (fun i hi => ⟨dum, by rw [List.getElem?_append_right (by omega), List.getElem?_replicate, if_pos (by omega)], rfl⟩)
    have hin : ∀ u ∈ ups, u.1 < h.length := fun u hu => by
      obtain ⟨k, hk⟩ := Option.isSome_iff_exists.1 (ups_in hst u hu).2
      exact (List.getElem?_eq_some_iff.1 hk).1
    rw [appU_append _ _ _ hin] at H'
    have e := appN_dums news (appU h ups)
    rw [appU_length] at e
    rw [e] at H'
    have fin : next (a.put o.dst cv) w' := hnext _ _ _ _ hK ⟨⟨ι', H', (hFr.trans hF1).trans hF', (hRf.trans hR1).trans hR', (hSl1.mono hF' hR').put o.dst hx (fun d hd => by rw [hn]; exact hdst d hd)⟩, by cases o.dst <;> simp [Act.put, hn], by cases o.dst <;> simp [Act.put, hdef]⟩
    unfold Oper.wp
    rw [hrun]
    rcases hnx with rfl | ⟨rfl, rfl⟩
    · exact fin
    · exact fin
  have hother : ∀ (hne1 : ∀ f args, op ≠ .call f args) (hne2 : ∀ x args, op ≠ .callc x args) (hne3 : ∀ t x args, op ≠ .inv t x args) (hne4 : ∀ f args, op ≠ .xcall f args), o.wp P a w next Q := by
    intro hne1 hne2 hne3 hne4
    unfold WOp at hW
    split at hW
    · exact absurd rfl (hne1 _ _)
    · exact absurd rfl (hne2 _ _)
    · exact absurd rfl (hne3 _ _ _)
    · exact absurd rfl (hne4 _ _)
    · split at hW
      · rename_i x ups news R hst
        exact plain hst hW
      · exact hW.elim
  cases hop : op with
  | call f args =>
    subst hop
    obtain ⟨as, ats, ho, he, hl⟩ := comp_call hc
    have hrun : (execOp a.eval o).run P w = .ok (.enter f (as.map a.eval)) w := by
      unfold execOp
      rw [ho]
      simp [resolve, Act.eval, Deferred.ofValue, invoke, run_enters he]
    unfold Oper.wp
    rw [hrun]
    simp only [WOp] at hW
    have hlen : (as.map a.eval).size = (args.map (AO.ev (lk fr))).length := by
      obtain ⟨⟨ι, H, hFr, hRf, hSl⟩, _⟩ := hS
      have := (compL_rel hSl hl).1
      simpa using this
    exact callOk_sound hS hW hlen (fun ι hSl i v y hv hy => by
      rw [List.getElem?_map] at hy
      obtain ⟨y', h1, rfl⟩ := Option.map_eq_some_iff.1 hy
      exact (compL_rel hSl hl).2 i v y' (by rw [← hv]; simp) h1) hdst hnext
  | callc xo args =>
    subst hop
    obtain ⟨g, as, ats, ho, hg, hl⟩ := comp_callc hc
    simp only [WOp] at hW
    split at hW
    · rename_i f caps hx
      have he : enters P f = true := by obtain ⟨_, _, _, _, _, _, _, _, he, _⟩ := hW; exact he
      obtain ⟨⟨ι, H, hFr, hRf, hSl⟩, hn, hdef⟩ := hS
      have hgr := AO.ev_rel hSl hg
      rw [hx] at hgr
      generalize hv : a.eval g = gv at hgr
      have hgr0 := hgr
      cases hgr with
      | fn hcl hcr =>
        rename_i cvs
        have hrun : (execOp a.eval o).run P w = .ok (.enter f (as.map a.eval ++ cvs)) w := by
          unfold execOp
          rw [ho]
          simp [resolve, hv, Deferred.ofValue, invoke, run_enters he]
        unfold Oper.wp
        rw [hrun]
        have hlen : (as.map a.eval ++ cvs).size = (args.map (AO.ev (lk fr)) ++ caps).length := by
          have := (compL_rel hSl hl).1
          rw [List.length_append, Array.size_append, hcl, Array.size_map, List.length_map]
          simpa using this
        refine callOk_sound ⟨⟨ι, H, hFr, hRf, hSl⟩, hn, hdef⟩ hW hlen (fun ι' hSl' i v y hvv hyy => ?_) hdst hnext
        have hgr' := AO.ev_rel hSl' hg
        rw [hx, hv] at hgr'
        cases hgr' with
        | fn hcl' hcr' =>
          have hal := (compL_rel hSl' hl).1
          rw [Array.getElem?_append] at hvv
          rw [List.getElem?_append] at hyy
          have e1 : (as.map a.eval).size = args.length := by simpa using hal
          have e2 : (args.map (AO.ev (lk fr))).length = args.length := by simp
          rw [e1] at hvv; rw [e2] at hyy
          by_cases hi : i < args.length
          · rw [if_pos hi] at hvv hyy
            rw [List.getElem?_map] at hyy
            obtain ⟨y', h1, rfl⟩ := Option.map_eq_some_iff.1 hyy
            exact (compL_rel hSl' hl).2 i v y' (by rw [← hvv]; simp) h1
          · rw [if_neg hi] at hvv hyy
            exact hcr' _ _ _ hvv hyy
    · exact hW.elim
  | bad => subst hop; simp [WOp, stepA] at hW
  | xcall f args =>
    subst hop
    obtain ⟨as, ats, ho, hl⟩ := comp_xcall hc
    simp only [WOp] at hW
    obtain ⟨r, hF, hK⟩ := hW
    obtain ⟨⟨ι, H, hFr, hRf, hSl⟩, hn, hdef⟩ := hS
    have hlen : (as.map a.eval).size = (args.map (AO.ev (lk fr))).length := by
      have := (compL_rel hSl hl).1
      simpa using this
    obtain ⟨v, h1, h2⟩ := hF X w ι _ hlen (fun i v y hv hy => by
      rw [List.getElem?_map] at hy
      obtain ⟨y', h1, rfl⟩ := Option.map_eq_some_iff.1 hy
      exact (compL_rel hSl hl).2 i v y' (by rw [← hv]; simp) h1)
    unfold Oper.wp
    rw [run_xcall ho, h1]
    exact hnext _ _ _ _ hK ⟨⟨ι, H, hFr, hRf, hSl.put o.dst h2 (fun d hd => by rw [hn]; exact hdst d hd)⟩, by cases o.dst <;> simp [Act.put, hn], by cases o.dst <;> simp [Act.put, hdef]⟩
  | inv tab xo args =>
    subst hop
    obtain ⟨g, name, as, ats, ho, rfl, hg, hl⟩ := comp_inv hc
    simp only [WOp] at hW
    split at hW
    · rename_i f v hx
      obtain ⟨t, e1, e2⟩ := invOf_some hx
      obtain ⟨⟨ι, H, hFr, hRf, hSl⟩, hn, hdef⟩ := hS
      have hgr := AO.ev_rel hSl hg
      rw [e1] at hgr
      generalize hv : a.eval g = gv at hgr
      cases hgr with
      | ifc hr =>
        rename_i cv
        unfold Oper.wp
        rw [run_invoke ho hv (look_meth e2)]
        have hlen : (#[cv] ++ as.map a.eval).size = (v :: args.map (AO.ev (lk fr))).length := by
          have := (compL_rel hSl hl).1
          simp at this ⊢; omega
        refine callOk_sound ⟨⟨ι, H, hFr, hRf, hSl⟩, hn, hdef⟩ hW hlen (fun ι' hSl' i u y hvv hyy => ?_) hdst hnext
        have hgr' := AO.ev_rel hSl' hg
        rw [e1, hv] at hgr'
        exact inv_args hSl' hl hgr' hvv hyy
    · exact hW.elim
  | _ => exact hother (by rw [hop]; intro f args e; cases e) (by rw [hop]; intro f args e; cases e) (by rw [hop]; intro t f args e; cases e) (by rw [hop]; intro f args e; cases e)
end
end Go.Proofs.Ytjmmompbmjhkpaa.Calc
