/- Several texts in one (CalcH, CalcK, CalcL, CalcM, CalcN), for the proof of LawBoardClashes. No condition beyond those in each lemma. -/
import Derived.Test.YtdbbnlafkndcnaaPLawBoardClashesA
import Derived.Orders
namespace Go.Proofs.Ytdbbnlafkndcnaa.Calc
open Go
set_option linter.unusedSimpArgs false
variable {X:Nat→Prop}
theorem vlook_some {bl:Nat→Option Blk} {x:V} {l:List V} (h:vcells bl x=some l):∀ b ∈ vlook x,(bl b).isSome=true:=by
 intro b hb
 cases x <;> simp [vlook] at hb
 ·subst hb
  simp only [vcells] at h
  split at h
  ·simp_all
  ·cases h
 ·subst hb
  simp only [vcells] at h
  split at h
  ·simp_all
  ·cases h
theorem rows_look {bl:Nat→Option Blk} {x:V} {e:Nat×List (List V)} (h:rowsOf bl x=some e):∀ b ∈ vlook x,(bl b).isSome=true:=by
 intro b hb
 unfold rowsOf at h
 split at h
 ·simp [vlook] at hb
 ·simp [vlook] at hb; subst hb
  split at h
  ·simp_all
  ·cases h
 ·cases h
theorem src_look {bl:Nat→Option Blk} {x:V} {s:Nat} {e:Nat×List (List V)} (h:srcOf bl s x=some e):∀ b ∈ vlook x,(bl b).isSome=true:=by
 unfold srcOf at h
 split at h
 ·intro b hb; simp [vlook] at hb
 ·exact rows_look h
theorem fillP_look {bl:Nat→Option Blk} {ev:AO→V}:∀ (ps:List (Nat×Nat×AO)) (cs r:List V) (k:List Nat),fillP bl ev cs ps=some (r,k)→∀ b ∈ k,(bl b).isSome=true:=by
 intro ps
 induction ps with
 | nil=>intro cs r k h b hb; simp only [fillP,Option.some.injEq,Prod.mk.injEq] at h; obtain ⟨rfl,rfl⟩:=h; simp at hb
 | cons p ps ih =>
  intro cs r k h b hb
  obtain ⟨off,size,x⟩:=p
  simp only [fillP] at h
  split at h
  ·cases h
  ·rename_i l hl
   split at h
   ·obtain ⟨⟨r1,r2⟩,h3,h4⟩:=Option.map_eq_some_iff.1 h
    simp only [Prod.mk.injEq] at h4
    obtain ⟨rfl,rfl⟩:=h4
    rw [List.mem_append] at hb
    rcases hb with hb|hb
    ·exact vlook_some hl b hb
    ·exact ih _ _ _ h3 b hb
   ·cases h
theorem fillR_look {bl:Nat→Option Blk} {ev:AO→V} {e:Nat}:∀ (ps:List (Nat×AO)) (cs r:List (List V)) (k:List Nat),fillR bl ev e cs ps=some (r,k)→∀ b ∈ k,(bl b).isSome=true:=by
 intro ps
 induction ps with
 | nil=>intro cs r k h b hb; simp only [fillR,Option.some.injEq,Prod.mk.injEq] at h; obtain ⟨rfl,rfl⟩:=h; simp at hb
 | cons p ps ih =>
  intro cs r k h b hb
  obtain ⟨i,x⟩:=p
  simp only [fillR] at h
  split at h
  ·cases h
  ·rename_i l hl
   split at h
   ·obtain ⟨⟨r1,r2⟩,h3,h4⟩:=Option.map_eq_some_iff.1 h
    simp only [Prod.mk.injEq] at h4
    obtain ⟨rfl,rfl⟩:=h4
    rw [List.mem_append] at hb
    rcases hb with hb|hb
    ·exact vlook_some hl b hb
    ·exact ih _ _ _ h3 b hb
   ·cases h
theorem R_some {op:AOp} {ev:AO→V} {bl:Nat→Option Blk} {c:Nat} {x:V} {ups:List (Nat×Blk)} {news:List Blk} {R:List Nat} (hst:stepA op ev bl c=some (x,ups,news,R)) :
  ∀ b ∈ R,(bl b).isSome=true:=by
 have nil:R=[]→∀ b ∈ R,(bl b).isSome=true:=by rintro rfl u hu; simp at hu
 have pure:∀ {y:Option V},pureS y=some (x,ups,news,R)→∀ b ∈ R,(bl b).isSome=true:=by
  intro y h
  unfold pureS at h
  obtain ⟨z,h1,h2⟩:=Option.map_eq_some_iff.1 h
  cases h2; exact nil rfl
 cases op <;> simp only [stepA] at hst
 all_goals first|(exact pure hst)|(repeat' split at hst) <;> first|(cases hst; done)|(cases hst; exact nil rfl)|(obtain ⟨_,_,hst⟩:=Option.map_eq_some_iff.1 hst; cases hst; exact nil rfl)|(obtain ⟨_,_,hst⟩:=Option.map_eq_some_iff.1 hst; cases hst; intro b hb; simp at hb; subst hb; simp_all; done)|(cases hst; intro b hb; simp at hb; subst hb; simp_all; done)|(cases hst; exact vlook_some (by assumption))|(cases hst; exact fillP_look _ _ _ _ (by assumption))|(cases hst; exact fillR_look _ _ _ _ (by assumption))|(cases hst; exact src_look (by assumption))|(cases hst; intro b hb; rcases List.mem_cons.1 hb with rfl|hb; (· simp_all); (· exact vlook_some (by assumption) b hb))|(cases hst; intro b hb; rcases List.mem_cons.1 hb with rfl|hb; (· simp_all); (· exact rows_look (by assumption) b hb))|(cases hst; intro b hb; rcases List.mem_cons.1 hb with rfl|hb; (· simp_all); (· exact src_look (by assumption) b hb))
section
variable {P:Program} {w0:World} {ι0:List Place} {n:Nat}
theorem run_enters {f:FuncId} (he:enters P f=true) (args:Array Value) (w:World):(callFunc f args).run P w=.ok (.enter f args) w:=by
 unfold enters at he
 cases hf:P.funcs[f]? with
 | none=>rw [hf] at he; cases he
 | some fn =>
  rw [hf] at he
  dsimp only at he
  rw [Bool.and_eq_true,bne_iff_ne] at he
  have hb:fn.body.isNone=false:=by
   have:=he.2
   cases hb:fn.body <;> simp_all
  have hn:(fn.name == "runtime.NumGoroutine")=false:=by simpa using he.1
  simp only [callFunc,Sem.run_bind,run_program,Result.andThen_ok,hf,hn,hb,Bool.false_eq_true,if_false,Sem.run_pure]
theorem comp_call {o:Op} {f:FuncId} {args:List AO} (hc:comp P o=some (.call f args)):∃ as ats,o=.call ⟨.value (.func f),as,ats⟩∧enters P f=true∧compL as.toList=some args:=by
 cases o with
 | call c =>
  obtain ⟨callee,as,ats⟩:=c
  simp only [comp] at hc
  cases callee with
  | value g =>
   cases g with
   | func g =>
    dsimp only at hc
    split at hc
    ·rename_i he
     obtain ⟨l,h1,h2⟩:=Option.map_eq_some_iff.1 hc
     cases h2
     exact ⟨as,ats,rfl,he,h1⟩
    ·obtain ⟨l,h1,h2⟩:=Option.map_eq_some_iff.1 hc
     cases h2
   | _=>dsimp only at hc; obtain ⟨y,_,hc⟩:=bind_some hc; obtain ⟨l,_,hc⟩:=bind_some hc; cases hc
  | invoke=>dsimp only at hc; obtain ⟨y,_,hc⟩:=bind_some hc; obtain ⟨l,_,hc⟩:=bind_some hc; cases hc
  | builtin b =>
   exfalso
   dsimp only at hc
   (repeat' split at hc) <;> simp [Option.map_eq_some_iff,Option.bind_eq_some_iff] at hc
 | makeFunc fn first caps=>exfalso; cases fn <;> simp only [comp] at hc <;> (try split at hc) <;> simp [Option.map_eq_some_iff] at hc
 | slice t x lo hi mx=>exfalso; cases mx <;> simp only [comp] at hc <;> (try split at hc) <;> simp [Option.bind_eq_some_iff] at hc
 | _ =>
  exfalso
  simp only [comp] at hc
  first|(cases hc; done)|((repeat' split at hc) <;> simp [Option.map_eq_some_iff,Option.bind_eq_some_iff] at hc; done)|(obtain ⟨_,_,hc⟩:=bind_some hc; (repeat' split at hc) <;> simp [Option.map_eq_some_iff,Option.bind_eq_some_iff] at hc; done)|(obtain ⟨_,_,hc⟩:=bind_some hc; obtain ⟨_,_,hc⟩:=bind_some hc; unfold compEq at hc; (repeat' split at hc) <;> simp [Option.map_eq_some_iff,Option.bind_eq_some_iff] at hc; done)|(obtain ⟨_,_,hc⟩:=bind_some hc; obtain ⟨_,_,hc⟩:=bind_some hc; (repeat' split at hc) <;> simp [Option.map_eq_some_iff,Option.bind_eq_some_iff] at hc; done)
theorem comp_callc {o:Op} {x:AO} {args:List AO} (hc:comp P o=some (.callc x args)):∃ g as ats,o=.call ⟨.value g,as,ats⟩∧compO g=some x∧compL as.toList=some args:=by
 cases o with
 | call c =>
  obtain ⟨callee,as,ats⟩:=c
  simp only [comp] at hc
  cases callee with
  | value g =>
   cases g with
   | func g =>
    dsimp only at hc
    split at hc
    ·obtain ⟨l,h1,h2⟩:=Option.map_eq_some_iff.1 hc; cases h2
    ·obtain ⟨l,h1,h2⟩:=Option.map_eq_some_iff.1 hc; cases h2
   | _=>dsimp only at hc; obtain ⟨y,h1,hc⟩:=bind_some hc; obtain ⟨l,h2,hc⟩:=bind_some hc; cases hc; exact ⟨_,as,ats,rfl,h1,h2⟩
  | invoke=>dsimp only at hc; obtain ⟨y,_,hc⟩:=bind_some hc; obtain ⟨l,_,hc⟩:=bind_some hc; cases hc
  | builtin b =>
   exfalso
   dsimp only at hc
   (repeat' split at hc) <;> simp [Option.map_eq_some_iff,Option.bind_eq_some_iff] at hc
 | makeFunc fn first caps=>exfalso; cases fn <;> simp only [comp] at hc <;> (try split at hc) <;> simp [Option.map_eq_some_iff] at hc
 | slice t x lo hi mx=>exfalso; cases mx <;> simp only [comp] at hc <;> (try split at hc) <;> simp [Option.bind_eq_some_iff] at hc
 | _ =>
  exfalso
  simp only [comp] at hc
  first|(cases hc; done)|((repeat' split at hc) <;> simp [Option.map_eq_some_iff,Option.bind_eq_some_iff] at hc; done)|(obtain ⟨_,_,hc⟩:=bind_some hc; (repeat' split at hc) <;> simp [Option.map_eq_some_iff,Option.bind_eq_some_iff] at hc; done)|(obtain ⟨_,_,hc⟩:=bind_some hc; obtain ⟨_,_,hc⟩:=bind_some hc; unfold compEq at hc; (repeat' split at hc) <;> simp [Option.map_eq_some_iff,Option.bind_eq_some_iff] at hc; done)|(obtain ⟨_,_,hc⟩:=bind_some hc; obtain ⟨_,_,hc⟩:=bind_some hc; (repeat' split at hc) <;> simp [Option.map_eq_some_iff,Option.bind_eq_some_iff] at hc; done)
theorem comp_inv {o:Op} {tab:List (TypeId×FuncId)} {x:AO} {args:List AO} (hc:comp P o=some (.inv tab x args)):∃ g name as ats,o=.call ⟨.invoke g name,as,ats⟩∧tab=methTab P name∧compO g=some x∧compL as.toList=some args:=by
 cases o with
 | call c =>
  obtain ⟨callee,as,ats⟩:=c
  simp only [comp] at hc
  cases callee with
  | value g =>
   exfalso
   cases g with
   | func g =>
    dsimp only at hc
    split at hc
    ·obtain ⟨l,h1,h2⟩:=Option.map_eq_some_iff.1 hc; cases h2
    ·obtain ⟨l,h1,h2⟩:=Option.map_eq_some_iff.1 hc; cases h2
   | _=>dsimp only at hc; obtain ⟨y,h1,hc⟩:=bind_some hc; obtain ⟨l,h2,hc⟩:=bind_some hc; cases hc
  | invoke g name =>
   dsimp only at hc
   obtain ⟨y,h1,hc⟩:=bind_some hc; obtain ⟨l,h2,hc⟩:=bind_some hc; cases hc; exact ⟨_,_,as,ats,rfl,rfl,h1,h2⟩
  | builtin b =>
   exfalso
   dsimp only at hc
   (repeat' split at hc) <;> simp [Option.map_eq_some_iff,Option.bind_eq_some_iff] at hc
 | makeFunc fn first caps=>exfalso; cases fn <;> simp only [comp] at hc <;> (try split at hc) <;> simp [Option.map_eq_some_iff] at hc
 | slice t x lo hi mx=>exfalso; cases mx <;> simp only [comp] at hc <;> (try split at hc) <;> simp [Option.bind_eq_some_iff] at hc
 | _ =>
  exfalso
  simp only [comp] at hc
  first|(cases hc; done)|((repeat' split at hc) <;> simp [Option.map_eq_some_iff,Option.bind_eq_some_iff] at hc; done)|(obtain ⟨_,_,hc⟩:=bind_some hc; (repeat' split at hc) <;> simp [Option.map_eq_some_iff,Option.bind_eq_some_iff] at hc; done)|(obtain ⟨_,_,hc⟩:=bind_some hc; obtain ⟨_,_,hc⟩:=bind_some hc; unfold compEq at hc; (repeat' split at hc) <;> simp [Option.map_eq_some_iff,Option.bind_eq_some_iff] at hc; done)|(obtain ⟨_,_,hc⟩:=bind_some hc; obtain ⟨_,_,hc⟩:=bind_some hc; (repeat' split at hc) <;> simp [Option.map_eq_some_iff,Option.bind_eq_some_iff] at hc; done)
theorem comp_xcall {o:Op} {f:FuncId} {args:List AO} (hc:comp P o=some (.xcall f args)):∃ as ats,o=.call ⟨.value (.func f),as,ats⟩∧compL as.toList=some args:=by
 cases o with
 | call c =>
  obtain ⟨callee,as,ats⟩:=c
  simp only [comp] at hc
  cases callee with
  | value g =>
   cases g with
   | func g =>
    dsimp only at hc
    split at hc
    ·obtain ⟨l,h1,h2⟩:=Option.map_eq_some_iff.1 hc; cases h2
    ·obtain ⟨l,h1,h2⟩:=Option.map_eq_some_iff.1 hc; cases h2; exact ⟨as,ats,rfl,h1⟩
   | _=>exfalso; dsimp only at hc; obtain ⟨y,h1,hc⟩:=bind_some hc; obtain ⟨l,h2,hc⟩:=bind_some hc; cases hc
  | invoke g name =>
   dsimp only at hc
   obtain ⟨y,h1,hc⟩:=bind_some hc; obtain ⟨l,h2,hc⟩:=bind_some hc; cases hc
  | builtin b =>
   exfalso
   dsimp only at hc
   (repeat' split at hc) <;> simp [Option.map_eq_some_iff,Option.bind_eq_some_iff] at hc
 | makeFunc fn first caps=>exfalso; cases fn <;> simp only [comp] at hc <;> (try split at hc) <;> simp [Option.map_eq_some_iff] at hc
 | slice t x lo hi mx=>exfalso; cases mx <;> simp only [comp] at hc <;> (try split at hc) <;> simp [Option.bind_eq_some_iff] at hc
 | _ =>
  exfalso
  simp only [comp] at hc
  first|(cases hc; done)|((repeat' split at hc) <;> simp [Option.map_eq_some_iff,Option.bind_eq_some_iff] at hc; done)|(obtain ⟨_,_,hc⟩:=bind_some hc; (repeat' split at hc) <;> simp [Option.map_eq_some_iff,Option.bind_eq_some_iff] at hc; done)|(obtain ⟨_,_,hc⟩:=bind_some hc; obtain ⟨_,_,hc⟩:=bind_some hc; unfold compEq at hc; (repeat' split at hc) <;> simp [Option.map_eq_some_iff,Option.bind_eq_some_iff] at hc; done)|(obtain ⟨_,_,hc⟩:=bind_some hc; obtain ⟨_,_,hc⟩:=bind_some hc; (repeat' split at hc) <;> simp [Option.map_eq_some_iff,Option.bind_eq_some_iff] at hc; done)
theorem lookT_filter {g:Nat→Option FuncId}:∀ {l:List Nat} {t:TypeId} {f:FuncId},lookT (l.filterMap fun t=>(g t).map (t,·)) t=some f→g t=some f:=by
 intro l
 induction l with
 | nil=>intro t f h; simp [lookT] at h
 | cons a l ih =>
  intro t f h
  simp only [List.filterMap_cons] at h
  cases hg:g a with
  | none=>rw [hg] at h; exact ih h
  | some f' =>
   rw [hg] at h
   simp only [Option.map_some,lookT] at h
   split at h
   ·rename_i e; subst e; rw [hg]; exact h
   ·exact ih h
theorem look_meth {name:String} {t:TypeId} {f:FuncId} (h:lookT (methTab P name) t=some f):methOf P t name=some f:=lookT_filter (g:=fun t=>methOf P t name) h
theorem invOf_some {tab:List (TypeId×FuncId)} {y v:V} {f:FuncId} (h:invOf tab y=some (f,v)):∃ t,y=.ifc t v∧lookT tab t=some f:=by
 unfold invOf at h
 split at h
 ·rename_i t v'
  obtain ⟨f',h1,h2⟩:=Option.map_eq_some_iff.1 h
  cases h2
  exact ⟨t,rfl,h1⟩
 ·cases h
theorem run_method {t:TypeId} {name:String} {f:FuncId} (h:methOf P t name=some f) (n:Nat) (v:Value) (w:World):(method (n+1) t v name).run P w=.ok (f,v) w∧enters P f=true:=by
 unfold methOf at h
 split at h
 ·rename_i i hi
  split at h
  ·rename_i m hm
   split at h
   ·rename_i g e hp hf hu
    split at h
    ·rename_i he
     cases h
     refine ⟨?_,he⟩
     simp only [method,Sem.run_bind,typeInfo,run_program,hi,Result.andThen_ok,Sem.run_pure,hm,hp,follow,hf,receiverAt,run_underlying hu,Place.get]
    ·cases h
   ·cases h
  ·cases h
 ·cases h
theorem run_invoke {o:Oper} {g:Operand} {name:String} {as:Array Operand} {ats:Array TypeId} {a:Act} {t:TypeId} {cv:Value} {f:FuncId} {w:World} (ho:o.op=.call ⟨.invoke g name,as,ats⟩) (hv:a.eval g=.iface t cv) (hm:methOf P t name=some f) :
  (execOp a.eval o).run P w=.ok (.enter f (#[cv] ++ as.map a.eval)) w:=by
 obtain ⟨h1,h2⟩:=run_method hm (P.types.size+Made.depth - 1) cv w
 have hd:0 < Made.depth:=by decide
 have e0:P.types.size+Made.depth - 1+1=P.types.size+Made.depth:=Nat.sub_add_cancel (Nat.le_trans hd (Nat.le_add_left _ _))
 rw [e0] at h1
 unfold execOp
 rw [ho]
 simp only [resolve,Sem.run_bind,Sem.run_pure,Result.andThen_ok,invoke,hv]
 have e1:(#[Value.iface t cv] ++ as.map a.eval)[0]?=some (.iface t cv):=by rw [Array.getElem?_append_left (by simp)]; rfl
 have e2:(#[Value.iface t cv] ++ as.map a.eval).extract 1 (#[Value.iface t cv] ++ as.map a.eval).size=as.map a.eval:=by
  apply Array.ext'
  rw [Array.toList_extract]
  simp only [List.extract,Array.toList_append,Array.size_append,Array.size_map,Array.toList_map]
  simp
  exact List.take_of_length_le (by simp)
 simp only [e1,e2,callMethod,Sem.run_bind,run_program,Result.andThen_ok,h1,run_enters h2]
theorem run_xcall {o:Oper} {f:FuncId} {as:Array Operand} {ats:Array TypeId} {a:Act} {w:World} (ho:o.op=.call ⟨.value (.func f),as,ats⟩):(execOp a.eval o).run P w=(callFunc f (as.map a.eval)).run P w:=by
 unfold execOp
 rw [ho]
 simp [resolve,Act.eval,Deferred.ofValue,invoke]
theorem inv_args {w:World} {ι:List Place} {fr:Fr} {a:Act} {as:Array Operand} {args:List AO} {t:TypeId} {cv:Value} {v:V} (hSl:SlRel X w ι (lk fr) a) (hl:compL as.toList=some args) (hr:Rel w (OX X ι) ι (.iface t cv) (.ifc t v)) {i:Nat} {u:Value} {y:V}
  (hu:(#[cv] ++ as.map a.eval)[i]?=some u) (hy:(v :: args.map (AO.ev (lk fr)))[i]?=some y):Rel w (OX X ι) ι u y:=by
 cases hr with
 | ifc hr =>
  cases i with
  | zero =>
   rw [Array.getElem?_append_left (by simp)] at hu
   simp at hu hy; subst hu; subst hy; exact hr
  | succ i =>
   rw [Array.getElem?_append_right (by simp)] at hu
   simp only [List.getElem?_cons_succ,List.getElem?_map] at hy
   obtain ⟨y',h1,rfl⟩:=Option.map_eq_some_iff.1 hy
   exact (compL_rel hSl hl).2 i u y' (by rw [← hu]; simp) h1
theorem callOk_sound {f:FuncId} {args:List V} {fr:Fr} {h:List Blk} {a:Act} {w:World} {K:V→List Blk→Prop} {vs:Array Value} {dst:Option Nat} {next:Act→World→Prop} {Q:Exit→Act→World→Prop}
  (hS:St X w0 ι0 n fr h a w) (hW:CallOk P f args h K) (hsz:vs.size=args.length)
  (hargs:∀ ι,SlRel X w ι (lk fr) a→∀ (i:Nat) (v:Value) (y:V),vs[i]?=some v→args[i]?=some y→Rel w (OX X ι) ι v y) (hdst:∀ d,dst=some d→d < n)
  (hnext:∀ x h' a' w',K x h'→St X w0 ι0 n (put fr dst x) h' a' w'→next a' w') :
  Calls P f vs w fun
   | .returned v,w''=>next (a.put dst v) w''
   | .panicked chain,w''=>Q (.panic chain) a w''
   | .outgrown,_=>LetsOut Q:=by
 obtain ⟨perm,m,r,hout,hnd,hlt,hlen,hver,_,hF,hK⟩:=hW
 obtain ⟨⟨ι,H,hFr,hRf,hSl⟩,hn,hdef⟩:=hS
 obtain ⟨ι1,H1,hR1,hO1⟩:=H.dums m
 have hF1:Frm w (Own ι) w (Own ι1):=⟨Nat.le_refl _,fun _ _ _=>rfl,fun r hr=>.inl (hO1 r hr),rfl,rfl,rfl⟩
 have hSl1:=hSl.mono hF1 hR1
 have hpas:pasH (h ++ List.replicate m dum) perm=pasH h perm:=by
  unfold pasH
  apply List.map_congr_left
  intro b hb
  rw [List.getD_eq_getElem?_getD,List.getD_eq_getElem?_getD,List.getElem?_append_left (hlt b hb)]
 have key:=call_ok (newk:=upto h.length m) H1 (hpas ▸ hF) hsz (hargs ι1 hSl1) (List.nodup_append.2 ⟨hnd,upto_nodup _ _,fun x hx y hy e=>by
   have:=(upto_mem hy).1; have:=hlt x hx; omega⟩)
  (fun b hb=>by
   rw [List.mem_append] at hb
   rw [List.length_append,List.length_replicate]
   rcases hb with hb|hb
   ·have:=hlt b hb; omega
   ·exact (upto_mem hb).2)
  (by rw [hlen,List.length_append,upto_len])
  (fun j b k hj hb hk=>by
   refine ⟨hver k ?_,dum,?_,rfl⟩
   ·refine List.mem_of_getElem? (i:=j - perm.length) ?_
    rw [List.getElem?_drop]
    rw [← hk]; congr 1; omega
   ·rw [List.getElem?_append_right hj,upto_get] at hb
    split at hb
    ·cases hb
     rw [List.getElem?_append_right (by omega),List.getElem?_replicate,if_pos (by omega)]
    ·cases hb)
 refine key.mono ?_
 rintro e w' ⟨v,ι',rfl,H',hr',hF',hR'⟩
 refine hnext _ _ _ _ hK ⟨⟨ι',H',(hFr.trans hF1).trans hF',(hRf.trans hR1).trans hR',(hSl1.mono hF' hR').put dst hr' (fun d hd=>by rw [hn]; exact hdst d hd)⟩,?_,?_⟩
 ·cases dst <;> simp [Act.put,hn]
 ·cases dst <;> simp [Act.put,hdef]
theorem wop_sound {o:Oper} {op:AOp} {fr:Fr} {h:List Blk} {a:Act} {w:World} {K:V→List Blk→Prop} {next:Act→World→Prop} {Q:Exit→Act→World→Prop}
  (hc:comp P o.op=some op) (hS:St X w0 ι0 n fr h a w) (hdst:∀ d,o.dst=some d→d < n) (hW:WOp P op fr h K)
  (hnext:∀ x h' a' w',K x h'→St X w0 ι0 n (put fr o.dst x) h' a' w'→next a' w'):o.wp P a w next Q:=by
 have plain:∀ {x ups news R},stepA op (AO.ev (lk fr)) (fun b=>h[b]?) h.length=some (x,ups,news,R)→K x (appU h ups ++ news)→o.wp P a w next Q:=by
  intro x ups news R hst hK
  obtain ⟨⟨ι,H,hFr,hRf,hSl⟩,hn,hdef⟩:=hS
  obtain ⟨ι1,H1,hR1,hO1⟩:=H.dums news.length
  have hF1:Frm w (Own ι) w (Own ι1):=⟨Nat.le_refl _,fun _ _ _=>rfl,fun r hr=>.inl (hO1 r hr),rfl,rfl,rfl⟩
  have hSl1:=hSl.mono hF1 hR1
  obtain ⟨nx,cv,w',ι',hrun,hnx,H',hx,hF',hR'⟩:=step_sound hc H1 hSl1 hst (fun b hb=>by
    have:=R_some hst b hb
    obtain ⟨k,hk⟩:=Option.isSome_iff_exists.1 this
    have hl:=(List.getElem?_eq_some_iff.1 hk).1
    exact (List.getElem?_append_left hl).symm)
   (fun i hi=>⟨dum,by rw [List.getElem?_append_right (by omega),List.getElem?_replicate,if_pos (by omega)],rfl⟩)
  have hin:∀ u ∈ ups,u.1 < h.length:=fun u hu=>by
   obtain ⟨k,hk⟩:=Option.isSome_iff_exists.1 (ups_in hst u hu).2
   exact (List.getElem?_eq_some_iff.1 hk).1
  rw [appU_append _ _ _ hin] at H'
  have e:=appN_dums news (appU h ups)
  rw [appU_length] at e
  rw [e] at H'
  have fin:next (a.put o.dst cv) w':=hnext _ _ _ _ hK ⟨⟨ι',H',(hFr.trans hF1).trans hF',(hRf.trans hR1).trans hR',(hSl1.mono hF' hR').put o.dst hx (fun d hd=>by rw [hn]; exact hdst d hd)⟩,by cases o.dst <;> simp [Act.put,hn],by cases o.dst <;> simp [Act.put,hdef]⟩
  unfold Oper.wp
  rw [hrun]
  rcases hnx with rfl|⟨rfl,rfl⟩
  ·exact fin
  ·exact fin
 have hother:∀ (hne1:∀ f args,op≠.call f args) (hne2:∀ x args,op≠.callc x args) (hne3:∀ t x args,op≠.inv t x args) (hne4:∀ f args,op≠.xcall f args),o.wp P a w next Q:=by
  intro hne1 hne2 hne3 hne4
  unfold WOp at hW
  split at hW
  ·exact absurd rfl (hne1 _ _)
  ·exact absurd rfl (hne2 _ _)
  ·exact absurd rfl (hne3 _ _ _)
  ·exact absurd rfl (hne4 _ _)
  ·split at hW
   ·rename_i x ups news R hst
    exact plain hst hW
   ·exact hW.elim
 cases hop:op with
 | call f args =>
  subst hop
  obtain ⟨as,ats,ho,he,hl⟩:=comp_call hc
  have hrun:(execOp a.eval o).run P w=.ok (.enter f (as.map a.eval)) w:=by
   unfold execOp
   rw [ho]
   simp [resolve,Act.eval,Deferred.ofValue,invoke,run_enters he]
  unfold Oper.wp
  rw [hrun]
  simp only [WOp] at hW
  have hlen:(as.map a.eval).size=(args.map (AO.ev (lk fr))).length:=by
   obtain ⟨⟨ι,H,hFr,hRf,hSl⟩,_⟩:=hS
   have:=(compL_rel hSl hl).1
   simpa using this
  exact callOk_sound hS hW hlen (fun ι hSl i v y hv hy=>by
   rw [List.getElem?_map] at hy
   obtain ⟨y',h1,rfl⟩:=Option.map_eq_some_iff.1 hy
   exact (compL_rel hSl hl).2 i v y' (by rw [← hv]; simp) h1) hdst hnext
 | callc xo args =>
  subst hop
  obtain ⟨g,as,ats,ho,hg,hl⟩:=comp_callc hc
  simp only [WOp] at hW
  split at hW
  ·rename_i f caps hx
   have he:enters P f=true:=by obtain ⟨_,_,_,_,_,_,_,_,he,_⟩:=hW; exact he
   obtain ⟨⟨ι,H,hFr,hRf,hSl⟩,hn,hdef⟩:=hS
   have hgr:=AO.ev_rel hSl hg
   rw [hx] at hgr
   generalize hv:a.eval g=gv at hgr
   have hgr0:=hgr
   cases hgr with
   | fn hcl hcr =>
    rename_i cvs
    have hrun:(execOp a.eval o).run P w=.ok (.enter f (as.map a.eval ++ cvs)) w:=by
     unfold execOp
     rw [ho]
     simp [resolve,hv,Deferred.ofValue,invoke,run_enters he]
    unfold Oper.wp
    rw [hrun]
    have hlen:(as.map a.eval ++ cvs).size=(args.map (AO.ev (lk fr)) ++ caps).length:=by
     have:=(compL_rel hSl hl).1
     rw [List.length_append,Array.size_append,hcl,Array.size_map,List.length_map]
     simpa using this
    refine callOk_sound ⟨⟨ι,H,hFr,hRf,hSl⟩,hn,hdef⟩ hW hlen (fun ι' hSl' i v y hvv hyy=>?_) hdst hnext
    have hgr':=AO.ev_rel hSl' hg
    rw [hx,hv] at hgr'
    cases hgr' with
    | fn hcl' hcr' =>
     have hal:=(compL_rel hSl' hl).1
     rw [Array.getElem?_append] at hvv
     rw [List.getElem?_append] at hyy
     have e1:(as.map a.eval).size=args.length:=by simpa using hal
     have e2:(args.map (AO.ev (lk fr))).length=args.length:=by simp
     rw [e1] at hvv; rw [e2] at hyy
     by_cases hi:i < args.length
     ·rw [if_pos hi] at hvv hyy
      rw [List.getElem?_map] at hyy
      obtain ⟨y',h1,rfl⟩:=Option.map_eq_some_iff.1 hyy
      exact (compL_rel hSl' hl).2 i v y' (by rw [← hvv]; simp) h1
     ·rw [if_neg hi] at hvv hyy
      exact hcr' _ _ _ hvv hyy
  ·exact hW.elim
 | bad=>subst hop; simp [WOp,stepA] at hW
 | xcall f args =>
  subst hop
  obtain ⟨as,ats,ho,hl⟩:=comp_xcall hc
  simp only [WOp] at hW
  obtain ⟨r,hF,hK⟩:=hW
  obtain ⟨⟨ι,H,hFr,hRf,hSl⟩,hn,hdef⟩:=hS
  have hlen:(as.map a.eval).size=(args.map (AO.ev (lk fr))).length:=by
   have:=(compL_rel hSl hl).1
   simpa using this
  obtain ⟨v,h1,h2⟩:=hF X w ι _ hlen (fun i v y hv hy=>by
   rw [List.getElem?_map] at hy
   obtain ⟨y',h1,rfl⟩:=Option.map_eq_some_iff.1 hy
   exact (compL_rel hSl hl).2 i v y' (by rw [← hv]; simp) h1)
  unfold Oper.wp
  rw [run_xcall ho,h1]
  exact hnext _ _ _ _ hK ⟨⟨ι,H,hFr,hRf,hSl.put o.dst h2 (fun d hd=>by rw [hn]; exact hdst d hd)⟩,by cases o.dst <;> simp [Act.put,hn],by cases o.dst <;> simp [Act.put,hdef]⟩
 | inv tab xo args =>
  subst hop
  obtain ⟨g,name,as,ats,ho,rfl,hg,hl⟩:=comp_inv hc
  simp only [WOp] at hW
  split at hW
  ·rename_i f v hx
   obtain ⟨t,e1,e2⟩:=invOf_some hx
   obtain ⟨⟨ι,H,hFr,hRf,hSl⟩,hn,hdef⟩:=hS
   have hgr:=AO.ev_rel hSl hg
   rw [e1] at hgr
   generalize hv:a.eval g=gv at hgr
   cases hgr with
   | ifc hr =>
    rename_i cv
    unfold Oper.wp
    rw [run_invoke ho hv (look_meth e2)]
    have hlen:(#[cv] ++ as.map a.eval).size=(v :: args.map (AO.ev (lk fr))).length:=by
     have:=(compL_rel hSl hl).1
     simp at this ⊢; omega
    refine callOk_sound ⟨⟨ι,H,hFr,hRf,hSl⟩,hn,hdef⟩ hW hlen (fun ι' hSl' i u y hvv hyy=>?_) hdst hnext
    have hgr':=AO.ev_rel hSl' hg
    rw [e1,hv] at hgr'
    exact inv_args hSl' hl hgr' hvv hyy
  ·exact hW.elim
 | _=>exact hother (by rw [hop]; intro f args e; cases e) (by rw [hop]; intro f args e; cases e) (by rw [hop]; intro t f args e; cases e) (by rw [hop]; intro f args e; cases e)
end
end Go.Proofs.Ytdbbnlafkndcnaa.Calc
namespace Go.Proofs.Ytdbbnlafkndcnaa.Calc
open Go
variable {X:Nat→Prop}
def aoS:AO→List Nat
 | .t i=>[i]
 | _=>[]
def optS:Option AO→List Nat
 | some x=>aoS x
 | none=>[]
def slotsOf:AOp→List Nat
 | .clr _ x|.i2s x|.s2b x|.mv x|.nilc x|.eqn _ x|.eqp _ x|.not x|.neg x|.xorn x|.cvt _ x|.new _ x|.ld _ x|.fad _ x|.fld _ _ x|.ext x _|.len x|.lens x|.capx x|.mki _ x=>aoS x
 | .pick a b c=>aoS a ++ aoS b ++ aoS c
 | .eqs _ _ x y|.bin _ x y|.eqb _ x y|.st _ x y|.appz _ _ x y|.mksl _ _ x y|.idx _ _ x y|.ixa _ _ _ x y|.ixs x y|.copy _ x y|.app _ _ x y=>aoS x ++ aoS y
 | .zero _|.lenc _|.bad=>[]
 | .build _ ps=>ps.flatMap fun p=>aoS p.2.2
 | .bsl _ _ ps=>ps.flatMap fun p=>aoS p.2
 | .slc _ x l h|.slcs x l h=>aoS x ++ optS l ++ optS h
 | .mnx _ xs=>xs.flatMap aoS
 | .mkf _ xs|.call _ xs|.xcall _ xs=>xs.flatMap aoS
 | .callc x xs|.inv _ x xs=>aoS x ++ xs.flatMap aoS
theorem ev_congr {sl sl':Nat→V} {x:AO} (h:∀ i ∈ aoS x,sl i=sl' i):x.ev sl=x.ev sl':=by
 cases x with
 | t i=>exact h i (by simp [aoS])
 | k v=>rfl
 | f g=>rfl
theorem fillP_congr {bl:Nat→Option Blk} {sl sl':Nat→V}:∀ (ps:List (Nat×Nat×AO)) (cs:List V),(∀ i ∈ ps.flatMap (fun p=>aoS p.2.2),sl i=sl' i)→fillP bl (AO.ev sl) cs ps=fillP bl (AO.ev sl') cs ps:=by
 intro ps
 induction ps with
 | nil=>intro cs _; rfl
 | cons p ps ih =>
  intro cs h
  obtain ⟨o,s,x⟩:=p
  have hx:x.ev sl=x.ev sl':=ev_congr fun i hi=>h i (by simp [hi])
  have hr:=fun cs=>ih cs fun i hi=>h i (by simp only [List.flatMap_cons,List.mem_append]; exact .inr hi)
  simp only [fillP,hx,hr]
theorem fillR_congr {bl:Nat→Option Blk} {sl sl':Nat→V} {e:Nat}:∀ (ps:List (Nat×AO)) (cs:List (List V)),(∀ i ∈ ps.flatMap (fun p=>aoS p.2),sl i=sl' i)→fillR bl (AO.ev sl) e cs ps=fillR bl (AO.ev sl') e cs ps:=by
 intro ps
 induction ps with
 | nil=>intro cs _; rfl
 | cons p ps ih =>
  intro cs h
  obtain ⟨s,x⟩:=p
  have hx:x.ev sl=x.ev sl':=ev_congr fun i hi=>h i (by simp [hi])
  have hr:=fun cs=>ih cs fun i hi=>h i (by simp only [List.flatMap_cons,List.mem_append]; exact .inr hi)
  simp only [fillR,hx,hr]
theorem mnx_congr {sl sl':Nat→V} {m:Bool}:∀ (xs:List AO) (acc:Option V),(∀ i ∈ xs.flatMap aoS,sl i=sl' i)→xs.foldl (mnxF m (AO.ev sl)) acc=xs.foldl (mnxF m (AO.ev sl')) acc:=by
 intro xs
 induction xs with
 | nil=>intro acc _; rfl
 | cons x xs ih =>
  intro acc h
  have hx:x.ev sl=x.ev sl':=ev_congr fun i hi=>h i (by simp [hi])
  simp only [List.foldl_cons]
  have:mnxF m (AO.ev sl) acc x=mnxF m (AO.ev sl') acc x:=by simp only [mnxF,hx]
  rw [this]
  exact ih _ fun i hi=>h i (by simp only [List.flatMap_cons,List.mem_append]; exact .inr hi)
theorem map_congr {sl sl':Nat→V} (xs:List AO) (h:∀ i ∈ xs.flatMap aoS,sl i=sl' i):xs.map (AO.ev sl)=xs.map (AO.ev sl'):=by
 apply List.map_congr_left
 intro x hx
 exact ev_congr fun i hi=>h i (List.mem_flatMap.2 ⟨x,hx,hi⟩)
theorem opt_congr {sl sl':Nat→V} (x:Option AO) (h:∀ i ∈ optS x,sl i=sl' i):(x.map fun l=>ofInt (AO.ev sl l))=x.map fun l=>ofInt (AO.ev sl' l):=by
 cases x with
 | none=>rfl
 | some x=>simp only [Option.map_some]; rw [ev_congr h]
theorem stepA_congr {sl sl':Nat→V} {bl:Nat→Option Blk} {c:Nat} {op:AOp} (h:∀ i ∈ slotsOf op,sl i=sl' i):stepA op (AO.ev sl) bl c=stepA op (AO.ev sl') bl c:=by
  cases op with
  | pick a b d =>
    have h1:a.ev sl=a.ev sl':=ev_congr fun i hi=>h i (by simp [slotsOf,hi])
    have h2:b.ev sl=b.ev sl':=ev_congr fun i hi=>h i (by simp [slotsOf,hi])
    have h3:d.ev sl=d.ev sl':=ev_congr fun i hi=>h i (by simp [slotsOf,hi])
    simp only [stepA,h1,h2,h3]
  | build z ps=>simp only [stepA,fillP_congr ps _ h]
  | bsl z n ps=>simp only [stepA,fillR_congr ps _ h]
  | slc e x l hh =>
    have h1:x.ev sl=x.ev sl':=ev_congr fun i hi=>h i (by simp [slotsOf,hi])
    have h2:=opt_congr (sl:=sl) (sl':=sl') l fun i hi=>h i (by simp [slotsOf,hi])
    have h3:=opt_congr (sl:=sl) (sl':=sl') hh fun i hi=>h i (by simp [slotsOf,hi])
    simp only [stepA,h1,h2,h3]
  | slcs x l hh =>
    have h1:x.ev sl=x.ev sl':=ev_congr fun i hi=>h i (by simp [slotsOf,hi])
    have h2:=opt_congr (sl:=sl) (sl':=sl') l fun i hi=>h i (by simp [slotsOf,hi])
    have h3:=opt_congr (sl:=sl) (sl':=sl') hh fun i hi=>h i (by simp [slotsOf,hi])
    simp only [stepA,h1,h2,h3]
  | mnx m xs =>
    cases xs with
    | nil=>rfl
    | cons x xs =>
      have h1:x.ev sl=x.ev sl':=ev_congr fun i hi=>h i (by simp [slotsOf,hi])
      have h2:=fun acc=>mnx_congr (m:=m) xs acc fun i hi=>h i (by simp only [slotsOf,List.flatMap_cons,List.mem_append]; exact .inr hi)
      simp only [stepA,h1,h2]
  | mkf f xs=>simp only [stepA,map_congr xs h]
  | zero=>rfl
  | lenc=>rfl
  | call=>rfl
  | callc=>rfl
  | inv=>rfl
  | xcall=>rfl
  | bad=>rfl
  | clr z x =>
    have h1:x.ev sl=x.ev sl':=ev_congr fun i hi=>h i (by simp [slotsOf,hi])
    simp only [stepA,h1]
  | eqs ks n x y =>
    have h1:x.ev sl=x.ev sl':=ev_congr fun i hi=>h i (by simp [slotsOf,hi])
    have h2:y.ev sl=y.ev sl':=ev_congr fun i hi=>h i (by simp [slotsOf,hi])
    simp only [stepA,h1,h2]
  | bin op x y =>
    have h1:x.ev sl=x.ev sl':=ev_congr fun i hi=>h i (by simp [slotsOf,hi])
    have h2:y.ev sl=y.ev sl':=ev_congr fun i hi=>h i (by simp [slotsOf,hi])
    simp only [stepA,h1,h2]
  | eqp n x =>
    have h1:x.ev sl=x.ev sl':=ev_congr fun i hi=>h i (by simp [slotsOf,hi])
    simp only [stepA,h1]
  | appz z b x y =>
    have h1:x.ev sl=x.ev sl':=ev_congr fun i hi=>h i (by simp [slotsOf,hi])
    have h2:y.ev sl=y.ev sl':=ev_congr fun i hi=>h i (by simp [slotsOf,hi])
    simp only [stepA,h1,h2]
  | eqb n x y =>
    have h1:x.ev sl=x.ev sl':=ev_congr fun i hi=>h i (by simp [slotsOf,hi])
    have h2:y.ev sl=y.ev sl':=ev_congr fun i hi=>h i (by simp [slotsOf,hi])
    simp only [stepA,h1,h2]
  | st n x y =>
    have h1:x.ev sl=x.ev sl':=ev_congr fun i hi=>h i (by simp [slotsOf,hi])
    have h2:y.ev sl=y.ev sl':=ev_congr fun i hi=>h i (by simp [slotsOf,hi])
    simp only [stepA,h1,h2]
  | mksl z b x y =>
    have h1:x.ev sl=x.ev sl':=ev_congr fun i hi=>h i (by simp [slotsOf,hi])
    have h2:y.ev sl=y.ev sl':=ev_congr fun i hi=>h i (by simp [slotsOf,hi])
    simp only [stepA,h1,h2]
  | idx e a x y =>
    have h1:x.ev sl=x.ev sl':=ev_congr fun i hi=>h i (by simp [slotsOf,hi])
    have h2:y.ev sl=y.ev sl':=ev_congr fun i hi=>h i (by simp [slotsOf,hi])
    simp only [stepA,h1,h2]
  | ixa l e n x y =>
    have h1:x.ev sl=x.ev sl':=ev_congr fun i hi=>h i (by simp [slotsOf,hi])
    have h2:y.ev sl=y.ev sl':=ev_congr fun i hi=>h i (by simp [slotsOf,hi])
    simp only [stepA,h1,h2]
  | ixs x y =>
    have h1:x.ev sl=x.ev sl':=ev_congr fun i hi=>h i (by simp [slotsOf,hi])
    have h2:y.ev sl=y.ev sl':=ev_congr fun i hi=>h i (by simp [slotsOf,hi])
    simp only [stepA,h1,h2]
  | copy e x y =>
    have h1:x.ev sl=x.ev sl':=ev_congr fun i hi=>h i (by simp [slotsOf,hi])
    have h2:y.ev sl=y.ev sl':=ev_congr fun i hi=>h i (by simp [slotsOf,hi])
    simp only [stepA,h1,h2]
  | app e b x y =>
    have h1:x.ev sl=x.ev sl':=ev_congr fun i hi=>h i (by simp [slotsOf,hi])
    have h2:y.ev sl=y.ev sl':=ev_congr fun i hi=>h i (by simp [slotsOf,hi])
    simp only [stepA,h1,h2]
  | ext x i =>
    have h1:x.ev sl=x.ev sl':=ev_congr fun i hi=>h i (by simp [slotsOf,hi])
    simp only [stepA,h1]
  | _ =>
    rename_i x
    first
      | (have h1:AO.ev sl x=AO.ev sl' x:=ev_congr fun i hi=>h i (by simpa [slotsOf] using hi)
         simp only [stepA,h1])
      | skip
end Go.Proofs.Ytdbbnlafkndcnaa.Calc
namespace Go.Proofs.Ytdbbnlafkndcnaa.Calc
open Go
variable {X:Nat→Prop}
section
variable {α:Type} {txt:Nat→Nat→α} {wr rd bef:Nat→Nat→Prop} {N:Nat} {S:Nat→Prop} {st st':Nat→α} {i:Nat}
def OInv (txt:Nat→Nat→α) (wr:Nat→Nat→Prop) (N:Nat) (S:Nat→Prop) (st:Nat→α):Prop :=
 ∀ r j,j≤N→(∀ k,k < N→wr k r→(k < j↔S k))→st r=txt j r
def OConf (wr rd bef:Nat→Nat→Prop) (N:Nat):Prop :=
 ∀ i j r,i < j→j < N→((wr i r∧(wr j r∨rd j r))∨(rd i r∧wr j r))→bef j i
theorem OInv.at (hI:OInv txt wr N S st) (hconf:OConf wr rd bef N) (hcl:∀ j k,S j→bef j k→S k) (hi:i < N) (hni:¬ S i) (hpre:∀ k,bef i k→S k) {r:Nat} (ht:wr i r∨rd i r):st r=txt i r:=by
 refine hI r i (Nat.le_of_lt hi) fun k hk hw=>⟨fun h=>hpre k (hconf k i r h hi (.inl ⟨hw,ht⟩)),fun hS=>?_⟩
 rcases Nat.lt_trichotomy k i with h|h|h
 ·exact h
 ·subst h; exact absurd hS hni
 ·refine absurd (hcl k i hS (hconf i k r h hk ?_)) hni
  rcases ht with ht|ht
  ·exact .inl ⟨ht,.inl hw⟩
  ·exact .inr ⟨ht,hw⟩
theorem OInv.step (hI:OInv txt wr N S st) (hconf:OConf wr rd bef N) (hper:∀ i r,i < N→¬ wr i r→txt (i+1) r=txt i r) (hcl:∀ j k,S j→bef j k→S k) (hi:i < N) (hni:¬ S i)
  (hst:∀ r,(wr i r→st' r=txt (i+1) r)∧(¬ wr i r→st' r=st r)):OInv txt wr N (fun k=>S k∨k=i) st':=by
 intro r j hj hw
 by_cases hwi:wr i r
 ·rw [(hst r).1 hwi]
  have hij:i < j:=(hw i hi hwi).2 (.inr rfl)
  have key:∀ d,i+1+d≤j→txt (i+1+d) r=txt (i+1) r:=by
   intro d
   induction d with
   | zero=>intro _; rfl
   | succ d ih =>
    intro hd
    rw [← ih (by omega)]
    refine hper (i+1+d) r (by omega) fun hwm=>?_
    rcases (hw _ (by omega) hwm).1 (by omega) with h|h
    ·exact hni (hcl _ i h (hconf i _ r (by omega) (by omega) (.inl ⟨hwi,.inl hwm⟩)))
    ·omega
  have:=key (j - (i+1)) (by omega)
  rw [show i+1+(j - (i+1))=j by omega] at this
  exact this.symm
 ·rw [(hst r).2 hwi]
  refine hI r j hj fun k hk hwk=>?_
  rw [hw k hk hwk]
  refine ⟨fun h=>?_,.inl⟩
  rcases h with h|rfl
  ·exact h
  ·exact absurd hwk hwi
end
def dirs (o:Oper):List Nat:=(o.after.toList.filter fun e=>Region.binds .any e).map (·.on)
def befGo:List Oper→List (List Nat)→Option (List (List Nat))
 | [],acc=>some acc
 | o :: rest,acc=>if (dirs o).all (fun d=>decide (d < acc.length))=true then
   befGo rest (acc ++ [(List.range acc.length).filter fun k=>(dirs o).contains k || (dirs o).any fun d=>(acc.getD d []).contains k]) else none
structure BefOk (ops:List Oper) (B:List (List Nat)):Prop where
 len:B.length=ops.length
 low:∀ (j:Nat) (o:Oper),ops[j]?=some o→∀ d ∈ dirs o,d < j
 mem:∀ (j:Nat) (o:Oper),ops[j]?=some o→∀ k ∈ B.getD j [],k ∈ dirs o∨∃ d ∈ dirs o,k ∈ B.getD d []
theorem befGo_ok:∀ (rest pre:List Oper) (acc B:List (List Nat)),BefOk pre acc→befGo rest acc=some B→BefOk (pre ++ rest) B:=by
 intro rest
 induction rest with
 | nil=>intro pre acc B h hb; simp only [befGo,Option.some.injEq] at hb; subst hb; simpa using h
 | cons o rest ih =>
  intro pre acc B h hb
  simp only [befGo] at hb
  split at hb
  ·rename_i hall
   have hall:∀ d ∈ dirs o,d < acc.length:=by simpa using hall
   have:=ih (pre ++ [o]) _ B ⟨by simp [h.len],fun j o' hj=>?_,fun j o' hj=>?_⟩ hb
   ·simpa using this
   ·rw [List.getElem?_append] at hj
    split at hj
    ·exact h.low j o' hj
    ·rename_i hlt
     cases hk:j - pre.length with
     | zero =>
      rw [hk] at hj
      simp at hj; subst hj
      intro d hd
      have:=hall d hd
      rw [h.len] at this; omega
     | succ _=>rw [hk] at hj; simp at hj
   ·intro k hk
    rw [List.getElem?_append] at hj
    split at hj
    ·rename_i hlt
     rw [List.getD_eq_getElem?_getD,List.getElem?_append_left (by rw [h.len]; exact hlt),← List.getD_eq_getElem?_getD] at hk
     rcases h.mem j o' hj k hk with h1|⟨d,h1,h2⟩
     ·exact .inl h1
     ·refine .inr ⟨d,h1,?_⟩
      have:=h.low j o' hj d h1
      rw [List.getD_eq_getElem?_getD,List.getElem?_append_left (by rw [h.len]; omega),← List.getD_eq_getElem?_getD]
      exact h2
    ·rename_i hlt
     cases hk':j - pre.length with
     | zero =>
      rw [hk'] at hj
      simp at hj; subst hj
      have e:j=acc.length:=by rw [h.len]; omega
      subst e
      rw [List.getD_eq_getElem?_getD,List.getElem?_append_right (Nat.le_refl _)] at hk
      simp only [Nat.sub_self,List.getElem?_cons_zero,Option.getD_some,List.mem_filter,Bool.or_eq_true,List.any_eq_true,List.contains_iff_mem] at hk
      rcases hk.2 with h1|⟨d,h1,h2⟩
      ·exact .inl h1
      ·refine .inr ⟨d,h1,?_⟩
       rw [List.getD_eq_getElem?_getD,List.getElem?_append_left (hall d h1),← List.getD_eq_getElem?_getD]
       exact h2
     | succ _=>rw [hk'] at hj; simp at hj
  ·cases hb
theorem BefOk.closed {ops:List Oper} {B:List (List Nat)} (hB:BefOk ops B) {S:Nat→Prop} (hS:∀ (j:Nat) (o:Oper),ops[j]?=some o→S j→∀ d ∈ dirs o,S d) :
  ∀ (j:Nat) (o:Oper),ops[j]?=some o→(∀ d ∈ dirs o,S d)→∀ k ∈ B.getD j [],S k:=by
 intro j
 induction j using Nat.strongRecOn with
 | _ j ih =>
  intro o ho hd k hk
  rcases hB.mem j o ho k hk with h|⟨d,h1,h2⟩
  ·exact hd k h
  ·have hlt:=hB.low j o ho d h1
   have hj:=(List.getElem?_eq_some_iff.1 ho).1
   have hod:=List.getElem?_eq_getElem (l:=ops) (show d < ops.length by omega)
   exact ih d hlt _ hod (hS d _ hod (hd d h1)) k h2
def readsOf (o:AOper):List Nat:=(match o.guard with
 | some (g,_)=>[g]
 | none=>[]) ++ slotsOf o.op
def slApart (a b:AOper):Bool:=(match a.dst with
 | some d=>!(readsOf b).contains d && b.dst != some d
 | none=>true) && (match b.dst with
 | some d=>!(readsOf a).contains d
 | none=>true)
def slotsOk (B:List (List Nat)) (aops:List AOper):Bool :=
 (List.range aops.length).all fun j=>(List.range j).all fun i=>(B.getD j []).contains i || slApart (aops.getD i default) (aops.getD j default)
def apartT (x y:List Nat×List Nat):Bool:=x.2.all (fun b=>!y.1.contains b && !y.2.contains b) && x.1.all (fun b=>!y.2.contains b)
def okTr (B:List (List Nat)) (tr:List (List Nat×List Nat)):Bool :=
 (List.range tr.length).all fun j=>(List.range j).all fun i=>(B.getD j []).contains i || apartT (tr.getD i ([],[])) (tr.getD j ([],[]))
theorem slotsOk_spec {B:List (List Nat)} {aops:List AOper} (h:slotsOk B aops=true):OConf (fun j i=>∃ ao,aops[j]?=some ao∧ao.dst=some i) (fun j i=>∃ ao,aops[j]?=some ao∧i ∈ readsOf ao) (fun j k=>k ∈ B.getD j []) aops.length:=by
 intro i j r hij hj hc
 simp only [slotsOk,List.all_eq_true,List.mem_range,Bool.or_eq_true,List.contains_iff_mem] at h
 rcases h j hj i hij with h1|h1
 ·exact h1
 ·exfalso
  have hi:i < aops.length:=by omega
  rw [List.getD_eq_getElem?_getD,List.getD_eq_getElem?_getD,List.getElem?_eq_getElem hi,List.getElem?_eq_getElem hj] at h1
  simp only [Option.getD_some,slApart,Bool.and_eq_true] at h1
  rcases hc with ⟨⟨a,ha,hda⟩,hc⟩|⟨⟨a,ha,hra⟩,⟨b,hb,hdb⟩⟩
  ·rw [List.getElem?_eq_getElem hi] at ha; cases ha
   rw [hda] at h1
   simp at h1
   rcases hc with ⟨b,hb,hdb⟩|⟨b,hb,hrb⟩ <;> rw [List.getElem?_eq_getElem hj] at hb <;> cases hb
   ·exact h1.1.2 hdb
   ·exact h1.1.1 hrb
  ·rw [List.getElem?_eq_getElem hi] at ha; cases ha
   rw [List.getElem?_eq_getElem hj] at hb; cases hb
   rw [hdb] at h1
   simp at h1
   exact h1.2 hra
theorem okTr_spec {B:List (List Nat)} {N:Nat} {RW:Nat→List Nat×List Nat} (h:okTr B ((List.range N).map RW)=true):OConf (fun j b=>b ∈ (RW j).2) (fun j b=>b ∈ (RW j).1) (fun j k=>k ∈ B.getD j []) N:=by
 intro i j r hij hj hc
 simp only [okTr,List.all_eq_true,List.mem_range,Bool.or_eq_true,List.contains_iff_mem,List.length_map,List.length_range] at h
 rcases h j hj i hij with h1|h1
 ·exact h1
 ·exfalso
  have hi:i < N:=by omega
  have e:∀ k,k < N→((List.range N).map RW).getD k ([],[])=RW k:=fun k hk=>by
   rw [List.getD_eq_getElem?_getD,List.getElem?_map,List.getElem?_range hk]; rfl
  rw [e i hi,e j hj] at h1
  simp only [apartT,Bool.and_eq_true,List.all_eq_true,Bool.not_eq_true',List.contains_eq_mem,decide_eq_false_iff_not] at h1
  rcases hc with ⟨h2,h3|h3⟩|⟨h2,h3⟩
  ·exact (h1.1 r h2).2 h3
  ·exact (h1.1 r h2).1 h3
  ·exact h1.2 r h2 h3
def CallT (P:Program) (f:FuncId) (args:List V) (h:List Blk) (x:V) (h':List Blk) (R W:List Nat):Prop :=
 ∃ (perm:List Nat) (m:Nat) (r:V) (hout:List Blk),perm.Nodup∧(∀ b ∈ perm,b < h.length)∧hout.length=perm.length+m∧(∀ k ∈ hout.drop perm.length,0 < k.ver) ∧
  enters P f=true∧FnE P f (args.map (pas perm)) (pasH h perm) r hout∧x=ren (perm ++ upto h.length m) r∧h'=back (h ++ List.replicate m dum) (perm ++ upto h.length m) hout∧R=perm∧W=perm ++ upto h.length m
def PlainT (op:AOp) (fr:Fr) (h:List Blk) (x:V) (h':List Blk) (R W:List Nat):Prop :=
 ∃ ups news,stepA op (AO.ev (lk fr)) (fun b=>h[b]?) h.length=some (x,ups,news,R)∧h'=appU h ups ++ news∧W=ups.map (·.1) ++ upto h.length news.length
inductive ExT (P:Program):AOp→Fr→List Blk→V→List Blk→List Nat→List Nat→Prop
 | call {f args fr h x h' R W} (hc:CallT P f (args.map (AO.ev (lk fr))) h x h' R W):ExT P (.call f args) fr h x h' R W
 | callc {y args fr h x h' R W f caps} (hy:y.ev (lk fr)=.fn f caps) (hc:CallT P f (args.map (AO.ev (lk fr)) ++ caps) h x h' R W):ExT P (.callc y args) fr h x h' R W
 | inv {tab y args fr h x h' R W f v} (hy:invOf tab (y.ev (lk fr))=some (f,v)) (hc:CallT P f (v :: args.map (AO.ev (lk fr))) h x h' R W):ExT P (.inv tab y args) fr h x h' R W
 | xcall {f args fr h r} (hx:ExtE P f (args.map (AO.ev (lk fr))) r):ExT P (.xcall f args) fr h r h [] []
 | plain {op fr h x h' R W} (hn1:∀ f args,op≠.call f args) (hn2:∀ x args,op≠.callc x args) (hp:PlainT op fr h x h' R W):ExT P op fr h x h' R W
structure Shr (h h':List Blk) (R W W':List Nat):Prop where
 sub:∀ b ∈ W',b ∈ W
 same:∀ b ∈ W,b ∉ W'→b ∈ R∧b < h.length∧h'[b]?=h[b]?
theorem Shr.refl {h h':List Blk} {R W:List Nat}:Shr h h' R W W:=⟨fun _ h=>h,fun _ h1 h2=>absurd h1 h2⟩
def ExS (P:Program) (op:AOp) (fr:Fr) (h:List Blk) (x:V) (h':List Blk) (R W':List Nat):Prop:=∃ W,ExT P op fr h x h' R W∧Shr h h' R W W'
def CallOkT (P:Program) (f:FuncId) (args:List V) (h:List Blk) (K:List Nat→List Nat→V→List Blk→Prop):Prop :=
 ∃ (perm:List Nat) (m:Nat) (r:V) (hout:List Blk) (W':List Nat),perm.Nodup∧(∀ b ∈ perm,b < h.length)∧hout.length=perm.length+m∧(∀ k ∈ hout.drop perm.length,0 < k.ver) ∧
  enters P f=true∧FnE P f (args.map (pas perm)) (pasH h perm) r hout∧Shr h (back (h ++ List.replicate m dum) (perm ++ upto h.length m) hout) perm (perm ++ upto h.length m) W' ∧
  K perm W' (ren (perm ++ upto h.length m) r) (back (h ++ List.replicate m dum) (perm ++ upto h.length m) hout)
def WOpT (P:Program) (op:AOp) (fr:Fr) (h:List Blk) (K:List Nat→List Nat→V→List Blk→Prop):Prop :=
 match op with
 | .call f args=>CallOkT P f (args.map (AO.ev (lk fr))) h K
 | .callc x args=>match (x.ev (lk fr)) with
  | .fn f caps=>CallOkT P f (args.map (AO.ev (lk fr)) ++ caps) h K
  | _=>False
 | .inv tab x args=>match invOf tab (x.ev (lk fr)) with
  | some (f,v)=>CallOkT P f (v :: args.map (AO.ev (lk fr))) h K
  | none=>False
 | .xcall f args=>∃ r,ExtE P f (args.map (AO.ev (lk fr))) r∧K [] [] r h
 | op=>match stepA op (AO.ev (lk fr)) (fun b=>h[b]?) h.length with
  | some (x,ups,news,R)=>K R (ups.map (·.1) ++ upto h.length news.length) x (appU h ups ++ news)
  | none=>False
def WOpsT (P:Program):List AOper→List (List Nat×List Nat)→Fr→List Blk→(List (List Nat×List Nat)→Fr→List Blk→Prop)→Prop
 | [],tr,fr,h,K=>K tr fr h
 | o :: rest,tr,fr,h,K =>
  match o.guard with
  | none=>WOpT P o.op fr h fun R W x h'=>WOpsT P rest (tr ++ [(R,W)]) (put fr o.dst x) h' K
  | some (g,want)=>match lk fr g with
   | .c (.bool b)=>if b=want then WOpT P o.op fr h fun R W x h'=>WOpsT P rest (tr ++ [(R,W)]) (put fr o.dst x) h' K
     else WOpsT P rest (tr ++ [([],[])]) (put fr o.dst (.c undef)) h K
   | .c (.tuple _)=>WOpsT P rest (tr ++ [([],[])]) (put fr o.dst (.c undef)) h K
   | _=>False
variable {P:Program}
theorem WOpT.ex {op:AOp} {fr:Fr} {h:List Blk} {K:List Nat→List Nat→V→List Blk→Prop} (hW:WOpT P op fr h K):∃ R W x h',ExS P op fr h x h' R W∧K R W x h':=by
 unfold WOpT at hW
 split at hW
 ·obtain ⟨perm,m,r,hout,W',h1,h2,h3,h4,h5,h6,h8,h7⟩:=hW
  exact ⟨_,_,_,_,⟨_,.call ⟨perm,m,r,hout,h1,h2,h3,h4,h5,h6,rfl,rfl,rfl,rfl⟩,h8⟩,h7⟩
 ·split at hW
  ·rename_i hx
   obtain ⟨perm,m,r,hout,W',h1,h2,h3,h4,h5,h6,h8,h7⟩:=hW
   exact ⟨_,_,_,_,⟨_,.callc hx ⟨perm,m,r,hout,h1,h2,h3,h4,h5,h6,rfl,rfl,rfl,rfl⟩,h8⟩,h7⟩
  ·exact hW.elim
 ·split at hW
  ·rename_i hx
   obtain ⟨perm,m,r,hout,W',h1,h2,h3,h4,h5,h6,h8,h7⟩:=hW
   exact ⟨_,_,_,_,⟨_,.inv hx ⟨perm,m,r,hout,h1,h2,h3,h4,h5,h6,rfl,rfl,rfl,rfl⟩,h8⟩,h7⟩
  ·exact hW.elim
 ·obtain ⟨r,h1,h2⟩:=hW
  exact ⟨_,_,_,_,⟨_,.xcall h1,.refl⟩,h2⟩
 ·rename_i hn1 hn2 _ _
  split at hW
  ·rename_i hst
   exact ⟨_,_,_,_,⟨_,.plain (fun f args e=>hn1 f args e) (fun x args e=>hn2 x args e) ⟨_,_,hst,rfl,rfl⟩,.refl⟩,hW⟩
  ·exact hW.elim
inductive StepT (P:Program) (o:AOper) (fr:Fr) (h:List Blk):Fr→List Blk→List Nat→List Nat→Prop
 | pass {g want v} (hg:o.guard=some (g,want)) (hb:lk fr g=.c v) (hne:∀ b,v=.bool b→b≠want):StepT P o fr h (put fr o.dst (.c undef)) h [] []
 | run {x h' R W} (hg:o.guard=none∨∃ g want,o.guard=some (g,want)∧lk fr g=.c (.bool want)) (hE:ExS P o.op fr h x h' R W):StepT P o fr h (put fr o.dst x) h' R W
theorem WOpsT.unroll:∀ (aops:List AOper) (tr:List (List Nat×List Nat)) (fr:Fr) (h:List Blk) (K:List (List Nat×List Nat)→Fr→List Blk→Prop),WOpsT P aops tr fr h K →
  ∃ (frs:Nat→Fr) (hs:Nat→List Blk) (RW:Nat→List Nat×List Nat),frs 0=fr∧hs 0=h∧(∀ i o,aops[i]?=some o→StepT P o (frs i) (hs i) (frs (i+1)) (hs (i+1)) (RW i).1 (RW i).2) ∧
   K (tr ++ (List.range aops.length).map RW) (frs aops.length) (hs aops.length):=by
 intro aops
 induction aops with
 | nil=>intro tr fr h K hW; exact ⟨fun _=>fr,fun _=>h,fun _=>([],[]),rfl,rfl,by simp,by simpa [WOpsT] using hW⟩
 | cons o rest ih =>
  intro tr fr h K hW
  have glue:∀ {fr' h' R W},StepT P o fr h fr' h' R W→WOpsT P rest (tr ++ [(R,W)]) fr' h' K→∃ (frs:Nat→Fr) (hs:Nat→List Blk) (RW:Nat→List Nat×List Nat),frs 0=fr∧hs 0=h∧(∀ i o',(o :: rest)[i]?=some o'→StepT P o' (frs i) (hs i) (frs (i+1)) (hs (i+1)) (RW i).1 (RW i).2) ∧
   K (tr ++ (List.range (o :: rest).length).map RW) (frs (o :: rest).length) (hs (o :: rest).length):=by
   intro fr' h' R W hst hr
   obtain ⟨frs,hs,RW,e1,e2,h3,h4⟩:=ih _ _ _ _ hr
   refine ⟨fun|0=>fr|k+1=>frs k,fun|0=>h|k+1=>hs k,fun|0=>(R,W)|k+1=>RW k,rfl,rfl,fun i o' hi=>?_,?_⟩
   ·cases i with
    | zero=>simp at hi; subst hi; simp only [e1,e2]; exact hst
    | succ i=>exact h3 i o' (by simpa using hi)
   ·rw [List.length_cons,List.range_succ_eq_map,List.map_cons,List.map_map]
    rw [List.append_assoc] at h4
    exact h4
  simp only [WOpsT] at hW
  split at hW
  ·rename_i hg
   obtain ⟨R,W,x,h',hE,hK⟩:=hW.ex
   exact glue (.run (.inl hg) hE) hK
  ·rename_i g want hg
   split at hW
   ·rename_i b hb
    split at hW
    ·rename_i he; subst he
     obtain ⟨R,W,x,h',hE,hK⟩:=hW.ex
     exact glue (.run (.inr ⟨g,b,hg,hb⟩) hE) hK
    ·rename_i hne
     exact glue (.pass hg hb (by rintro b' ⟨⟩; exact hne)) hW
   ·rename_i t hb
    exact glue (.pass hg hb (by rintro b' ⟨⟩)) hW
   ·exact hW.elim
end Go.Proofs.Ytdbbnlafkndcnaa.Calc
namespace Go.Proofs.Ytdbbnlafkndcnaa.Calc
open Go
set_option linter.unusedSimpArgs false
variable {X:Nat→Prop}
def guardOf (ops:Array Oper):Option (Nat×Bool)→Option (Option (Nat×Bool))
 | none=>some none
 | some (j,b)=>match (ops[j]?).bind (·.dst) with
  | some g=>some (some (g,b))
  | none=>none
def dstOk (n:Nat):Option Nat→Bool
 | some d=>decide (d < n)
 | none=>true
def compOne (P:Program) (ops:Array Oper) (n:Nat) (o:Oper):Option AOper:=do
 let g ← guardOf ops o.guard
 if dstOk n o.dst=true then pure ⟨o.dst,(comp P o.op).getD .bad,g⟩ else none
def compR (P:Program) (n:Nat) (ops:Array Oper):Option (List AOper):=(List.range ops.size).mapM fun i=>(ops[i]?).bind (compOne P ops n)
section
variable {P:Program} {w0:World} {ι0:List Place} {n:Nat}
theorem compOne_parts {ops:Array Oper} {o:Oper} {ao:AOper} (h:compOne P ops n o=some ao) :
  (ao.op≠.bad→comp P o.op=some ao.op)∧ao.dst=o.dst∧(∀ d,o.dst=some d→d < n) ∧
   ((o.guard=none∧ao.guard=none)∨∃ j b g,o.guard=some (j,b)∧(ops[j]?).bind (·.dst)=some g∧ao.guard=some (g,b)):=by
 unfold compOne at h
 obtain ⟨g,h2,h⟩:=bind_some h
 split at h
 ·rename_i hd
  cases h
  refine ⟨fun hne=>by
   cases hc:comp P o.op with
   | none=>rw [hc] at hne; exact absurd rfl hne
   | some op=>rfl,rfl,fun d hd'=>by rw [hd'] at hd; simpa [dstOk] using hd,?_⟩
  cases hg:o.guard with
  | none=>rw [hg] at h2; cases h2; exact .inl ⟨rfl,rfl⟩
  | some q =>
   obtain ⟨j,b⟩:=q
   rw [hg] at h2
   simp only [guardOf] at h2
   split at h2
   ·rename_i g' hg'
    cases h2
    exact .inr ⟨j,b,g',rfl,hg',rfl⟩
   ·cases h2
 ·cases h
theorem guard_val {fr:Fr} {h:List Blk} {a:Act} {w:World} (hS:St X w0 ι0 n fr h a w) {g:Nat} {b:Bool} (hg:lk fr g=.c (.bool b)):a.tmps[g]?=some (.bool b):=by
 obtain ⟨⟨ι,H,hFr,hRf,hSl⟩,_⟩:=hS
 have:=hSl g
 rw [hg] at this
 have e:=this.c_eq
 rw [Array.getD_eq_getD_getElem?] at e
 cases hh:a.tmps[g]? with
 | none=>rw [hh] at e; simp [undef] at e
 | some v=>rw [hh] at e; simp at e; rw [e]
theorem guard_any {fr:Fr} {h:List Blk} {a:Act} {w:World} (hS:St X w0 ι0 n fr h a w) {g:Nat} {v:Value} {want:Bool} (hg:lk fr g=.c v) (hne:∀ b,v=.bool b→b≠want):a.tmps[g]?≠some (.bool want):=by
 obtain ⟨⟨ι,H,hFr,hRf,hSl⟩,_⟩:=hS
 have:=hSl g
 rw [hg] at this
 have e:=this.c_eq
 rw [Array.getD_eq_getD_getElem?] at e
 intro hh
 rw [hh] at e
 exact hne want e.symm rfl
theorem St.skip {fr:Fr} {h:List Blk} {a:Act} {w:World} (hS:St X w0 ι0 n fr h a w) (dst:Option Nat) (v:Value) (hd:∀ d,dst=some d→d < n):St X w0 ι0 n (put fr dst (.c v)) h (a.put dst v) w:=by
 obtain ⟨⟨ι,H,hFr,hRf,hSl⟩,hn,hdef⟩:=hS
 exact ⟨⟨ι,H,hFr,hRf,hSl.put dst .c (fun d h=>by rw [hn]; exact hd d h)⟩,by cases dst <;> simp [Act.put,hn],by cases dst <;> simp [Act.put,hdef]⟩
theorem appU_other (ups:List (Nat×Blk)):∀ (h:List Blk) (b:Nat),b ∉ ups.map (·.1)→(appU h ups)[b]?=h[b]?:=by
 induction ups with
 | nil=>intro h b _; rfl
 | cons u ups ih =>
  intro h b hb
  obtain ⟨c,k⟩:=u
  simp only [List.map_cons,List.mem_cons,not_or] at hb
  simp only [appU]
  rw [ih _ _ hb.2,List.getElem?_set_ne (Ne.symm hb.1)]
theorem appU_same (ups:List (Nat×Blk)):∀ (h h':List Blk) (b:Nat),(b ∈ ups.map (·.1)∨h[b]?=h'[b]?)→b < h.length→b < h'.length→(appU h ups)[b]?=(appU h' ups)[b]?:=by
 induction ups with
 | nil=>intro h h' b hb _ _; simpa [appU] using hb
 | cons u ups ih =>
  intro h h' b hb h1 h2
  obtain ⟨c,k⟩:=u
  simp only [appU]
  refine ih _ _ _ ?_ (by simpa using h1) (by simpa using h2)
  by_cases hc:c=b
  ·subst hc; right; rw [List.getElem?_set_self h1,List.getElem?_set_self h2]
  ·rcases hb with hb|hb
   ·simp only [List.map_cons,List.mem_cons] at hb
    rcases hb with hb|hb
    ·exact absurd hb.symm hc
    ·exact .inl hb
   ·right; rw [List.getElem?_set_ne hc,List.getElem?_set_ne hc]; exact hb
theorem appN_get (news:List Blk):∀ (h:List Blk) (c b:Nat),c+news.length≤h.length→(appN h c news)[b]?=if c≤b∧b < c+news.length then news[b - c]? else h[b]?:=by
 induction news with
 | nil=>intro h c b _; simp only [appN,List.length_nil,Nat.add_zero]; rw [if_neg (by omega)]
 | cons k news ih =>
  intro h c b hl
  simp only [List.length_cons] at hl
  simp only [appN]
  rw [ih _ _ _ (by rw [List.length_set]; omega)]
  simp only [List.length_cons]
  by_cases h1:c=b
  ·subst h1
   rw [if_neg (by omega),if_pos (by omega),List.getElem?_set_self (by omega)]; simp
  ·by_cases h2:c+1≤b∧b < c+1+news.length
   ·rw [if_pos h2,if_pos (by omega)]
    rw [show b - c=(b - (c+1))+1 by omega]; rfl
   ·rw [if_neg h2,if_neg (by omega),List.getElem?_set_ne h1]
theorem appN_length (news:List Blk):∀ (h:List Blk) (c:Nat),(appN h c news).length=h.length:=by
 induction news with
 | nil=>intro h c; rfl
 | cons k news ih=>intro h c; simp only [appN]; rw [ih,List.length_set]
theorem mem_upto {c m b:Nat} (h1:c≤b) (h2:b < c+m):b ∈ upto c m:=by
 refine List.mem_iff_getElem?.2 ⟨b - c,?_⟩
 rw [upto_get,if_pos (by omega)]; congr 1; omega
theorem back_length (h:List Blk) (keys:List Nat) (hout:List Blk):(back h keys hout).length=h.length:=by simp [back]
theorem back_out {h:List Blk} {keys:List Nat} {hout:List Blk} {b:Nat} (hb:b ∉ keys):(back h keys hout)[b]?=h[b]?:=by
 have hp:pos keys b=none:=by
  cases hp:pos keys b with
  | none=>rfl
  | some j=>exact absurd (List.mem_of_getElem? (pos_get hp)) hb
 unfold back
 rw [List.getElem?_map]
 by_cases hl:b < h.length
 ·rw [List.getElem?_range hl,Option.map_some,hp]
  dsimp only
  rw [List.getD_eq_getElem?_getD,List.getElem?_eq_getElem hl]; rfl
 ·rw [List.getElem?_eq_none (by simpa using hl),List.getElem?_eq_none (by simpa using hl)]; rfl
theorem back_in {h h':List Blk} {keys:List Nat} {hout:List Blk} {b:Nat} (hb:b ∈ keys) (h1:b < h.length) (h2:b < h'.length):(back h keys hout)[b]?=(back h' keys hout)[b]?:=by
 obtain ⟨j,hj⟩:=Option.isSome_iff_exists.1 (pos_mem hb)
 unfold back
 rw [List.getElem?_map,List.getElem?_map,List.getElem?_range h1,List.getElem?_range h2,Option.map_some,Option.map_some,hj]
theorem ExT.facts {op:AOp} {fr:Fr} {h h':List Blk} {x:V} {R W:List Nat} (hE:ExT P op fr h x h' R W):h.length≤h'.length∧(∀ b,b ∈ R∨b ∈ W→b < h'.length)∧∀ b,b ∉ W→(h'[b]?).getD dum=(h[b]?).getD dum:=by
 have call:∀ {f args},CallT P f args h x h' R W→h.length≤h'.length∧(∀ b,b ∈ R∨b ∈ W→b < h'.length)∧∀ b,b ∉ W→(h'[b]?).getD dum=(h[b]?).getD dum:=by
  rintro f args ⟨perm,m,r,hout,h1,h2,h3,h4,h5,h6,rfl,rfl,rfl,rfl⟩
  rw [back_length,List.length_append,List.length_replicate]
  refine ⟨by omega,fun b hb=>?_,fun b hb=>?_⟩
  ·have:b ∈ R∨b ∈ upto h.length m:=by
    rcases hb with hb|hb
    ·exact .inl hb
    ·exact List.mem_append.1 hb
   rcases this with hb|hb
   ·have:=h2 b hb; omega
   ·exact (upto_mem hb).2
  ·rw [back_out hb]
   by_cases hl:b < h.length
   ·rw [List.getElem?_append_left hl]
   ·rw [List.getElem?_append_right (by omega),List.getElem?_eq_none (l:=h) (by omega),List.getElem?_replicate]
    split <;> rfl
 cases hE with
 | call hc=>exact call hc
 | callc hy hc=>exact call hc
 | inv hy hc=>exact call hc
 | xcall hx=>exact ⟨Nat.le_refl _,by simp,fun _ _=>rfl⟩
 | plain hn1 hn2 hp =>
  obtain ⟨ups,news,hst,rfl,rfl⟩:=hp
  have hin:∀ u ∈ ups,u.1 < h.length:=fun u hu=>by
   obtain ⟨k,hk⟩:=Option.isSome_iff_exists.1 (ups_in hst u hu).2
   exact (List.getElem?_eq_some_iff.1 hk).1
  have hR:∀ b ∈ R,b < h.length:=fun b hb=>by
   obtain ⟨k,hk⟩:=Option.isSome_iff_exists.1 (R_some hst b hb)
   exact (List.getElem?_eq_some_iff.1 hk).1
  rw [List.length_append,appU_length]
  refine ⟨by omega,fun b hb=>?_,fun b hb=>?_⟩
  ·rcases hb with hb|hb
   ·have:=hR b hb; omega
   ·rcases List.mem_append.1 hb with hb|hb
    ·obtain ⟨u,hu,rfl⟩:=List.mem_map.1 hb
     have:=hin u hu; omega
    ·exact (upto_mem hb).2
  ·rw [List.mem_append,not_or] at hb
   by_cases hl:b < h.length
   ·rw [List.getElem?_append_left (by rw [appU_length]; exact hl),appU_other _ _ _ hb.1]
   ·have:¬ b < h.length+news.length:=fun h2=>hb.2 (mem_upto (by omega) h2)
    rw [List.getElem?_eq_none (by rw [List.length_append,appU_length]; omega),List.getElem?_eq_none (by omega)]
theorem callAt_sound {f:FuncId} {args:List V} {fr:Fr} {h hc h':List Blk} {x:V} {R W:List Nat} {a:Act} {w:World} {vs:Array Value} {dst:Option Nat} {next:Act→World→Prop} {Q:Exit→Act→World→Prop}
  (hS:St X w0 ι0 n fr hc a w) (hW:CallT P f args h x h' R W) (hsz:vs.size=args.length)
  (hblk:∀ b,b ∈ R∨b ∈ W→hc[b]?=some ((h[b]?).getD dum))
  (hargs:∀ ι,SlRel X w ι (lk fr) a→∀ (i:Nat) (v:Value) (y:V),vs[i]?=some v→args[i]?=some y→Rel w (OX X ι) ι v y) (hdst:∀ d,dst=some d→d < n)
  (hnext:∀ H' a' w',H'.length=hc.length→(∀ b ∈ W,H'[b]?=h'[b]?)→(∀ b,b ∉ W→H'[b]?=hc[b]?)→St X w0 ι0 n (put fr dst x) H' a' w'→next a' w') :
  Calls P f vs w fun
   | .returned v,w''=>next (a.put dst v) w''
   | .panicked chain,w''=>Q (.panic chain) a w''
   | .outgrown,_=>LetsOut Q:=by
 obtain ⟨perm,m,r,hout,hnd,hlt,hlen,hver,_,hF,rfl,rfl,rfl,rfl⟩:=hW
 obtain ⟨⟨ι,H,hFr,hRf,hSl⟩,hn,hdef⟩:=hS
 have hltc:∀ b,b ∈ R ++ upto h.length m→b < hc.length:=fun b hb=>(List.getElem?_eq_some_iff.1 (hblk b (.inr hb))).1
 have hpas:pasH hc R=pasH h R:=by
  unfold pasH
  apply List.map_congr_left
  intro b hb
  have e:=hblk b (.inl hb)
  have:=hlt b hb
  rw [List.getElem?_eq_getElem this] at e
  rw [List.getD_eq_getElem?_getD,List.getD_eq_getElem?_getD,e,List.getElem?_eq_getElem this]; rfl
 have key:=call_ok (newk:=upto h.length m) H (hpas ▸ hF) hsz (hargs ι hSl) (List.nodup_append.2 ⟨hnd,upto_nodup _ _,fun x hx y hy e=>by
   have:=(upto_mem hy).1; have:=hlt x hx; omega⟩)
  hltc
  (by rw [hlen,List.length_append,upto_len])
  (fun j b k hj hb hk=>by
   refine ⟨hver k ?_,dum,?_,rfl⟩
   ·refine List.mem_of_getElem? (i:=j - R.length) ?_
    rw [List.getElem?_drop]
    rw [← hk]; congr 1; omega
   ·have hm:=List.mem_of_getElem? hb
    have e:=hblk b (.inr hm)
    rw [List.getElem?_append_right hj,upto_get] at hb
    split at hb
    ·cases hb
     rw [e,List.getElem?_eq_none (by omega)]; rfl
    ·cases hb)
 refine key.mono ?_
 rintro e w' ⟨v,ι',rfl,H',hr',hF',hR'⟩
 refine hnext _ _ _ (back_length _ _ _) (fun b hb=>?_) (fun b hb=>back_out hb) ⟨⟨ι',H',hFr.trans hF',hRf.trans hR',(hSl.mono hF' hR').put dst hr' (fun d hd=>by rw [hn]; exact hdst d hd)⟩,?_,?_⟩
 ·refine back_in hb (hltc b hb) ?_
  rw [List.length_append,List.length_replicate]
  rcases List.mem_append.1 hb with hb|hb
  ·have:=hlt b hb; omega
  ·exact (upto_mem hb).2
 ·cases dst <;> simp [Act.put,hn]
 ·cases dst <;> simp [Act.put,hdef]
theorem op_at {o:Oper} {op:AOp} {fr frt:Fr} {h hc h':List Blk} {x:V} {R W:List Nat} {a:Act} {w:World} {next:Act→World→Prop} {Q:Exit→Act→World→Prop}
  (hco:comp P o.op=some op) (hS:St X w0 ι0 n fr hc a w) (hdst:∀ d,o.dst=some d→d < n) (hE:ExT P op frt h x h' R W)
  (hsl:∀ i ∈ slotsOf op,lk fr i=lk frt i) (hblk:∀ b,b ∈ R∨b ∈ W→hc[b]?=some ((h[b]?).getD dum))
  (hnext:∀ H' a' w',H'.length=hc.length→(∀ b ∈ W,H'[b]?=h'[b]?)→(∀ b,b ∉ W→H'[b]?=hc[b]?)→St X w0 ι0 n (put fr o.dst x) H' a' w'→next a' w'):o.wp P a w next Q:=by
 cases hE with
 | @call f args _ _ _ _ _ _ hc' =>
  obtain ⟨as,ats,ho,he,hl⟩:=comp_call hco
  have hrun:(execOp a.eval o).run P w=.ok (.enter f (as.map a.eval)) w:=by
   unfold execOp
   rw [ho]
   simp [resolve,Act.eval,Deferred.ofValue,invoke,run_enters he]
  have hmap:args.map (AO.ev (lk fr))=args.map (AO.ev (lk frt)):=map_congr args (fun i hi=>hsl i (by simpa [slotsOf] using hi))
  rw [← hmap] at hc'
  unfold Oper.wp
  rw [hrun]
  have hlen:(as.map a.eval).size=(args.map (AO.ev (lk fr))).length:=by
   obtain ⟨⟨ι,H,hFr,hRf,hSl⟩,_⟩:=hS
   have:=(compL_rel hSl hl).1
   simpa using this
  exact callAt_sound hS hc' hlen hblk (fun ι hSl i v y hv hy=>by
   rw [List.getElem?_map] at hy
   obtain ⟨y',h1,rfl⟩:=Option.map_eq_some_iff.1 hy
   exact (compL_rel hSl hl).2 i v y' (by rw [← hv]; simp) h1) hdst hnext
 | @callc xo args _ _ _ _ _ _ f caps hy hc' =>
  obtain ⟨g,as,ats,ho,hg,hl⟩:=comp_callc hco
  have hmap:args.map (AO.ev (lk fr))=args.map (AO.ev (lk frt)):=map_congr args (fun i hi=>hsl i (by simp only [slotsOf,List.mem_append]; exact .inr hi))
  have hx:xo.ev (lk fr)=.fn f caps:=by rw [← hy]; exact ev_congr fun i hi=>hsl i (by simp only [slotsOf,List.mem_append]; exact .inl hi)
  rw [← hmap] at hc'
  have he:enters P f=true:=by obtain ⟨_,_,_,_,_,_,_,_,he,_⟩:=hc'; exact he
  obtain ⟨⟨ι,H,hFr,hRf,hSl⟩,hn,hdef⟩:=hS
  have hgr:=AO.ev_rel hSl hg
  rw [hx] at hgr
  generalize hv:a.eval g=gv at hgr
  have hgr0:=hgr
  cases hgr with
  | fn hcl hcr =>
   rename_i cvs
   have hrun:(execOp a.eval o).run P w=.ok (.enter f (as.map a.eval ++ cvs)) w:=by
    unfold execOp
    rw [ho]
    simp [resolve,hv,Deferred.ofValue,invoke,run_enters he]
   unfold Oper.wp
   rw [hrun]
   have hlen:(as.map a.eval ++ cvs).size=(args.map (AO.ev (lk fr)) ++ caps).length:=by
    have:=(compL_rel hSl hl).1
    rw [List.length_append,Array.size_append,hcl,Array.size_map,List.length_map]
    simpa using this
   refine callAt_sound ⟨⟨ι,H,hFr,hRf,hSl⟩,hn,hdef⟩ hc' hlen hblk (fun ι' hSl' i v y hvv hyy=>?_) hdst hnext
   have hgr':=AO.ev_rel hSl' hg
   rw [hx,hv] at hgr'
   cases hgr' with
   | fn hcl' hcr' =>
    have hal:=(compL_rel hSl' hl).1
    rw [Array.getElem?_append] at hvv
    rw [List.getElem?_append] at hyy
    have e1:(as.map a.eval).size=args.length:=by simpa using hal
    have e2:(args.map (AO.ev (lk fr))).length=args.length:=by simp
    rw [e1] at hvv; rw [e2] at hyy
    by_cases hi:i < args.length
    ·rw [if_pos hi] at hvv hyy
     rw [List.getElem?_map] at hyy
     obtain ⟨y',h1,rfl⟩:=Option.map_eq_some_iff.1 hyy
     exact (compL_rel hSl' hl).2 i v y' (by rw [← hvv]; simp) h1
    ·rw [if_neg hi] at hvv hyy
     exact hcr' _ _ _ hvv hyy
 | @xcall f args _ _ _ hF =>
  obtain ⟨as,ats,ho,hl⟩:=comp_xcall hco
  have hmap:args.map (AO.ev (lk fr))=args.map (AO.ev (lk frt)):=map_congr args (fun i hi=>hsl i (by simpa [slotsOf] using hi))
  rw [← hmap] at hF
  obtain ⟨⟨ι,H,hFr,hRf,hSl⟩,hn,hdef⟩:=hS
  have hlen:(as.map a.eval).size=(args.map (AO.ev (lk fr))).length:=by
   have:=(compL_rel hSl hl).1
   simpa using this
  obtain ⟨v,h1,h2⟩:=hF X w ι _ hlen (fun i v y hv hy=>by
   rw [List.getElem?_map] at hy
   obtain ⟨y',h1,rfl⟩:=Option.map_eq_some_iff.1 hy
   exact (compL_rel hSl hl).2 i v y' (by rw [← hv]; simp) h1)
  unfold Oper.wp
  rw [run_xcall ho,h1]
  exact hnext hc _ _ rfl (by simp) (fun _ _=>rfl) ⟨⟨ι,H,hFr,hRf,hSl.put o.dst h2 (fun d hd=>by rw [hn]; exact hdst d hd)⟩,by cases o.dst <;> simp [Act.put,hn],by cases o.dst <;> simp [Act.put,hdef]⟩
 | @inv tab xo args _ _ _ _ _ _ f v hy hc' =>
  obtain ⟨g,name,as,ats,ho,rfl,hg,hl⟩:=comp_inv hco
  have hmap:args.map (AO.ev (lk fr))=args.map (AO.ev (lk frt)):=map_congr args (fun i hi=>hsl i (by simp only [slotsOf,List.mem_append]; exact .inr hi))
  have hx:invOf (methTab P name) (xo.ev (lk fr))=some (f,v):=by rw [← hy]; congr 1; exact ev_congr fun i hi=>hsl i (by simp only [slotsOf,List.mem_append]; exact .inl hi)
  rw [← hmap] at hc'
  obtain ⟨t,e1,e2⟩:=invOf_some hx
  unfold Oper.wp
  have hlen:∀ cv:Value,(#[cv] ++ as.map a.eval).size=(v :: args.map (AO.ev (lk fr))).length:=by
   intro cv
   obtain ⟨⟨ι,H,hFr,hRf,hSl⟩,_⟩:=hS
   have:=(compL_rel hSl hl).1
   simp at this ⊢; omega
  obtain ⟨⟨ι,H,hFr,hRf,hSl⟩,hn,hdef⟩:=hS
  have hgr:=AO.ev_rel hSl hg
  rw [e1] at hgr
  generalize hv:a.eval g=gv at hgr
  cases hgr with
  | ifc hr =>
   rename_i cv
   rw [run_invoke ho hv (look_meth e2)]
   refine callAt_sound ⟨⟨ι,H,hFr,hRf,hSl⟩,hn,hdef⟩ hc' (hlen cv) hblk (fun ι' hSl' i u y hvv hyy=>?_) hdst hnext
   have hgr':=AO.ev_rel hSl' hg
   rw [e1,hv] at hgr'
   exact inv_args hSl' hl hgr' hvv hyy
 | plain hn1 hn2 hp =>
  obtain ⟨ups,news,hst,rfl,rfl⟩:=hp
  have hin:∀ u ∈ ups,u.1 < h.length:=fun u hu=>by
   obtain ⟨k,hk⟩:=Option.isSome_iff_exists.1 (ups_in hst u hu).2
   exact (List.getElem?_eq_some_iff.1 hk).1
  have hkeys:∀ b ∈ ups.map (·.1),b < h.length:=fun b hb=>by
   obtain ⟨u,hu,rfl⟩:=List.mem_map.1 hb
   exact hin u hu
  have hst':=hst
  rw [← stepA_congr hsl] at hst'
  have hcl:∀ i,i < news.length→h.length+i < hc.length:=fun i hi=>(List.getElem?_eq_some_iff.1 (hblk (h.length+i) (.inr (List.mem_append_right _ (mem_upto (by omega) (by omega)))))).1
  have hcl':h.length+news.length≤hc.length∨news.length=0:=by
   by_cases h0:news.length=0
   ·exact .inr h0
   ·have:=hcl (news.length - 1) (by omega); exact .inl (by omega)
  obtain ⟨⟨ι,H,hFr,hRf,hSl⟩,hn,hdef⟩:=hS
  obtain ⟨nx,cv,w',ι',hrun,hnx,H',hx,hF',hR'⟩:=step_sound hco H hSl hst' (fun b hb=>by
    have e:=hblk b (.inl hb)
    obtain ⟨k,hk⟩:=Option.isSome_iff_exists.1 (R_some hst b hb)
    rw [e,hk]; rfl)
   (fun i hi=>⟨dum,by rw [hblk _ (.inr (List.mem_append_right _ (mem_upto (c:=h.length) (b:=h.length+i) (by omega) (by omega)))),List.getElem?_eq_none (by omega)]; rfl,rfl⟩)
  have hget:∀ b,(appN (appU hc ups) h.length news)[b]?=if h.length≤b∧b < h.length+news.length then news[b - h.length]? else (appU hc ups)[b]?:=by
   intro b
   rcases hcl' with h1|h1
   ·exact appN_get _ _ _ _ (by rw [appU_length]; exact h1)
   ·have:news=[]:=List.length_eq_zero_iff.1 h1
    subst this
    simp only [appN,List.length_nil,Nat.add_zero]
    rw [if_neg (by omega)]
  have fin:next (a.put o.dst cv) w':=by
   refine hnext _ _ _ (by rw [appN_length,appU_length]) (fun b hb=>?_) (fun b hb=>?_) ⟨⟨ι',H',hFr.trans hF',hRf.trans hR',(hSl.mono hF' hR').put o.dst hx (fun d hd=>by rw [hn]; exact hdst d hd)⟩,by cases o.dst <;> simp [Act.put,hn],by cases o.dst <;> simp [Act.put,hdef]⟩
   ·rw [hget]
    have hbc:=(List.getElem?_eq_some_iff.1 (hblk b (.inr hb))).1
    rcases List.mem_append.1 hb with hb|hb
    ·have:=hkeys b hb
     rw [if_neg (by omega),List.getElem?_append_left (by rw [appU_length]; exact this)]
     exact appU_same _ _ _ _ (.inl hb) hbc this
    ·have:=upto_mem hb
     rw [if_pos this,List.getElem?_append_right (by rw [appU_length]; exact this.1),appU_length]
   ·rw [List.mem_append,not_or] at hb
    rw [hget,if_neg (fun h2=>hb.2 (mem_upto h2.1 h2.2)),appU_other _ _ _ hb.1]
  unfold Oper.wp
  rw [hrun]
  rcases hnx with rfl|⟨rfl,rfl⟩
  ·exact fin
  ·exact fin
theorem ExS.ne_bad {op:AOp} {fr:Fr} {h h':List Blk} {x:V} {R W:List Nat} (hE:ExS P op fr h x h' R W):op≠.bad:=by
 rintro rfl
 obtain ⟨W0,hE,_⟩:=hE
 cases hE with
 | plain _ _ hp =>
  obtain ⟨ups,news,hst,_⟩:=hp
  simp [stepA] at hst
theorem ExS.facts {op:AOp} {fr:Fr} {h h':List Blk} {x:V} {R W:List Nat} (hE:ExS P op fr h x h' R W):h.length≤h'.length∧(∀ b,b ∈ R∨b ∈ W→b < h'.length)∧∀ b,b ∉ W→(h'[b]?).getD dum=(h[b]?).getD dum:=by
 obtain ⟨W0,hE,hsub,hsame⟩:=hE
 obtain ⟨h1,h2,h3⟩:=hE.facts
 refine ⟨h1,fun b hb=>h2 b (hb.imp id (hsub b)),fun b hb=>?_⟩
 by_cases hw:b ∈ W0
 ·rw [(hsame b hw hb).2.2]
 ·exact h3 b hw
theorem op_atS {o:Oper} {op:AOp} {fr frt:Fr} {h hc h':List Blk} {x:V} {R W:List Nat} {a:Act} {w:World} {next:Act→World→Prop} {Q:Exit→Act→World→Prop}
  (hco:comp P o.op=some op) (hS:St X w0 ι0 n fr hc a w) (hdst:∀ d,o.dst=some d→d < n) (hE:ExS P op frt h x h' R W)
  (hsl:∀ i ∈ slotsOf op,lk fr i=lk frt i) (hblk:∀ b,b ∈ R∨b ∈ W→hc[b]?=some ((h[b]?).getD dum))
  (hnext:∀ H' a' w',H'.length=hc.length→(∀ b ∈ W,H'[b]?=h'[b]?)→(∀ b,b ∉ W→H'[b]?=hc[b]?)→St X w0 ι0 n (put fr o.dst x) H' a' w'→next a' w'):o.wp P a w next Q:=by
 obtain ⟨W0,hE,hsub,hsame⟩:=hE
 refine op_at hco hS hdst hE hsl (fun b hb=>?_) fun H' a' w' h1 h2 h3 h4=>hnext H' a' w' h1 (fun b hb=>h2 b (hsub b hb)) (fun b hb=>?_) h4
 ·rcases hb with hb|hb
  ·exact hblk b (.inl hb)
  ·by_cases hw:b ∈ W
   ·exact hblk b (.inr hw)
   ·exact hblk b (.inl (hsame b hb hw).1)
 ·by_cases hw:b ∈ W0
  ·obtain ⟨g1,g2,g3⟩:=hsame b hw hb
   rw [h2 b hw,g3,hblk b (.inl g1),List.getElem?_eq_getElem g2]; rfl
  ·exact h3 b hw
end
end Go.Proofs.Ytdbbnlafkndcnaa.Calc
namespace Go.Proofs.Ytdbbnlafkndcnaa.Calc
open Go
variable {X:Nat→Prop}
theorem mapM_get {α β:Type} {f:α→Option β}:∀ (l:List α) (r:List β),l.mapM f=some r→r.length=l.length∧∀ (i:Nat) (x:α),l[i]?=some x→∃ y,f x=some y∧r[i]?=some y:=by
 intro l
 induction l with
 | nil=>intro r h; simp at h; subst h; simp
 | cons a l ih =>
  intro r h
  simp only [List.mapM_cons] at h
  obtain ⟨y,h1,h⟩:=bind_some h
  obtain ⟨ys,h2,h⟩:=bind_some h
  cases h
  obtain ⟨g1,g2⟩:=ih ys h2
  refine ⟨by simp [g1],fun i x hi=>?_⟩
  cases i with
  | zero=>simp at hi; subst hi; exact ⟨y,h1,rfl⟩
  | succ i=>obtain ⟨z,e1,e2⟩:=g2 i x (by simpa using hi); exact ⟨z,e1,by simpa using e2⟩
def todo (listed:Array Bool) (N:Nat):Nat:=((List.range N).filter fun k=>!listed.getD k true).length
theorem todo_set {listed:Array Bool} {N i:Nat} (hi:i < N) (hs:listed.size=N) (hf:listed.getD i true=false):todo (listed.setIfInBounds i true) N+1=todo listed N:=by
 have e:((List.range N).filter fun k=>!(listed.setIfInBounds i true).getD k true)=((List.range N).filter fun k=>!listed.getD k true).erase i:=by
  rw [List.Nodup.erase_eq_filter (List.nodup_range.filter _),List.filter_filter]
  apply List.filter_congr
  intro k hk
  by_cases h:i=k
  ·subst h
   have:(listed.setIfInBounds i true).getD i true=true:=by simp [hs,hi]
   rw [this]; simp
  ·rw [getD_set_ne true h]
   have:(k != i)=true:=by simpa using Ne.symm h
   simp [this]
 unfold todo
 have hm:i ∈ (List.range N).filter fun k=>!listed.getD k true:=by
  rw [List.mem_filter,List.mem_range]; exact ⟨hi,by rw [hf]; rfl⟩
 rw [e,List.length_erase_of_mem hm]
 have:=List.length_pos_of_mem hm
 omega
theorem todo_zero {listed:Array Bool} {N k:Nat} (h:todo listed N=0) (hk:k < N) (hs:listed.size=N):listed.getD k false=true:=by
 have h0:((List.range N).filter fun k=>!listed.getD k true)=[]:=List.length_eq_zero_iff.1 h
 have:=List.filter_eq_nil_iff.1 h0 k (List.mem_range.2 hk)
 have hlt:k < listed.size:=by omega
 simp [hlt] at this ⊢
 exact this
theorem listed_flip {listed:Array Bool} {k:Nat} (h:listed.getD k true=false):¬ listed.getD k false=true:=by
 intro h'
 by_cases hk:k < listed.size
 ·simp [hk] at h h'; rw [h] at h'; cases h'
 ·simp [Array.getElem?_eq_none (Nat.le_of_not_lt hk)] at h'
section
variable {P:Program} {w0:World} {ι0:List Place} {n:Nat}
def calm:AOp→Bool
 | .mv _|.pick _ _ _|.nilc _|.bin _ _ _|.eqb _ _ _|.not _|.cvt _ _|.ld _ _|.st _ _ _|.fad _ _|.idx _ _ _ _|.fld _ _ _|.ixa _ _ _ _ _|.ext _ _|.len _=>true
 | _=>false
def lite:AOp→Bool
 | .fad _ _|.nilc _|.idx _ _ _ _=>true
 | _=>false
def vesz (B:Blk):Nat×Nat:=(B.ver,B.esz)
theorem vesz_cases {o o':Option Blk} (h:o'.map vesz=o.map vesz):(o=none∧o'=none)∨∃ B B',o=some B∧o'=some B'∧B'.ver=B.ver∧B'.esz=B.esz:=by
 cases o <;> cases o'
 ·exact .inl ⟨rfl,rfl⟩
 ·cases h
 ·cases h
 ·simp only [Option.map_some,Option.some.injEq,vesz,Prod.mk.injEq] at h
  exact .inr ⟨_,_,rfl,rfl,h.1,h.2⟩
theorem lite_step {op:AOp} {ev:AO→V} {bl bl':Nat→Option Blk} {c:Nat} (hl:lite op=true) (hv:∀ b,(bl' b).map vesz=(bl b).map vesz):stepA op ev bl' c=stepA op ev bl c:=by
 cases op <;> first|(cases hl; done)|skip
 all_goals simp only [stepA]
 ·rename_i x
  cases ev x <;> try rfl
  rename_i b ver r k
  rcases vesz_cases (hv b) with ⟨e1,e2⟩|⟨B,B',e1,e2,e3,e4⟩
  ·simp only [e1,e2]
  ·simp only [e1,e2,e3]
 ·rename_i off x
  cases ev x <;> try rfl
  rename_i b ver r k
  rcases vesz_cases (hv b) with ⟨e1,e2⟩|⟨B,B',e1,e2,e3,e4⟩
  ·simp only [e1,e2]
  ·simp only [e1,e2,e3]
 ·rename_i esz arr x i
  cases ofInt (ev i) <;> cases arr <;> cases ev x <;> try rfl
  all_goals
   rename_i b ver _ _
   rcases vesz_cases (hv b) with ⟨e1,e2⟩|⟨B,B',e1,e2,e3,e4⟩
   ·simp only [e1,e2]
   ·simp only [e1,e2,e3,e4]
theorem pureS_some {o:Option V} {x:V} {ups:List (Nat×Blk)} {news:List Blk} {R:List Nat} (h:pureS o=some (x,ups,news,R)):ups=[]∧news=[]∧R=[]:=by
 unfold pureS at h
 cases o with
 | none=>cases h
 | some v=>cases h; exact ⟨rfl,rfl,rfl⟩
theorem calm_keeps {op:AOp} {ev:AO→V} {bl:Nat→Option Blk} {c:Nat} {x:V} {ups:List (Nat×Blk)} {news:List Blk} {R:List Nat} (hl:calm op=true) (h:stepA op ev bl c=some (x,ups,news,R)) :
  news=[]∧∀ u ∈ ups,∃ B,bl u.1=some B∧vesz u.2=vesz B:=by
 cases op <;> first|(cases hl; done)|skip
 all_goals simp only [stepA] at h
 all_goals first|(obtain ⟨rfl,rfl,_⟩:=pureS_some h; exact ⟨rfl,List.forall_mem_nil _⟩)|skip
 all_goals (repeat' split at h)
 all_goals first|(cases h; done)|(cases h; exact ⟨rfl,List.forall_mem_nil _⟩)|(obtain ⟨y,_,h⟩:=Option.map_eq_some_iff.1 h; cases h; exact ⟨rfl,List.forall_mem_nil _⟩)|(cases h; refine ⟨rfl,fun u hu=>?_⟩; simp only [List.mem_singleton] at hu; subst hu; refine ⟨?_,?h1,?h2⟩; (case h1=>dsimp only; assumption); (case h2=>rfl))
theorem lite_nil {op:AOp} {ev:AO→V} {bl:Nat→Option Blk} {c:Nat} {x:V} {ups:List (Nat×Blk)} {news:List Blk} {R:List Nat} (hl:lite op=true) (h:stepA op ev bl c=some (x,ups,news,R)):ups=[]∧news=[]:=by
 cases op <;> first|(cases hl; done)|skip
 all_goals simp only [stepA] at h
 all_goals (repeat' split at h)
 all_goals first|(cases h; done)|(cases h; exact ⟨rfl,rfl⟩)
theorem appU_vesz (bl:Nat→Option Blk) (ups:List (Nat×Blk)):(∀ u ∈ ups,∃ B,bl u.1=some B∧vesz u.2=vesz B)→∀ h:List Blk,(∀ b,(h[b]?).map vesz=(bl b).map vesz)→∀ b,((appU h ups)[b]?).map vesz=(bl b).map vesz:=by
 induction ups with
 | nil=>intro _ h hh b; exact hh b
 | cons u ups ih =>
  intro hu h hh b
  obtain ⟨c,k⟩:=u
  simp only [appU]
  refine ih (fun u hm=>hu u (List.mem_cons_of_mem _ hm)) _ (fun b=>?_) b
  by_cases hc:c=b
  ·subst hc
   obtain ⟨B,h1,h2⟩:=hu (c,k) (List.mem_cons_self ..)
   have hs:=hh c
   rw [h1] at hs ⊢
   cases hg:h[c]? with
   | none=>rw [hg] at hs; cases hs
   | some q=>rw [List.getElem?_set_self (List.getElem?_eq_some_iff.1 hg).1]; simp only [Option.map_some,h2]
  ·rw [List.getElem?_set_ne hc]; exact hh b
theorem StepT.vesz {P:Program} {o:AOper} {fr fr':Fr} {h h':List Blk} {R W:List Nat} (hc:calm o.op=true) (hS:StepT P o fr h fr' h' R W):∀ b:Nat,(h'[b]?).map vesz=(h[b]?).map vesz:=by
 cases hS with
 | pass=>intro b; rfl
 | run hg hE =>
  obtain ⟨W0,hE,_⟩:=hE
  generalize o.op=op at hc hE
  cases hE with
  | call=>cases hc
  | callc=>cases hc
  | inv=>cases hc
  | xcall=>cases hc
  | plain hn1 hn2 hp =>
   obtain ⟨ups,news,hst,rfl,rfl⟩:=hp
   obtain ⟨rfl,hu⟩:=calm_keeps hc hst
   rw [List.append_nil]
   exact appU_vesz _ ups hu h fun b=>rfl
theorem ExS.lite {P:Program} {op:AOp} {fr:Fr} {h h' hc:List Blk} {x:V} {R W:List Nat} (hl:lite op=true) (hE:ExS P op fr h x h' R W) (hv:∀ b:Nat,(hc[b]?).map vesz=(h[b]?).map vesz) (hlen:hc.length=h.length):ExS P op fr hc x hc R []∧W=[]∧∀ b ∈ R,b < hc.length:=by
 obtain ⟨W0,hE,hs⟩:=hE
 have hf:=hE.facts
 cases hE with
 | call=>cases hl
 | callc=>cases hl
 | inv=>cases hl
 | xcall=>cases hl
 | plain hn1 hn2 hp =>
  obtain ⟨ups,news,hst,rfl,rfl⟩:=hp
  obtain ⟨rfl,rfl⟩:=lite_nil hl hst
  have hW:W=[]:=by
   cases W with
   | nil=>rfl
   | cons b W=>exact absurd (hs.sub b (List.mem_cons_self ..)) (by simp [upto])
  subst hW
  refine ⟨⟨_,.plain hn1 hn2 ⟨[],[],?_,by simp [appU],rfl⟩,by simpa [upto] using Shr.refl⟩,rfl,fun b hb=>?_⟩
  ·rw [lite_step hl hv,hlen]; exact hst
  ·have:=hf.2.1 b (.inl hb)
   rw [hlen]; simpa [appU] using this
theorem prefix_ex {wr rd bef:Nat→Nat→Prop} {N:Nat} {S:Nat→Prop} (hconf:OConf wr rd bef N) (hcl:∀ j k,S j→bef j k→S k) (r:Nat):∀ M,M≤N→∃ j,j≤M∧∀ k,k < M→wr k r→(k < j↔S k):=by
 intro M
 induction M with
 | zero=>intro _; exact ⟨0,Nat.le_refl _,fun k hk=>absurd hk (Nat.not_lt_zero _)⟩
 | succ M ih =>
  intro hM
  by_cases hm:wr M r∧S M
  ·refine ⟨M+1,Nat.le_refl _,fun k hk hw=>⟨fun _=>?_,fun _=>hk⟩⟩
   by_cases hkM:k=M
   ·subst hkM; exact hm.2
   ·exact hcl M k hm.2 (hconf k M r (by omega) (by omega) (.inl ⟨hw,.inl hm.1⟩))
  ·obtain ⟨j,hj,h⟩:=ih (by omega)
   refine ⟨j,by omega,fun k hk hw=>?_⟩
   by_cases hkM:k=M
   ·subst hkM
    exact ⟨fun h=>absurd h (by omega),fun h=>absurd ⟨hw,h⟩ hm⟩
   ·exact h k (by omega) hw
def liteTr (aops:List AOper) (tr:List (List Nat×List Nat)):List (List Nat×List Nat) :=
 (List.range tr.length).map fun i=>if (match aops[i]? with|some ao=>lite ao.op|none=>false)=true then ([],(tr.getD i ([],[])).2) else tr.getD i ([],[])
def okD (B:List (List Nat)) (aops:List AOper) (tr:List (List Nat×List Nat)):Bool:=okTr B tr || (aops.all (fun o=>calm o.op) && okTr B (liteTr aops tr))
theorem dreg_sound {ops:Array Oper} {aops:List AOper} {B:List (List Nat)} {K:Fr→List Blk→Prop} {Q:Exit→Act→World→Prop} {fr:Fr} {h:List Blk} {a:Act} {w:World}
  (hm:compR P n ops=some aops) (hb:befGo ops.toList []=some B) (hsl:slotsOk B aops=true) (hQ:∀ fr h a w,K fr h→St X w0 ι0 n fr h a w→Q .normal a w)
  (hS:St X w0 ι0 n fr h a w) (hW:WOpsT P aops [] fr h fun tr fr' h'=>okD B aops tr=true∧K fr' h'):wpAny P .any ops Q ops.size (Array.replicate ops.size false) a w:=by
 obtain ⟨frs,hs,RW,e1,e2,hstep,hok,hK⟩:=hW.unroll
 rw [List.nil_append] at hok
 obtain ⟨lt,hlt,hok⟩:∃ lt:Nat→Bool,(∀ i,lt i=true→(∀ ao ∈ aops,calm ao.op=true)∧∀ ao,aops[i]?=some ao→lite ao.op=true)∧okTr B ((List.range aops.length).map fun i=>if lt i=true then ([],(RW i).2) else RW i)=true:=by
  unfold okD at hok
  cases h0:okTr B ((List.range aops.length).map RW) with
  | true=>exact ⟨fun _=>false,by simp,by simpa using h0⟩
  | false =>
   rw [h0,Bool.false_or,Bool.and_eq_true] at hok
   refine ⟨fun i=>match aops[i]? with|some ao=>lite ao.op|none=>false,fun i hi=>⟨fun ao hm=>by simpa using List.all_eq_true.1 hok.1 ao hm,fun ao ha=>by simpa [ha] using hi⟩,?_⟩
   refine Eq.trans (congrArg (okTr B) ?_) hok.2
   unfold liteTr
   rw [List.length_map,List.length_range]
   apply List.map_congr_left
   intro i hi
   rw [List.mem_range] at hi
   have e:((List.range aops.length).map RW).getD i ([],[])=RW i:=by
    rw [List.getD_eq_getElem?_getD,List.getElem?_map,List.getElem?_range hi]; rfl
   rw [e]
 have hRW2:∀ i,(if lt i=true then ([],(RW i).2) else RW i).2=(RW i).2:=fun i=>by split <;> rfl
 have hmg:=mapM_get _ _ hm
 have hN:aops.length=ops.size:=by rw [hmg.1,List.length_range]
 have hao:∀ (i:Nat) (o:Oper),ops[i]?=some o→∃ ao,compOne P ops n o=some ao∧aops[i]?=some ao:=by
  intro i o ho
  have hi:=(Array.getElem?_eq_some_iff.1 ho).1
  obtain ⟨y,h1,h2⟩:=hmg.2 i i (List.getElem?_range hi)
  rw [ho] at h1
  exact ⟨y,h1,h2⟩
 have hB:BefOk ops.toList B:=by simpa using befGo_ok _ [] [] B ⟨rfl,by simp,by simp⟩ hb
 have hto:∀ {i:Nat} {o:Oper},ops[i]?=some o→ops.toList[i]?=some o:=fun h=>by simpa using h
 have hcs:=slotsOk_spec hsl
 have hcb:OConf (fun j b=>b ∈ (RW j).2) (fun j b=>b ∈ (if lt j=true then ([],(RW j).2) else RW j).1) (fun j k=>k ∈ B.getD j []) aops.length:=by
  have:=okTr_spec hok
  simpa only [hRW2] using this
 have hlenstep:∀ j,j < aops.length→(hs j).length≤(hs (j+1)).length∧(∀ b,b ∈ (RW j).1∨b ∈ (RW j).2→b < (hs (j+1)).length)∧(∀ b,b ∉ (RW j).2→((hs (j+1))[b]?).getD dum=((hs j)[b]?).getD dum) ∧
   ∀ i,(¬ ∃ ao,aops[j]?=some ao∧ao.dst=some i)→lk (frs (j+1)) i=lk (frs j) i:=by
  intro j hj
  have hst:=hstep j _ (List.getElem?_eq_getElem hj)
  have hput:∀ (x:V) (i:Nat),(¬ ∃ ao,aops[j]?=some ao∧ao.dst=some i)→lk (put (frs j) aops[j].dst x) i=lk (frs j) i:=by
   intro x i hi
   cases hd:aops[j].dst with
   | none=>rfl
   | some d =>
    simp only [put,lk]
    rw [if_neg (fun e=>hi ⟨_,List.getElem?_eq_getElem hj,by rw [hd,e]⟩)]
  generalize hf:frs (j+1)=f1 at hst ⊢
  generalize hh:hs (j+1)=h1 at hst ⊢
  generalize hr:(RW j).1=R at hst ⊢
  generalize hw:(RW j).2=W at hst ⊢
  cases hst with
  | pass hg hb hne=>exact ⟨Nat.le_refl _,by simp,fun _ _=>rfl,hput _⟩
  | run hg hE=>exact ⟨hE.facts.1,hE.facts.2.1,hE.facts.2.2,hput _⟩
 have hmono:∀ d j,j+d≤aops.length→(hs j).length≤(hs (j+d)).length:=by
  intro d
  induction d with
  | zero=>intro j _; exact Nat.le_refl _
  | succ d ih=>intro j hj; exact Nat.le_trans (ih j (by omega)) (hlenstep (j+d) (by omega)).1
 have hL:∀ j,j≤aops.length→(hs j).length≤(hs aops.length).length:=fun j hj=>by
  have:=hmono (aops.length - j) j (by omega)
  rw [show j+(aops.length - j)=aops.length by omega] at this
  exact this
 let wrS:Nat→Nat→Prop:=fun j i=>∃ ao,aops[j]?=some ao∧ao.dst=some i
 let wrB:Nat→Nat→Prop:=fun j b=>b ∈ (RW j).2
 let txS:Nat→Nat→V:=fun j i=>lk (frs j) i
 let txB:Nat→Nat→Blk:=fun j b=>((hs j)[b]?).getD dum
 have main:∀ (fuel:Nat) (listed:Array Bool) (frc:Fr) (hc:List Blk) (a:Act) (w:World),listed.size=ops.size →
   (∀ (j:Nat) (o:Oper),ops[j]?=some o→listed.getD j false=true→∀ d ∈ dirs o,listed.getD d false=true) →
   OInv txS wrS aops.length (fun k=>listed.getD k false=true) (lk frc)→hc.length=(hs aops.length).length →
   OInv txB wrB aops.length (fun k=>listed.getD k false=true) (fun b=>(hc[b]?).getD dum) →
   St X w0 ι0 n frc hc a w→todo listed ops.size≤fuel→wpAny P .any ops Q fuel listed a w:=by
  intro fuel
  induction fuel with
  | zero =>
   intro listed frc hc a w hsz hcl hIS hlen hIB hS hfu
   have hall:∀ k,k < ops.size→listed.getD k false=true:=fun k hk=>todo_zero (by omega) hk hsz
   refine ⟨?_,?_⟩
   ·rw [List.eq_nil_iff_forall_not_mem]
    intro j hj
    obtain ⟨h1,o,ho,_⟩:=mem_ready.1 hj
    exact listed_flip h1 (hall j (Array.getElem?_eq_some_iff.1 ho).1)
   ·have e1:∀ i,lk frc i=lk (frs aops.length) i:=fun i=>hIS i _ (Nat.le_refl _) fun k hk _=>⟨fun _=>hall k (by omega),fun _=>hk⟩
    have e2:hc=hs aops.length:=by
     apply List.ext_getElem? 
     intro b
     have:=hIB b _ (Nat.le_refl _) fun k hk _=>⟨fun _=>hall k (by omega),fun _=>hk⟩
     by_cases hb:b < hc.length
     ·have hb':b < (hs aops.length).length:=by omega
      simp only [txB,List.getElem?_eq_getElem hb,List.getElem?_eq_getElem hb',Option.getD_some] at this ⊢
      rw [this]
     ·rw [List.getElem?_eq_none (by omega),List.getElem?_eq_none (by omega)]
    subst e2
    refine hQ _ _ _ _ hK ?_
    obtain ⟨⟨ι,H,hFr,hRf,hSl⟩,hn,hdef⟩:=hS
    exact ⟨⟨ι,H,hFr,hRf,fun i=>by rw [← e1]; exact hSl i⟩,hn,hdef⟩
  | succ fuel ih =>
   intro listed frc hc a w hsz hcl hIS hlen hIB hS hfu
   have hclB:∀ j k,listed.getD j false=true→k ∈ B.getD j []→listed.getD k false=true:=by
    intro j k hj hk
    have hjl:j < listed.size:=by
     rcases Nat.lt_or_ge j listed.size with h'|h'
     ·exact h'
     ·simp [Array.getElem?_eq_none h'] at hj
    have ho:=Array.getElem?_eq_getElem (xs:=ops) (show j < ops.size by omega)
    exact hB.closed (S:=fun k=>listed.getD k false=true) (fun j o ho hj=>hcl j o (by simpa using ho) hj) j _ (hto ho) (hcl j _ ho hj) k hk
   refine ⟨fun hr=>?_,fun i hi=>?_⟩
   ·-- nothing is ready: all has run
    have hall:∀ k,k < ops.size→listed.getD k false=true:=by
     intro k
     induction k using Nat.strongRecOn with
     | _ k ihk =>
      intro hk
      cases hlk:listed.getD k false with
      | true=>rfl
      | false =>
       exfalso
       have ho:=Array.getElem?_eq_getElem (xs:=ops) hk
       have:k ∈ Region.ready .any ops listed:=by
        refine mem_ready.2 ⟨?_,_,ho,fun e he hbd=>?_⟩
        ·have hlt:k < listed.size:=by omega
         simp [hlt] at hlk ⊢; exact hlk
        ·have hd:e.on ∈ dirs ops[k]:=List.mem_map.2 ⟨e,List.mem_filter.2 ⟨by simpa using he,hbd⟩,rfl⟩
         have:=hB.low k _ (hto ho) _ hd
         exact ihk _ this (by omega)
       rw [hr] at this; cases this
    have e1:∀ i,lk frc i=lk (frs aops.length) i:=fun i=>hIS i _ (Nat.le_refl _) fun k hk _=>⟨fun _=>hall k (by omega),fun _=>hk⟩
    have e2:hc=hs aops.length:=by
     apply List.ext_getElem? 
     intro b
     have:=hIB b _ (Nat.le_refl _) fun k hk _=>⟨fun _=>hall k (by omega),fun _=>hk⟩
     by_cases hb:b < hc.length
     ·have hb':b < (hs aops.length).length:=by omega
      simp only [txB,List.getElem?_eq_getElem hb,List.getElem?_eq_getElem hb',Option.getD_some] at this ⊢
      rw [this]
     ·rw [List.getElem?_eq_none (by omega),List.getElem?_eq_none (by omega)]
    subst e2
    refine hQ _ _ _ _ hK ?_
    obtain ⟨⟨ι,H,hFr,hRf,hSl⟩,hn,hdef⟩:=hS
    exact ⟨⟨ι,H,hFr,hRf,fun i=>by rw [← e1]; exact hSl i⟩,hn,hdef⟩
   ·obtain ⟨hun,o,ho,hpre⟩:=mem_ready.1 hi
    have hiN:i < ops.size:=(Array.getElem?_eq_some_iff.1 ho).1
    obtain ⟨ao,hco,hai⟩:=hao i o ho
    obtain ⟨hc1,hd1,hdn,hg1⟩:=compOne_parts hco
    have hni:¬ listed.getD i false=true:=listed_flip hun
    have hdir:∀ d ∈ dirs o,listed.getD d false=true:=by
     intro d hd
     obtain ⟨e,he,rfl⟩:=List.mem_map.1 hd
     obtain ⟨he1,he2⟩:=List.mem_filter.1 he
     exact hpre e (by simpa using he1) he2
    have hpreB:∀ k,k ∈ B.getD i []→listed.getD k false=true:=fun k hk =>
     hB.closed (S:=fun k=>listed.getD k false=true) (fun j o ho hj=>hcl j o (by simpa using ho) hj) i o (hto ho) hdir k hk
    have hiA:i < aops.length:=by omega
    have atS:∀ r,r ∈ readsOf ao→lk frc r=lk (frs i) r:=fun r hr=>hIS.at hcs hclB hiA hni hpreB (.inr ⟨ao,hai,hr⟩)
    have atB:lt i=false→∀ b,b ∈ (RW i).1∨b ∈ (RW i).2→hc[b]?=some (((hs i)[b]?).getD dum):=by
     intro hli b hb'
     have h1:(hc[b]?).getD dum=((hs i)[b]?).getD dum:=hIB.at hcb hclB hiA hni hpreB (by rw [hli]; rcases hb' with hb'|hb'; exact .inr hb'; exact .inl hb')
     have h2:b < hc.length:=by
      have:=(hlenstep i hiA).2.1 b hb'
      have:=hL (i+1) (by omega)
      omega
     rw [← h1,List.getElem?_eq_getElem h2]; rfl
    -- what follows
    have after:∀ (x:V) (hc':List Blk) (a':Act) (w':World),frs (i+1)=put (frs i) ao.dst x→hc'.length=hc.length→(∀ b ∈ (RW i).2,hc'[b]?=(hs (i+1))[b]?)→(∀ b,b ∉ (RW i).2→hc'[b]?=hc[b]?) →
      St X w0 ι0 n (put frc ao.dst x) hc' a' w'→wpAny P .any ops Q fuel (listed.setIfInBounds i true) a' w':=by
     intro x hc' a' w' hfr hl' hin hout hS'
     have hset:∀ k,(listed.setIfInBounds i true).getD k false=true↔(listed.getD k false=true∨k=i):=by
      intro k
      by_cases hk:i=k
      ·subst hk
       have:(listed.setIfInBounds i true).getD i false=true:=by
        have:i < listed.size:=by omega
        simp [this]
       simp [this]
      ·rw [getD_set_ne false hk]
       constructor
       ·exact .inl
       ·rintro (h|h)
        ·exact h
        ·exact absurd h.symm hk
     refine ih _ (put frc ao.dst x) hc' a' w' (by simpa using hsz) ?_ ?_ (by omega) ?_ hS' ?_
     ·intro j oj hoj hj d hd
      rw [hset] at hj
      rw [hset]
      rcases hj with hj|rfl
      ·exact .inl (hcl j oj hoj hj d hd)
      ·rw [ho] at hoj; cases hoj; exact .inl (hdir d hd)
     ·have:=hIS.step (st':=lk (put frc ao.dst x)) hcs (fun j r hj hw=>(hlenstep j hj).2.2.2 r hw) hclB hiA hni (fun r=>⟨fun hw=>?_,fun hw=>?_⟩)
      ·intro r j hj hw
       exact this r j hj fun k hk hwk=>(hw k hk hwk).trans (hset k)
      ·obtain ⟨ao',h1,h2⟩:=hw
       rw [hai] at h1; cases h1
       simp only [txS,hfr,h2,put,lk,if_true]
      ·cases hd:ao.dst with
       | none=>rfl
       | some d =>
        simp only [put,lk]
        rw [if_neg (fun e=>hw ⟨ao,hai,by rw [hd,e]⟩)]
     ·have:=hIB.step (st':=fun b=>(hc'[b]?).getD dum) hcb (fun j r hj hw=>(hlenstep j hj).2.2.1 r hw) hclB hiA hni (fun r=>⟨fun hw=>?_,fun hw=>?_⟩)
      ·intro r j hj hw
       exact this r j hj fun k hk hwk=>(hw k hk hwk).trans (hset k)
      ·simp only [txB]; rw [hin r hw]
      ·rw [hout r hw]
     ·have:=todo_set hiN hsz hun
      omega
    have hst:=hstep i ao hai
    -- where only versions are read
    have hver:lt i=true→hc.length=(hs i).length∧∀ b:Nat,(hc[b]?).map vesz=((hs i)[b]?).map vesz:=by
     intro hli
     have hcalm:=(hlt i hli).1
     have hsh:∀ j,j≤aops.length→∀ b:Nat,((hs j)[b]?).map vesz=((hs 0)[b]?).map vesz:=by
      intro j
      induction j with
      | zero=>intro _ b; rfl
      | succ j ihj =>
       intro hj b
       have hao':=List.getElem?_eq_getElem (l:=aops) (show j < aops.length by omega)
       rw [(hstep j _ hao').vesz (hcalm _ (List.getElem_mem _)) b]
       exact ihj (by omega) b
     have hln:∀ j,j≤aops.length→(hs j).length=(hs 0).length:=by
      intro j hj
      have key:∀ b,b < (hs j).length↔b < (hs 0).length:=fun b=>by
       have:=hsh j hj b
       constructor
       ·intro hb
        rw [List.getElem?_eq_getElem hb] at this
        cases h0:(hs 0)[b]? with
        | none=>rw [h0] at this; cases this
        | some _=>exact (List.getElem?_eq_some_iff.1 h0).1
       ·intro hb
        rw [List.getElem?_eq_getElem hb] at this
        cases h0:(hs j)[b]? with
        | none=>rw [h0] at this; cases this
        | some _=>exact (List.getElem?_eq_some_iff.1 h0).1
      rcases Nat.lt_trichotomy (hs j).length (hs 0).length with h|h|h
      ·exact absurd ((key _).2 h) (Nat.lt_irrefl _)
      ·exact h
      ·exact absurd ((key _).1 h) (Nat.lt_irrefl _)
     have hl1:hc.length=(hs i).length:=by rw [hlen,hln _ (Nat.le_refl _),hln i (by omega)]
     refine ⟨hl1,fun b=>?_⟩
     obtain ⟨j,hj,hp⟩:=prefix_ex (S:=fun k=>listed.getD k false=true) hcb hclB b aops.length (Nat.le_refl _)
     have e:(hc[b]?).getD dum=((hs j)[b]?).getD dum:=hIB b j hj hp
     rw [hsh i (by omega) b,← hsh j hj b]
     by_cases hb:b < hc.length
     ·have hb2:b < (hs j).length:=by rw [hln j hj,← hln i (by omega),← hl1]; exact hb
      rw [List.getElem?_eq_getElem hb,List.getElem?_eq_getElem hb2] at e ⊢
      simp only [Option.getD_some] at e
      rw [e]
     ·have hb2:¬ b < (hs j).length:=by rw [hln j hj,← hln i (by omega),← hl1]; exact hb
      rw [List.getElem?_eq_none (by omega),List.getElem?_eq_none (by omega)]
    have hlite:lt i=true→lite ao.op=true:=fun hli=>(hlt i hli).2 ao hai
    unfold wpOp
    rw [ho]
    dsimp only
    generalize hf:frs (i+1)=f1 at hst after
    generalize hh:hs (i+1)=h1 at hst after
    generalize hr:(RW i).1=R at hst after atB
    generalize hw:(RW i).2=W at hst after atB
    cases hst with
    | @pass g want v hg hb hne =>
     have hbc:lk frc g=.c v:=by rw [atS g (by simp [readsOf,hg])]; exact hb
     have hval:=guard_any hS hbc hne
     have hnw:Region.wanted o (yielded ops a.tmps)=false:=by
      rcases hg1 with ⟨_,hg2⟩|⟨j,b',g',hg2,hg3,hg4⟩
      ·rw [hg] at hg2; cases hg2
      ·rw [hg] at hg4; cases hg4
       simp only [Region.wanted,hg2,yielded,hg3,Option.bind_some]
       cases hz:a.tmps[g]? with
       | none=>rfl
       | some z =>
        rw [hz] at hval
        cases z with
        | bool b=>simp at hval; cases b <;> cases want <;> simp_all
        | _=>rfl
     rw [hnw]
     simp only [Bool.false_eq_true,if_false]
     exact after (.c undef) hc _ _ rfl rfl (by simp) (fun _ _=>rfl) (by rw [hd1]; exact hS.skip o.dst undef hdn)
    | @run x h' R W hg hE =>
     have hwn:Region.wanted o (yielded ops a.tmps)=true:=by
      rcases hg1 with ⟨hg2,hg3⟩|⟨j,b',g',hg2,hg3,hg4⟩
      ·simp [Region.wanted,hg2]
      ·rcases hg with hg|⟨g,want,hg,hb⟩
       ·rw [hg] at hg4; cases hg4
       ·rw [hg] at hg4; cases hg4
        have hval:=guard_val hS ((atS _ (by simp [readsOf,hg])).trans hb)
        simp [Region.wanted,hg2,yielded,hg3,hval]
     rw [hwn]
     simp only [if_true]
     cases hli:lt i with
     | false =>
      refine .inl (op_atS (hc1 hE.ne_bad) hS hdn hE (fun r hr=>atS r (by simp [readsOf,hr])) (atB hli) fun H' a' w' h1 h2 h3 h4=>?_)
      rw [← hd1] at h4
      exact after x H' a' w' rfl h1 h2 h3 h4
     | true =>
      obtain ⟨g1,g2⟩:=hver hli
      obtain ⟨hE2,rfl,hRl⟩:=hE.lite (hlite hli) g2 g1
      refine .inl (op_atS (hc1 hE.ne_bad) hS hdn hE2 (fun r hr=>atS r (by simp [readsOf,hr])) (fun b hb=>?_) fun H' a' w' h1 h2 h3 h4=>?_)
      ·have hb:b ∈ R:=by simpa using hb
       rw [List.getElem?_eq_getElem (hRl b hb)]; rfl
      ·rw [← hd1] at h4
       exact after x H' a' w' rfl h1 (by simp) (fun b hb=>h3 b (by simp)) h4
 -- the start
 obtain ⟨⟨ι,H,hFr,hRf,hSl⟩,hn,hdef⟩:=hS
 have h0:(hs 0).length≤(hs aops.length).length:=hL 0 (Nat.zero_le _)
 obtain ⟨ι1,H1,hR1,hO1⟩:=H.dums ((hs aops.length).length - (hs 0).length)
 have hF1:Frm w (Own ι) w (Own ι1):=⟨Nat.le_refl _,fun _ _ _=>rfl,fun r hr=>.inl (hO1 r hr),rfl,rfl,rfl⟩
 have hnone:∀ k,¬ (Array.replicate ops.size false).getD k false=true:=by
  intro k hk
  rw [Array.getD_eq_getD_getElem?,Array.getElem?_replicate] at hk
  split at hk <;> simp at hk
 refine main _ _ fr (h ++ List.replicate ((hs aops.length).length - (hs 0).length) dum) a w (by simp) (fun j o _ hj=>absurd hj (hnone j)) ?_ ?_ ?_ ⟨⟨ι1,H1,hFr.trans hF1,hRf.trans hR1,hSl.mono hF1 hR1⟩,hn,hdef⟩ ?_
 ·intro r j hj hw
  have key:∀ j,j≤aops.length→(∀ k,k < aops.length→wrS k r→(k < j↔(Array.replicate ops.size false).getD k false=true))→lk fr r=lk (frs j) r:=by
   intro j
   induction j with
   | zero=>intro _ _; rw [e1]
   | succ j ihj =>
    intro hj hw
    rw [(hlenstep j (by omega)).2.2.2 r (fun hwr=>hnone j ((hw j (by omega) hwr).1 (by omega)))]
    refine ihj (by omega) fun k hk hwk=>⟨fun hlt=>(hw k hk hwk).1 (by omega),fun hh=>absurd hh (hnone k)⟩
  exact key j hj hw
 ·rw [List.length_append,List.length_replicate,← e2]; omega
 ·intro r j hj hw
  have key:∀ j,j≤aops.length→(∀ k,k < aops.length→wrB k r→(k < j↔(Array.replicate ops.size false).getD k false=true))→((h ++ List.replicate ((hs aops.length).length - (hs 0).length) dum)[r]?).getD dum=((hs j)[r]?).getD dum:=by
   intro j
   induction j with
   | zero =>
    intro _ _
    rw [e2]
    by_cases hr:r < h.length
    ·rw [List.getElem?_append_left hr]
    ·rw [List.getElem?_append_right (by omega),List.getElem?_eq_none (l:=h) (by omega),List.getElem?_replicate]
     split <;> rfl
   | succ j ihj =>
    intro hj hw
    rw [(hlenstep j (by omega)).2.2.1 r (fun hwr=>hnone j ((hw j (by omega) hwr).1 (by omega)))]
    refine ihj (by omega) fun k hk hwk=>⟨fun hlt=>(hw k hk hwk).1 (by omega),fun hh=>absurd hh (hnone k)⟩
  exact key j hj hw
 ·unfold todo
  exact Nat.le_trans (List.length_filter_le _ _) (by simp)
end
end Go.Proofs.Ytdbbnlafkndcnaa.Calc
