/- The calculus, part 28: rules for structs that are compared, texts, methods of interfaces and closures; blocks of plain cells. No condition beyond those in each lemma. -/
import Derived.Test.YtjmmompbmjhkpaaCalcQ
namespace Go.Proofs.Ytjmmompbmjhkpaa.Calc
open Go
set_option linter.unusedSimpArgs false
theorem pasB_bytes {ids : List Nat} {v e : Nat} {m : List Int} : pasB ids ⟨v, e, bcells m⟩ = ⟨v, e, bcells m⟩ := by simp [pasB, bcells_pas]
theorem pasB_ints {ids : List Nat} {v e : Nat} {m : List Int} : pasB ids ⟨v, e, cells m⟩ = ⟨v, e, cells m⟩ := by simp [pasB, cells_pas]
theorem renB_bytes {ids : List Nat} {v e : Nat} {m : List Int} : renB ids ⟨v, e, bcells m⟩ = ⟨v, e, bcells m⟩ := by simp [renB, bcells_ren]
theorem renB_ints {ids : List Nat} {v e : Nat} {m : List Int} : renB ids ⟨v, e, cells m⟩ = ⟨v, e, cells m⟩ := by simp [renB, cells_ren]
theorem outB_bytes {h : List Blk} {ids : List Nat} {n v e : Nat} {m : List Int} : outB h ids n ⟨v, e, bcells m⟩ = ⟨v, e, bcells m⟩ := by simp [outB, bcells_out]
theorem outB_ints {h : List Blk} {ids : List Nat} {n v e : Nat} {m : List Int} : outB h ids n ⟨v, e, cells m⟩ = ⟨v, e, cells m⟩ := by simp [outB, cells_out]
theorem outH2 {h : List Blk} {a b n : Nat} {X Y : Blk} (h1 : outB h [a, b] n (h.getD a default) = X) (h2 : outB h [a, b] n (h.getD b default) = Y) : outH h [a, b] n = [X, Y] := by simp only [outH, List.map, h1, h2]
theorem outH1 {h : List Blk} {a n : Nat} {X : Blk} (h1 : outB h [a] n (h.getD a default) = X) : outH h [a] n = [X] := by simp only [outH, List.map, h1]
theorem consE {α : Type} {a b : α} {l m : List α} (h1 : a = b) (h2 : l = m) : a :: l = b :: m := by rw [h1, h2]
theorem pasH_nil {h : List Blk} : pasH h [] = [] := rfl
section
variable {P : Program} {rest : List AOper} {tr : Tr} {fr : Fr} {h : List Blk} {K : KT} {d : Option Nat} {k : Nat} {st : List KF} {Q : Exit → Fr → List Blk → Prop}
/-- A test whose answer is not known. -/
theorem N.condU {x : AO} {a b : AC} (hx : x.ev (lk fr) = .bit) (hA : AK P k a st Q fr h) (hB : AK P k b st Q fr h) : AK P k (.cond x a b) st Q fr h := by
  unfold AK at hA hB ⊢
  simp only [AW, hx, boolOf]
  exact ⟨trivial, hA, hB⟩
theorem T.eqnU {ne : Bool} {x : AO} {e : Nat} (hx : x.ev (lk fr) = .sl e []) (hK : WOpsT P rest (tr ++ [([], [])]) (put fr d .bit) h K) : WOpsT P (⟨d, .eqn ne x, none⟩ :: rest) tr fr h K :=
  T.pure nofun nofun (by simp [stepA, hx]) hK
theorem T.eqs {ks : List CK} {ne : Bool} {x y : AO} {us vs : List Value} {b : Bool} (hx : plainA (x.ev (lk fr)) = some us) (hy : plainA (y.ev (lk fr)) = some vs) (hb : eqLv ks us vs = some b)
    (hK : WOpsT P rest (tr ++ [([], [])]) (put fr d (.c (.bool (xor ne b)))) h K) : WOpsT P (⟨d, .eqs ks ne x y, none⟩ :: rest) tr fr h K :=
  T.pure nofun nofun (by simp only [stepA, hx, hy, hb, pureS]; rfl) hK
theorem T.i2s {x : AO} {k : IntKind} {n : Int} (hx : x.ev (lk fr) = .c (.int k n)) (hK : WOpsT P rest (tr ++ [([], [])]) (put fr d (.c (.string (Utf8.encode n)))) h K) : WOpsT P (⟨d, .i2s x, none⟩ :: rest) tr fr h K :=
  T.pure nofun nofun (by simp only [stepA, hx, pureS]; rfl) hK
theorem T.s2b {x : AO} {s : ByteArray} (hx : x.ev (lk fr) = .c (.string s)) (hK : WOpsT P rest (tr ++ [([], [h.length])]) (put fr d (.psl h.length 1 0 s.size)) (h ++ [⟨1, 1, bcells (s.data.toList.map fun b => (b.toNat : Int))⟩]) K) : WOpsT P (⟨d, .s2b x, none⟩ :: rest) tr fr h K :=
  T.make nofun nofun (by simp only [stepA, hx, bcells, List.map_map]; rfl) hK
theorem T.slcs {x : AO} {lo hi : Option AO} {s : ByteArray} {l m : Int} (hx : x.ev (lk fr) = .c (.string s)) (hl : ((lo.map fun l => ofInt (AO.ev (lk fr) l)).getD (some 0)) = some l) (hm : ((hi.map fun l => ofInt (AO.ev (lk fr) l)).getD (some (s.size : Int))) = some m)
    (hn : 0 ≤ l ∧ l ≤ m ∧ m ≤ s.size) (hK : WOpsT P rest (tr ++ [([], [])]) (put fr d (.c (.string (s.extract l.toNat m.toNat)))) h K) : WOpsT P (⟨d, .slcs x lo hi, none⟩ :: rest) tr fr h K :=
  T.pure nofun nofun (by simp only [stepA, hx, hl, hm, pureS]; rw [if_pos hn]; rfl) hK
theorem T.ixs {x i : AO} {s : ByteArray} {k : IntKind} {j : Int} {b : UInt8} (hx : x.ev (lk fr) = .c (.string s)) (hi : i.ev (lk fr) = .c (.int k j)) (hj : 0 ≤ j) (hb : s[j.toNat]? = some b)
    (hK : WOpsT P rest (tr ++ [([], [])]) (put fr d (.c (.int .u8 b.toNat))) h K) : WOpsT P (⟨d, .ixs x i, none⟩ :: rest) tr fr h K :=
  T.pure nofun nofun (by simp only [stepA, hx, hi, ofInt, pureS]; rw [if_pos hj, hb]; rfl) hK
theorem T.lens {x : AO} {s : ByteArray} (hx : x.ev (lk fr) = .c (.string s)) (hK : WOpsT P rest (tr ++ [([], [])]) (put fr d (I s.size)) h K) : WOpsT P (⟨d, .lens x, none⟩ :: rest) tr fr h K :=
  T.pure nofun nofun (by simp only [stepA, hx, pureS]; rfl) hK
theorem T.clr {z : List Value} {x : AO} {b ver off len : Nat} {B : Blk} (hx : x.ev (lk fr) = .psl b ver off len) (hb : h[b]? = some B) (hB : B.ver = ver ∧ B.esz = z.length)
    (hK : WOpsT P rest (tr ++ [([b], [b])]) (put fr d (.tup [])) (h.set b { B with rows := B.rows.take off ++ List.replicate len (z.map .c) ++ B.rows.drop (off + len) }) K) : WOpsT P (⟨d, .clr z x, none⟩ :: rest) tr fr h K :=
  T.turn nofun nofun (by simp only [stepA, hx, hb]; rw [if_pos hB]) hK
theorem T.xcall {f : FuncId} {args : List AO} {vs : List V} {r : V} (hv : args.map (AO.ev (lk fr)) = vs) (hF : ExtE P f vs r) (hK : WOpsT P rest (tr ++ [([], [])]) (put fr d r) h K) : WOpsT P (⟨d, .xcall f args, none⟩ :: rest) tr fr h K := by
  subst hv
  exact ⟨r, hF, hK⟩
theorem T.capN {x : AO} (hx : x.ev (lk fr) = .c (.slice none 0 0)) (hK : WOpsT P rest (tr ++ [([], [])]) (put fr d (I 0)) h K) : WOpsT P (⟨d, .capx x, none⟩ :: rest) tr fr h K :=
  T.pure nofun nofun (by simp only [stepA, hx]) hK
theorem T.slcN {e : Nat} {x : AO} {lo hi : Option AO} (hx : x.ev (lk fr) = .c (.slice none 0 0)) (hl : ((lo.map fun l => ofInt (AO.ev (lk fr) l)).getD (some 0)) = some 0) (hm : ((hi.map fun l => ofInt (AO.ev (lk fr) l)).getD (some 0)) = some 0)
    (hK : WOpsT P rest (tr ++ [([], [])]) (put fr d (.c (.slice none 0 0))) h K) : WOpsT P (⟨d, .slc e x lo hi, none⟩ :: rest) tr fr h K :=
  T.pure nofun nofun (by simp only [stepA, hx, hl, hm]; rfl) hK
theorem T.nilcf {x : AO} {f : FuncId} {cs : List V} (hx : x.ev (lk fr) = .fn f cs) (hK : WOpsT P rest (tr ++ [([], [])]) (put fr d (.fn f cs)) h K) : WOpsT P (⟨d, .nilc x, none⟩ :: rest) tr fr h K :=
  T.pure nofun nofun (by simp only [stepA, hx]) hK
theorem T.nilci {x : AO} {t : TypeId} {v : V} (hx : x.ev (lk fr) = .ifc t v) (hK : WOpsT P rest (tr ++ [([], [])]) (put fr d (.ifc t v)) h K) : WOpsT P (⟨d, .nilc x, none⟩ :: rest) tr fr h K :=
  T.pure nofun nofun (by simp only [stepA, hx]) hK

/-- A number is appended. -/
theorem T.appI {bytes : Nat} {s x : AO} {b ver len : Nat} {xs : List Int} {v : Int} (hs : s.ev (lk fr) = .psl b ver 0 len) (hb : h[b]? = some ⟨ver, 1, cells xs⟩) (hx : srcOf (fun b => h[b]?) 1 (x.ev (lk fr)) = some (1, [[I v]])) (hl : len = xs.length)
    (hn : 0 < bytes ∧ bytes * (len + 1 + (len + 1) / 4 + 1024) ≤ 2 ^ 48)
    (hK : WOpsT P rest (tr ++ [(b :: vlook (x.ev (lk fr)), [b])]) (put fr d (.psl b (ver + 1) 0 (len + 1))) (h.set b ⟨ver + 1, 1, cells (xs ++ [v])⟩) K) : WOpsT P (⟨d, .app 1 bytes s x, none⟩ :: rest) tr fr h K :=
  T.app hs hb hx ⟨by decide, hn.1⟩ ⟨rfl, rfl, by simp [cells_len, hl], hn.2⟩ (by
    have e : (cells xs).drop 0 ++ [[I v]] = cells (xs ++ [v]) := by simp [cells]
    rw [show ([[I v]] : List (List V)).length = 1 from rfl, e]; exact hK)
/-- A byte is appended. -/
theorem T.appB {bytes : Nat} {s x : AO} {b ver len : Nat} {xs : List Int} {v : Int} (hs : s.ev (lk fr) = .psl b ver 0 len) (hb : h[b]? = some ⟨ver, 1, bcells xs⟩) (hx : srcOf (fun b => h[b]?) 1 (x.ev (lk fr)) = some (1, [[.c (.int .u8 v)]])) (hl : len = xs.length)
    (hn : 0 < bytes ∧ bytes * (len + 1 + (len + 1) / 4 + 1024) ≤ 2 ^ 48)
    (hK : WOpsT P rest (tr ++ [(b :: vlook (x.ev (lk fr)), [b])]) (put fr d (.psl b (ver + 1) 0 (len + 1))) (h.set b ⟨ver + 1, 1, bcells (xs ++ [v])⟩) K) : WOpsT P (⟨d, .app 1 bytes s x, none⟩ :: rest) tr fr h K :=
  T.app hs hb hx ⟨by decide, hn.1⟩ ⟨rfl, rfl, by simp [bcells_len, hl], hn.2⟩ (by
    have e : (bcells xs).drop 0 ++ [[V.c (.int .u8 v)]] = bcells (xs ++ [v]) := by simp [bcells]
    rw [show ([[V.c (.int .u8 v)]] : List (List V)).length = 1 from rfl, e]; exact hK)
/-- A nil slice is said to lie in an empty block of one's own. -/
theorem Weaks.nilAs (i e : Nat) {fr2 : Fr} {h2 : List Blk} (he : 0 < e) (hi : lk fr i = .c (.slice none 0 0)) (hr : Weaks k ((i, .psl h.length 1 0 0) :: fr) (h ++ [⟨1, e, []⟩]) fr2 h2) : Weaks k fr h fr2 h2 :=
  .virt e he (fun j => by
    simp only [lk]
    by_cases hj : i = j
    · subst hj; rw [if_pos rfl]; exact .inr ⟨hi, rfl⟩
    · rw [if_neg hj]; exact .inl rfl) hr
/-! ### Calls of what is not named: methods of interfaces, closures -/
/-- A call, and what comes behind it. -/
def WCall (P : Program) (f : FuncId) (vs : List V) (rest : List AOper) (tr : Tr) (fr : Fr) (h : List Blk) (K : KT) (d : Option Nat) : Prop :=
  CallOkT P f vs h fun R W x h' => WOpsT P rest (tr ++ [(R, W)]) (put fr d x) h' K
theorem T.ofInv {tab : List (TypeId × FuncId)} {x : AO} {args : List AO} {f : FuncId} {v : V} (hx : invOf tab (x.ev (lk fr)) = some (f, v)) (hW : WCall P f (v :: args.map (AO.ev (lk fr))) rest tr fr h K d) : WOpsT P (⟨d, .inv tab x args, none⟩ :: rest) tr fr h K := by
  simp only [WOpsT, WOpT, hx]
  exact hW
theorem T.ofFn {x : AO} {args : List AO} {f : FuncId} {caps : List V} (hx : x.ev (lk fr) = .fn f caps) (hW : WCall P f (args.map (AO.ev (lk fr)) ++ caps) rest tr fr h K d) : WOpsT P (⟨d, .callc x args, none⟩ :: rest) tr fr h K := by
  simp only [WOpsT, WOpT, hx]
  exact hW
theorem T.ofCall {args : List AO} {f : FuncId} (hW : WCall P f (args.map (AO.ev (lk fr))) rest tr fr h K d) : WOpsT P (⟨d, .call f args, none⟩ :: rest) tr fr h K := by
  simp only [WOpsT, WOpT]
  exact hW
theorem C.zero {f : FuncId} {vs us : List V} {r : V} (he : enters P f = true) (hv : vs.map (pas []) = us) (hF : FnE P f us [] r [])
    (hK : WOpsT P rest (tr ++ [([], [])]) (put fr d (ren [] r)) h K) : WCall P f vs rest tr fr h K d := by
  subst hv
  refine ⟨[], 0, r, [], [], by simp, by simp, rfl, by simp, he, hF, .refl, ?_⟩
  simp only [upto, List.append_nil, List.replicate, back_nil]
  exact hK
theorem C.pass (perm : List Nat) {f : FuncId} {vs us : List V} {r : V} {hin hout : List Blk} (he : enters P f = true) (hv : vs.map (pas perm) = us) (hF : FnE P f us hin r hout)
    (hH : pasH h perm = hin) (hp : permOk h.length perm = true) (hl : (hout.length == perm.length + (hout.drop perm.length).length) = true) (hver : ((hout.drop perm.length).all fun k => Nat.blt 0 k.ver) = true)
    (hK : WOpsT P rest (tr ++ [(perm, perm ++ upto h.length (hout.drop perm.length).length)]) (put fr d (ren (perm ++ upto h.length (hout.drop perm.length).length) r)) (setAll h perm ((hout.take perm.length).map (renB (perm ++ upto h.length (hout.drop perm.length).length))) ++ (hout.drop perm.length).map (renB (perm ++ upto h.length (hout.drop perm.length).length))) K) :
    WCall P f vs rest tr fr h K d := by
  obtain ⟨h1, h2⟩ := permOk_ok hp
  subst hH; subst hv
  have hl' : hout.length = perm.length + (hout.drop perm.length).length := by simpa using hl
  refine ⟨perm, (hout.drop perm.length).length, r, hout, _, h1, h2, hl', fun k hk => ?_, he, hF, .refl, ?_⟩
  · rw [List.all_eq_true] at hver
    have := hver k hk; simpa using this
  · rw [back_all h perm hout _ h1 h2 hl' _ rfl]
    exact hK
theorem C.read (perm : List Nat) {f : FuncId} {vs us : List V} {r : V} {hin hout : List Blk} (he : enters P f = true) (hv : vs.map (pas perm) = us) (hF : FnE P f us hin r hout)
    (hH : pasH h perm = hin) (hp : permOk h.length perm = true) (hl : (hout.length == perm.length + (hout.drop perm.length).length) = true) (hver : ((hout.drop perm.length).all fun k => Nat.blt 0 k.ver) = true)
    (hS : (hout.take perm.length).map (renB (perm ++ upto h.length (hout.drop perm.length).length)) = perm.map fun b => h.getD b default)
    (hK : WOpsT P rest (tr ++ [(perm, upto h.length (hout.drop perm.length).length)]) (put fr d (ren (perm ++ upto h.length (hout.drop perm.length).length) r)) (h ++ (hout.drop perm.length).map (renB (perm ++ upto h.length (hout.drop perm.length).length))) K) :
    WCall P f vs rest tr fr h K d := by
  obtain ⟨h1, h2⟩ := permOk_ok hp
  subst hH; subst hv
  have hl' : hout.length = perm.length + (hout.drop perm.length).length := by simpa using hl
  have hb := back_all h perm hout _ h1 h2 hl' _ rfl
  rw [hS, setAll_self h perm h1 h2] at hb
  refine ⟨perm, (hout.drop perm.length).length, r, hout, upto h.length (hout.drop perm.length).length, h1, h2, hl', fun k hk => ?_, he, hF, ⟨fun b hb => List.mem_append_right _ hb, fun b hm hn => ?_⟩, ?_⟩
  · rw [List.all_eq_true] at hver
    have := hver k hk; simpa using this
  · have hbp : b ∈ perm := by
      rcases List.mem_append.1 hm with h | h
      · exact h
      · exact absurd h hn
    refine ⟨hbp, h2 b hbp, ?_⟩
    rw [hb, List.getElem?_append_left (h2 b hbp)]
  · rw [hb]; exact hK
end
end Go.Proofs.Ytjmmompbmjhkpaa.Calc
