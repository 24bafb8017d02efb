/- The calculus, part 24: rules that take one operation of a region at a time, for proofs that go through a function's code. No condition beyond those in each lemma. -/
import Derived.Test.YtjmmompbmjhkpaaCalcJ
namespace Go.Proofs.Ytjmmompbmjhkpaa.Calc
open Go
set_option linter.unusedSimpArgs false

abbrev I (n : Int) : V := .c (.int .i64 n)
abbrev Tr := List (List Nat × List Nat)
abbrev KT := Tr → Fr → List Blk → Prop

section
variable {P : Program} {rest : List AOper} {tr : Tr} {fr : Fr} {h : List Blk} {K : KT} {d : Option Nat}

theorem WOps.ofT : ∀ (ops : List AOper) (tr : Tr) (fr : Fr) (h : List Blk) (K : Fr → List Blk → Prop), WOpsT P ops tr fr h (fun _ fr' h' => K fr' h') → WOps P ops fr h K := by
  intro ops
  induction ops with
  | nil => intro tr fr h K hW; exact hW
  | cons o ops ih =>
    intro tr fr h K hW
    have one : ∀ {tr' : List Nat → List Nat → Tr}, WOpT P o.op fr h (fun R W x h' => WOpsT P ops (tr' R W) (put fr o.dst x) h' fun _ fr' h' => K fr' h') → WOp P o.op fr h fun x h' => WOps P ops (put fr o.dst x) h' K := by
      intro tr' hW
      cases hop : o.op <;> rw [hop] at hW
      case call f args =>
        obtain ⟨perm, m, r, hout, W', h1, h2, h3, h4, h5, h6, h8, h7⟩ := hW
        exact ⟨perm, m, r, hout, h1, h2, h3, h4, h5, h6, ih _ _ _ _ h7⟩
      case callc x args =>
        simp only [WOpT] at hW
        simp only [WOp]
        split at hW
        · rename_i hx
          rw [hx]
          obtain ⟨perm, m, r, hout, W', h1, h2, h3, h4, h5, h6, h8, h7⟩ := hW
          exact ⟨perm, m, r, hout, h1, h2, h3, h4, h5, h6, ih _ _ _ _ h7⟩
        · exact hW.elim
      case xcall f args =>
        obtain ⟨r, h1, h2⟩ := hW
        exact ⟨r, h1, ih _ _ _ _ h2⟩
      case inv tab x args =>
        simp only [WOpT] at hW
        simp only [WOp]
        split at hW
        · rename_i hx
          rw [hx]
          obtain ⟨perm, m, r, hout, W', h1, h2, h3, h4, h5, h6, h8, h7⟩ := hW
          exact ⟨perm, m, r, hout, h1, h2, h3, h4, h5, h6, ih _ _ _ _ h7⟩
        · exact hW.elim
      all_goals
        simp only [WOpT] at hW
        simp only [WOp]
        split at hW
        · rename_i hst
          rw [hst]
          exact ih _ _ _ _ hW
        · exact hW.elim
    simp only [WOpsT] at hW
    simp only [WOps]
    split at hW
    · rename_i hg
      rw [hg]
      exact one (tr' := fun R W => tr ++ [(R, W)]) hW
    · rename_i g want hg
      rw [hg]
      dsimp only
      split at hW
      · rename_i b hb
        rw [hb]
        dsimp only
        split at hW
        · rename_i he; rw [if_pos he]; exact one (tr' := fun R W => tr ++ [(R, W)]) hW
        · rename_i he; rw [if_neg he]; exact ih _ _ _ _ hW
      · rename_i t hb
        rw [hb]
        exact ih _ _ _ _ hW
      · exact hW.elim

theorem AW.regS {k : Nat} {ops : List AOper} {live : List Nat} {b : AC} {Q : Exit → Fr → List Blk → Prop} (hW : ∀ K : KT, (∀ tr fr' h', AW P k b Q (keep live fr') h' → K tr fr' h') → WOpsT P ops [] fr h K) : AW P k (.seq (.reg ops live) b) Q fr h := by
  simp only [AW]
  exact WOps.ofT _ [] _ _ _ (hW _ fun _ _ _ hh => ⟨_, _, .refl, hh⟩)
theorem AW.dregS {k : Nat} {ops : List AOper} {bef : List (List Nat)} {live : List Nat} {b : AC} {Q : Exit → Fr → List Blk → Prop} (hW : ∀ K : KT, (∀ tr fr' h', okTr bef tr = true → AW P k b Q (keep live fr') h' → K tr fr' h') → WOpsT P ops [] fr h K) : AW P k (.seq (.dreg ops bef live) b) Q fr h := by
  simp only [AW]
  exact hW _ fun _ _ _ h1 h2 => ⟨h1, _, _, .refl, h2⟩
theorem AW.regN {k : Nat} {ops : List AOper} {live : List Nat} {Q : Exit → Fr → List Blk → Prop} (hW : ∀ K : KT, (∀ tr fr' h', Q .normal (keep live fr') h' → K tr fr' h') → WOpsT P ops [] fr h K) : AW P k (.reg ops live) Q fr h := by
  simp only [AW]
  exact WOps.ofT _ [] _ _ _ (hW _ fun _ _ _ hh => hh)
theorem AW.dregN {k : Nat} {ops : List AOper} {bef : List (List Nat)} {live : List Nat} {Q : Exit → Fr → List Blk → Prop} (hW : ∀ K : KT, (∀ tr fr' h', okTr bef tr = true → Q .normal (keep live fr') h' → K tr fr' h') → WOpsT P ops [] fr h K) : AW P k (.dreg ops bef live) Q fr h := by
  simp only [AW]
  exact hW _ fun _ _ _ h1 h2 => ⟨h1, h2⟩
theorem AW.condT {k : Nat} {x : AO} {a b : AC} {Q : Exit → Fr → List Blk → Prop} {t : Bool} (hx : x.ev (lk fr) = .c (.bool t)) (ht : t = true) (hA : AW P k a Q fr h) : AW P k (.cond x a b) Q fr h := by
  subst ht; simp only [AW, hx, boolOf, if_true]; exact hA
theorem AW.condF {k : Nat} {x : AO} {a b : AC} {Q : Exit → Fr → List Blk → Prop} {t : Bool} (hx : x.ev (lk fr) = .c (.bool t)) (ht : t = false) (hA : AW P k b Q fr h) : AW P k (.cond x a b) Q fr h := by
  subst ht; simp only [AW, hx, boolOf, Bool.false_eq_true, if_false]; exact hA
theorem AW.condB {k : Nat} {x : AO} {a b : AC} {Q : Exit → Fr → List Blk → Prop} {t : Bool} (hx : x.ev (lk fr) = .c (.bool t)) (hA : t = true → AW P k a Q fr h) (hB : t = false → AW P k b Q fr h) : AW P k (.cond x a b) Q fr h := by
  cases t
  · exact AW.condF hx rfl (hB rfl)
  · exact AW.condT hx rfl (hA rfl)

/-! ### One operation -/
theorem T.nil (hK : K tr fr h) : WOpsT P [] tr fr h K := hK
theorem T.step {op : AOp} {x : V} {ups : List (Nat × Blk)} {news : List Blk} {R : List Nat} (hn1 : ∀ f args, op ≠ .call f args) (hn2 : ∀ x args, op ≠ .callc x args)
    (hst : stepA op (AO.ev (lk fr)) (fun b => h[b]?) h.length = some (x, ups, news, R))
    (hK : WOpsT P rest (tr ++ [(R, ups.map (·.1) ++ upto h.length news.length)]) (put fr d x) (appU h ups ++ news) K) : WOpsT P (⟨d, op, none⟩ :: rest) tr fr h K := by
  cases op
  case call f args => exact absurd rfl (hn1 f args)
  case callc f args => exact absurd rfl (hn2 f args)
  case inv => simp [stepA] at hst
  case xcall => simp [stepA] at hst
  all_goals
    simp only [WOpsT, WOpT, hst]
    exact hK
theorem T.pure {op : AOp} {x : V} {R : List Nat} (hn1 : ∀ f args, op ≠ .call f args) (hn2 : ∀ x args, op ≠ .callc x args)
    (hst : stepA op (AO.ev (lk fr)) (fun b => h[b]?) h.length = some (x, [], [], R))
    (hK : WOpsT P rest (tr ++ [(R, [])]) (put fr d x) h K) : WOpsT P (⟨d, op, none⟩ :: rest) tr fr h K :=
  T.step hn1 hn2 hst (by simpa [appU, upto] using hK)
theorem T.make {op : AOp} {x : V} {k : Blk} {R : List Nat} (hn1 : ∀ f args, op ≠ .call f args) (hn2 : ∀ x args, op ≠ .callc x args)
    (hst : stepA op (AO.ev (lk fr)) (fun b => h[b]?) h.length = some (x, [], [k], R))
    (hK : WOpsT P rest (tr ++ [(R, [h.length])]) (put fr d x) (h ++ [k]) K) : WOpsT P (⟨d, op, none⟩ :: rest) tr fr h K :=
  T.step hn1 hn2 hst (by simpa [appU, upto] using hK)
theorem T.turn {op : AOp} {x : V} {b : Nat} {k : Blk} {R : List Nat} (hn1 : ∀ f args, op ≠ .call f args) (hn2 : ∀ x args, op ≠ .callc x args)
    (hst : stepA op (AO.ev (lk fr)) (fun b => h[b]?) h.length = some (x, [(b, k)], [], R))
    (hK : WOpsT P rest (tr ++ [(R, [b])]) (put fr d x) (h.set b k) K) : WOpsT P (⟨d, op, none⟩ :: rest) tr fr h K :=
  T.step hn1 hn2 hst (by simpa [appU, upto] using hK)

theorem T.pass {op : AOp} {g : Nat} {want b : Bool} (hg : lk fr g = .c (.bool b)) (hb : b = !want) (hK : WOpsT P rest (tr ++ [([], [])]) (put fr d (.c undef)) h K) : WOpsT P (⟨d, op, some (g, want)⟩ :: rest) tr fr h K := by
  subst hb
  simp only [WOpsT, hg]
  rw [if_neg (by simp)]; exact hK
theorem T.go {op : AOp} {g : Nat} {want b : Bool} (hg : lk fr g = .c (.bool b)) (hb : b = want) (hK : WOpsT P (⟨d, op, none⟩ :: rest) tr fr h K) : WOpsT P (⟨d, op, some (g, want)⟩ :: rest) tr fr h K := by
  subst hb
  simp only [WOpsT, hg]
  rw [if_pos trivial]; exact hK

theorem T.mv {x : AO} : WOpsT P (⟨d, .mv x, none⟩ :: rest) tr fr h K = WOpsT P rest (tr ++ [([], [])]) (put fr d (x.ev (lk fr))) h K := by
  have e : appU h [] ++ [] = h := by simp [appU]
  simp only [WOpsT, WOpT, stepA, pureS, Option.map_some, e]
  rfl
theorem T.bin {op : BinOp} {x y : AO} {u v r : Value} (hx : x.ev (lk fr) = .c u) (hy : y.ev (lk fr) = .c v) (hb : binV op u v = some r)
    (hK : WOpsT P rest (tr ++ [([], [])]) (put fr d (.c r)) h K) : WOpsT P (⟨d, .bin op x y, none⟩ :: rest) tr fr h K :=
  T.pure nofun nofun (by simp [stepA, hx, hy, hb, pureS]) hK
theorem T.shl {x y : AO} {k k' : IntKind} {a b : Int} (hx : x.ev (lk fr) = .c (.int k a)) (hy : y.ev (lk fr) = .c (.int k' b)) (hb : 0 ≤ b)
    (hK : WOpsT P rest (tr ++ [([], [])]) (put fr d (.c (.int k (k.wrap (a * 2 ^ min b.toNat k.bits))))) h K) : WOpsT P (⟨d, .bin .shl x y, none⟩ :: rest) tr fr h K :=
  T.bin hx hy (by simp only [binV]; rw [if_neg (by omega)]) hK
theorem T.shr {x y : AO} {k k' : IntKind} {a b : Int} (hx : x.ev (lk fr) = .c (.int k a)) (hy : y.ev (lk fr) = .c (.int k' b)) (hb : 0 ≤ b)
    (hK : WOpsT P rest (tr ++ [([], [])]) (put fr d (.c (.int k (a / 2 ^ min b.toNat k.bits)))) h K) : WOpsT P (⟨d, .bin .shr x y, none⟩ :: rest) tr fr h K :=
  T.bin hx hy (by simp only [binV]; rw [if_neg (by omega)]) hK
theorem T.rem {x y : AO} {k : IntKind} {a b : Int} (hx : x.ev (lk fr) = .c (.int k a)) (hy : y.ev (lk fr) = .c (.int k b)) (hb : b ≠ 0)
    (hK : WOpsT P rest (tr ++ [([], [])]) (put fr d (.c (.int k (a.tmod b)))) h K) : WOpsT P (⟨d, .bin .rem x y, none⟩ :: rest) tr fr h K :=
  T.bin hx hy (by simp only [binV]; rw [if_pos trivial, if_neg hb]) hK
theorem T.quo {x y : AO} {k : IntKind} {a b : Int} (hx : x.ev (lk fr) = .c (.int k a)) (hy : y.ev (lk fr) = .c (.int k b)) (hb : b ≠ 0)
    (hK : WOpsT P rest (tr ++ [([], [])]) (put fr d (.c (.int k (k.wrap (a.tdiv b))))) h K) : WOpsT P (⟨d, .bin .quo x y, none⟩ :: rest) tr fr h K :=
  T.bin hx hy (by simp only [binV]; rw [if_pos trivial, if_neg hb]) hK
theorem wrap64 {n : Int} (h1 : -9223372036854775808 ≤ n) (h2 : n ≤ 9223372036854775807) : IntKind.wrap .i64 n = n := by
  simp only [IntKind.wrap, IntKind.signed, IntKind.bits]
  simp
  omega
theorem T.add {x y : AO} {a b : Int} (hx : x.ev (lk fr) = .c (.int .i64 a)) (hy : y.ev (lk fr) = .c (.int .i64 b)) (h1 : -9223372036854775808 ≤ a + b) (h2 : a + b ≤ 9223372036854775807)
    (hK : WOpsT P rest (tr ++ [([], [])]) (put fr d (I (a + b))) h K) : WOpsT P (⟨d, .bin .add x y, none⟩ :: rest) tr fr h K :=
  T.bin hx hy (by simp only [binV, wrap64 h1 h2]; rfl) hK
theorem T.sub {x y : AO} {a b : Int} (hx : x.ev (lk fr) = .c (.int .i64 a)) (hy : y.ev (lk fr) = .c (.int .i64 b)) (h1 : -9223372036854775808 ≤ a - b) (h2 : a - b ≤ 9223372036854775807)
    (hK : WOpsT P rest (tr ++ [([], [])]) (put fr d (I (a - b))) h K) : WOpsT P (⟨d, .bin .sub x y, none⟩ :: rest) tr fr h K :=
  T.bin hx hy (by simp only [binV, wrap64 h1 h2]; rfl) hK
theorem T.mul {x y : AO} {a b : Int} (hx : x.ev (lk fr) = .c (.int .i64 a)) (hy : y.ev (lk fr) = .c (.int .i64 b)) (h1 : -9223372036854775808 ≤ a * b) (h2 : a * b ≤ 9223372036854775807)
    (hK : WOpsT P rest (tr ++ [([], [])]) (put fr d (I (a * b))) h K) : WOpsT P (⟨d, .bin .mul x y, none⟩ :: rest) tr fr h K :=
  T.bin hx hy (by simp only [binV, wrap64 h1 h2]; rfl) hK
theorem T.pickT {c a b : AO} {t : Bool} (hc : c.ev (lk fr) = .c (.bool t)) (ht : t = true) (hK : WOpsT P rest (tr ++ [([], [])]) (put fr d (a.ev (lk fr))) h K) : WOpsT P (⟨d, .pick c a b, none⟩ :: rest) tr fr h K :=
  T.pure nofun nofun (by subst ht; simp [stepA, hc, pureS]) hK
theorem T.pickF {c a b : AO} {t : Bool} (hc : c.ev (lk fr) = .c (.bool t)) (ht : t = false) (hK : WOpsT P rest (tr ++ [([], [])]) (put fr d (b.ev (lk fr))) h K) : WOpsT P (⟨d, .pick c a b, none⟩ :: rest) tr fr h K :=
  T.pure nofun nofun (by subst ht; simp [stepA, hc, pureS]) hK
theorem T.pickB {c a b : AO} {t u v : Bool} (hc : c.ev (lk fr) = .c (.bool t)) (ha : a.ev (lk fr) = .c (.bool u)) (hb : b.ev (lk fr) = .c (.bool v)) (hK : WOpsT P rest (tr ++ [([], [])]) (put fr d (.c (.bool (if t then u else v)))) h K) : WOpsT P (⟨d, .pick c a b, none⟩ :: rest) tr fr h K :=
  T.pure nofun nofun (by cases t <;> simp [stepA, hc, ha, hb, pureS]) hK
theorem T.not {x : AO} {t : Bool} (hx : x.ev (lk fr) = .c (.bool t)) (hK : WOpsT P rest (tr ++ [([], [])]) (put fr d (.c (.bool (!t)))) h K) : WOpsT P (⟨d, .not x, none⟩ :: rest) tr fr h K :=
  T.pure nofun nofun (by simp [stepA, hx, pureS]) hK
theorem T.neg {x : AO} {k : IntKind} {a : Int} (hx : x.ev (lk fr) = .c (.int k a)) (hK : WOpsT P rest (tr ++ [([], [])]) (put fr d (.c (.int k (k.wrap (0 - a))))) h K) : WOpsT P (⟨d, .neg x, none⟩ :: rest) tr fr h K :=
  T.pure nofun nofun (by simp [stepA, hx, pureS]) hK
theorem T.xorn {x : AO} {k : IntKind} {a : Int} (hx : x.ev (lk fr) = .c (.int k a)) (hK : WOpsT P rest (tr ++ [([], [])]) (put fr d (.c (.int k (bits .xor k (if k.signed then -1 else k.max) a)))) h K) : WOpsT P (⟨d, .xorn x, none⟩ :: rest) tr fr h K :=
  T.pure nofun nofun (by simp [stepA, hx, pureS]) hK
theorem T.cvt {x : AO} {k k' : IntKind} {a : Int} (hx : x.ev (lk fr) = .c (.int k' a)) (hK : WOpsT P rest (tr ++ [([], [])]) (put fr d (.c (.int k (k.wrap a)))) h K) : WOpsT P (⟨d, .cvt k x, none⟩ :: rest) tr fr h K :=
  T.pure nofun nofun (by simp [stepA, hx, pureS]) hK
theorem T.min2 {x y : AO} {k k' : IntKind} {a b : Int} (hx : x.ev (lk fr) = .c (.int k a)) (hy : y.ev (lk fr) = .c (.int k' b)) (hk : k = k') (hK : WOpsT P rest (tr ++ [([], [])]) (put fr d (.c (.int k (min a b)))) h K) : WOpsT P (⟨d, .mnx false [x, y], none⟩ :: rest) tr fr h K :=
  T.pure nofun nofun (by subst hk; simp [stepA, hx, hy, pureS, mnxF]; split <;> omega) hK
theorem T.max2 {x y : AO} {k k' : IntKind} {a b : Int} (hx : x.ev (lk fr) = .c (.int k a)) (hy : y.ev (lk fr) = .c (.int k' b)) (hk : k = k') (hK : WOpsT P rest (tr ++ [([], [])]) (put fr d (.c (.int k (max a b)))) h K) : WOpsT P (⟨d, .mnx true [x, y], none⟩ :: rest) tr fr h K :=
  T.pure nofun nofun (by subst hk; simp [stepA, hx, hy, pureS, mnxF]; split <;> omega) hK
theorem T.ext {x : AO} {i : Nat} {vs : List V} {v : V} (hx : x.ev (lk fr) = .tup vs) (hi : vs[i]? = some v) (hK : WOpsT P rest (tr ++ [([], [])]) (put fr d v) h K) : WOpsT P (⟨d, .ext x i, none⟩ :: rest) tr fr h K :=
  T.pure nofun nofun (by simp [stepA, hx, pureS, hi]) hK
theorem T.lenc {n : Nat} (hK : WOpsT P rest (tr ++ [([], [])]) (put fr d (I n)) h K) : WOpsT P (⟨d, .lenc n, none⟩ :: rest) tr fr h K :=
  T.pure nofun nofun (by simp [stepA]) hK
theorem T.new {x : AO} {e : Nat} {cs : List V} (hv : vcells (fun b => h[b]?) (x.ev (lk fr)) = some cs) (hl : cs.length = e ∧ 0 < e)
    (hK : WOpsT P rest (tr ++ [(vlook (x.ev (lk fr)), [h.length])]) (put fr d (.ptr h.length 1 0 0)) (h ++ [⟨1, e, [cs]⟩]) K) : WOpsT P (⟨d, .new e x, none⟩ :: rest) tr fr h K :=
  T.make nofun nofun (by simp only [stepA, hv]; rw [if_pos hl]) hK
theorem T.zero {cells : List Value} (hl : 0 < cells.length)
    (hK : WOpsT P rest (tr ++ [([], [h.length])]) (put fr d (.ptr h.length 1 0 0)) (h ++ [⟨1, cells.length, [cells.map .c]⟩]) K) : WOpsT P (⟨d, .zero cells, none⟩ :: rest) tr fr h K :=
  T.make nofun nofun (by simp only [stepA]; rw [if_pos hl]) hK
theorem T.build {z : List Value} {ps : List (Nat × Nat × AO)} {cs : List V} {R : List Nat} (hf : fillP (fun b => h[b]?) (AO.ev (lk fr)) (z.map .c) ps = some (cs, R))
    (hK : WOpsT P rest (tr ++ [(R, [])]) (put fr d (.agg cs)) h K) : WOpsT P (⟨d, .build z ps, none⟩ :: rest) tr fr h K :=
  T.pure nofun nofun (by simp only [stepA, hf]) hK
theorem T.bsl {z : List Value} {n : Nat} {ps : List (Nat × AO)} {rows : List (List V)} {R : List Nat} (hf : fillR (fun b => h[b]?) (AO.ev (lk fr)) z.length (List.replicate n (z.map .c)) ps = some (rows, R)) (hz : 0 < z.length ∧ n * z.length ≤ 2 ^ 24)
    (hK : WOpsT P rest (tr ++ [(R, [h.length])]) (put fr d (.psl h.length 1 0 n)) (h ++ [⟨1, z.length, rows⟩]) K) : WOpsT P (⟨d, .bsl z n ps, none⟩ :: rest) tr fr h K :=
  T.make nofun nofun (by simp only [stepA, hf]; rw [if_pos hz]) hK
theorem T.ld {a : AO} {b ver r k : Nat} {B : Blk} {row : List V} {v : V} (ha : a.ev (lk fr) = .ptr b ver r k) (hb : h[b]? = some B) (hv : B.ver = ver) (hr : B.rows[r]? = some row) (hk : row[k]? = some v)
    (hK : WOpsT P rest (tr ++ [([b], [])]) (put fr d v) h K) : WOpsT P (⟨d, .ld none a, none⟩ :: rest) tr fr h K :=
  T.pure nofun nofun (by simp only [stepA, ha, hb, hr, hk]; rw [if_pos hv]; rfl) hK
theorem T.ldd {a : AO} {k : Nat} {row : List V} {v : V} (ha : a.ev (lk fr) = .dp row k) (hk : row[k]? = some v)
    (hK : WOpsT P rest (tr ++ [([], [])]) (put fr d v) h K) : WOpsT P (⟨d, .ld none a, none⟩ :: rest) tr fr h K :=
  T.pure nofun nofun (by simp only [stepA, ha, hk]; rfl) hK
theorem T.ldn {a : AO} {n b ver r k : Nat} {B : Blk} {row : List V} (ha : a.ev (lk fr) = .ptr b ver r k) (hb : h[b]? = some B) (hv : B.ver = ver) (hr : B.rows[r]? = some row) (hk : k + n ≤ row.length)
    (hK : WOpsT P rest (tr ++ [([b], [])]) (put fr d (.agg ((row.drop k).take n))) h K) : WOpsT P (⟨d, .ld (some n) a, none⟩ :: rest) tr fr h K :=
  T.pure nofun nofun (by simp only [stepA, ha, hb, hr]; rw [if_pos hv, if_pos hk]) hK
theorem T.lddn {a : AO} {n k : Nat} {row : List V} (ha : a.ev (lk fr) = .dp row k) (hk : k + n ≤ row.length)
    (hK : WOpsT P rest (tr ++ [([], [])]) (put fr d (.agg ((row.drop k).take n))) h K) : WOpsT P (⟨d, .ld (some n) a, none⟩ :: rest) tr fr h K :=
  T.pure nofun nofun (by simp only [stepA, ha]; rw [if_pos hk]) hK
theorem T.st {a y : AO} {n b ver r k : Nat} {B : Blk} {row cs : List V} (ha : a.ev (lk fr) = .ptr b ver r k) (hb : h[b]? = some B) (hc : vcells (fun b => h[b]?) (y.ev (lk fr)) = some cs) (hv : B.ver = ver ∧ cs.length = n)
    (hr : B.rows[r]? = some row) (hk : k + n ≤ row.length)
    (hK : WOpsT P rest (tr ++ [(b :: vlook (y.ev (lk fr)), [b])]) (put fr d .any) (h.set b { B with rows := B.rows.set r (spl row k cs) }) K) : WOpsT P (⟨d, .st n a y, none⟩ :: rest) tr fr h K :=
  T.turn nofun nofun (by simp only [stepA, ha, hb, hc, hr]; rw [if_pos hv, if_pos hk]) hK
theorem T.fad {x : AO} {o b ver r k : Nat} {B : Blk} (hx : x.ev (lk fr) = .ptr b ver r k) (hb : h[b]? = some B) (hv : B.ver = ver)
    (hK : WOpsT P rest (tr ++ [([b], [])]) (put fr d (.ptr b ver r (k + o))) h K) : WOpsT P (⟨d, .fad o x, none⟩ :: rest) tr fr h K :=
  T.pure nofun nofun (by simp only [stepA, hx, hb]; rw [if_pos hv]) hK
theorem T.fadd {x : AO} {o k : Nat} {row : List V} (hx : x.ev (lk fr) = .dp row k)
    (hK : WOpsT P rest (tr ++ [([], [])]) (put fr d (.dp row (k + o))) h K) : WOpsT P (⟨d, .fad o x, none⟩ :: rest) tr fr h K :=
  T.pure nofun nofun (by simp only [stepA, hx]) hK
theorem T.nilc {x : AO} {b ver r k : Nat} {B : Blk} (hx : x.ev (lk fr) = .ptr b ver r k) (hb : h[b]? = some B) (hv : B.ver = ver)
    (hK : WOpsT P rest (tr ++ [([b], [])]) (put fr d (.ptr b ver r k)) h K) : WOpsT P (⟨d, .nilc x, none⟩ :: rest) tr fr h K :=
  T.pure nofun nofun (by simp only [stepA, hx, hb]; rw [if_pos hv]) hK
theorem T.nilcd {x : AO} {k : Nat} {row : List V} (hx : x.ev (lk fr) = .dp row k)
    (hK : WOpsT P rest (tr ++ [([], [])]) (put fr d (.dp row k)) h K) : WOpsT P (⟨d, .nilc x, none⟩ :: rest) tr fr h K :=
  T.pure nofun nofun (by simp only [stepA, hx]) hK
theorem T.idx {x i : AO} {e b ver off len : Nat} {n : Int} {k : IntKind} {B : Blk} (hx : x.ev (lk fr) = .psl b ver off len) (hi : i.ev (lk fr) = .c (.int k n)) (hb : h[b]? = some B) (hv : B.ver = ver ∧ B.esz = e) (hn : 0 ≤ n ∧ n < len)
    (hK : WOpsT P rest (tr ++ [([b], [])]) (put fr d (.ptr b ver (off + n.toNat) 0)) h K) : WOpsT P (⟨d, .idx e none x i, none⟩ :: rest) tr fr h K :=
  T.pure nofun nofun (by simp only [stepA, hx, hi, ofInt, hb]; rw [if_pos ⟨hv.1, hv.2, hn.1, hn.2⟩]) hK
theorem T.idxs {x i : AO} {e e' : Nat} {n : Int} {k : IntKind} {rows : List (List V)} {row : List V} (hx : x.ev (lk fr) = .sl e' rows) (hi : i.ev (lk fr) = .c (.int k n)) (he : e' = e) (hn : 0 ≤ n) (hr : rows[n.toNat]? = some row)
    (hK : WOpsT P rest (tr ++ [([], [])]) (put fr d (.dp row 0)) h K) : WOpsT P (⟨d, .idx e none x i, none⟩ :: rest) tr fr h K :=
  T.pure nofun nofun (by simp only [stepA, hx, hi, ofInt, hr]; rw [if_pos ⟨he, hn⟩]) hK
theorem T.idxa {x i : AO} {e b ver r c len : Nat} {n : Int} {k : IntKind} {B : Blk} (hx : x.ev (lk fr) = .ptr b ver r c) (hi : i.ev (lk fr) = .c (.int k n)) (hb : h[b]? = some B) (hv : B.ver = ver) (hn : 0 ≤ n ∧ n < len)
    (hK : WOpsT P rest (tr ++ [([b], [])]) (put fr d (.ptr b ver r (c + n.toNat * e))) h K) : WOpsT P (⟨d, .idx e (some len) x i, none⟩ :: rest) tr fr h K :=
  T.pure nofun nofun (by simp only [stepA, hx, hi, ofInt, hb]; rw [if_pos ⟨hv, hn.1, hn.2⟩]) hK
theorem T.idxd {x i : AO} {e c len : Nat} {n : Int} {k : IntKind} {row : List V} (hx : x.ev (lk fr) = .dp row c) (hi : i.ev (lk fr) = .c (.int k n)) (hn : 0 ≤ n ∧ n < len)
    (hK : WOpsT P rest (tr ++ [([], [])]) (put fr d (.dp row (c + n.toNat * e))) h K) : WOpsT P (⟨d, .idx e (some len) x i, none⟩ :: rest) tr fr h K :=
  T.pure nofun nofun (by simp only [stepA, hx, hi, ofInt]; rw [if_pos hn]) hK
theorem T.fld {x : AO} {o : Nat} {n : Option Nat} {cs : List V} {v : V} (hx : x.ev (lk fr) = .agg cs) (hv : partL n cs o = some v)
    (hK : WOpsT P rest (tr ++ [([], [])]) (put fr d v) h K) : WOpsT P (⟨d, .fld o n x, none⟩ :: rest) tr fr h K :=
  T.pure nofun nofun (by simp only [stepA, hx, pureS, hv]; rfl) hK
theorem T.ixa {x i : AO} {len e : Nat} {n : Option Nat} {k : IntKind} {j : Int} {cs : List V} {v : V} (hx : x.ev (lk fr) = .agg cs) (hi : i.ev (lk fr) = .c (.int k j)) (hj : 0 ≤ j ∧ j < len) (hv : partL n cs (j.toNat * e) = some v)
    (hK : WOpsT P rest (tr ++ [([], [])]) (put fr d v) h K) : WOpsT P (⟨d, .ixa len e n x i, none⟩ :: rest) tr fr h K :=
  T.pure nofun nofun (by simp only [stepA, hx, hi, ofInt, pureS]; rw [if_pos hj, hv]; rfl) hK
theorem T.len {x : AO} {b ver off len : Nat} {B : Blk} (hx : x.ev (lk fr) = .psl b ver off len) (hb : h[b]? = some B) (hv : B.ver = ver)
    (hK : WOpsT P rest (tr ++ [([b], [])]) (put fr d (I len)) h K) : WOpsT P (⟨d, .len x, none⟩ :: rest) tr fr h K :=
  T.pure nofun nofun (by simp only [stepA, hx, hb]; rw [if_pos hv]) hK
theorem T.lenS {x : AO} {e : Nat} {rows : List (List V)} (hx : x.ev (lk fr) = .sl e rows)
    (hK : WOpsT P rest (tr ++ [([], [])]) (put fr d (I rows.length)) h K) : WOpsT P (⟨d, .len x, none⟩ :: rest) tr fr h K :=
  T.pure nofun nofun (by simp only [stepA, hx]) hK
theorem T.lenN {x : AO} (hx : x.ev (lk fr) = .c (.slice none 0 0))
    (hK : WOpsT P rest (tr ++ [([], [])]) (put fr d (I 0)) h K) : WOpsT P (⟨d, .len x, none⟩ :: rest) tr fr h K :=
  T.pure nofun nofun (by simp only [stepA, hx]) hK
theorem T.mksl {z : List Value} {bytes : Nat} {l c : AO} {k k' : IntKind} {n m : Int} (hl : l.ev (lk fr) = .c (.int k n)) (hc : c.ev (lk fr) = .c (.int k' m)) (hz : 0 < z.length ∧ 0 < bytes ∧ 0 ≤ n ∧ n ≤ m ∧ bytes * m ≤ 2 ^ 48)
    (hK : WOpsT P rest (tr ++ [([], [h.length])]) (put fr d (.psl h.length 1 0 n.toNat)) (h ++ [⟨1, z.length, List.replicate n.toNat (z.map .c)⟩]) K) : WOpsT P (⟨d, .mksl z bytes l c, none⟩ :: rest) tr fr h K :=
  T.make nofun nofun (by simp only [stepA, hl, hc, ofInt]; rw [if_pos hz]) hK
theorem T.appN {e bytes : Nat} {s x : AO} {new : List (List V)} (hs : s.ev (lk fr) = .c (.slice none 0 0)) (hx : srcOf (fun b => h[b]?) e (x.ev (lk fr)) = some (e, new)) (he : 0 < e ∧ 0 < bytes) (hn : new.length ≠ 0) (hb : bytes * (new.length + new.length / 4 + 1024) ≤ 2 ^ 48)
    (hK : WOpsT P rest (tr ++ [(vlook (x.ev (lk fr)), [h.length])]) (put fr d (.psl h.length 1 0 new.length)) (h ++ [⟨1, e, new⟩]) K) : WOpsT P (⟨d, .app e bytes s x, none⟩ :: rest) tr fr h K :=
  T.make nofun nofun (by simp only [stepA, hs, hx]; rw [if_pos ⟨trivial, he.1, he.2⟩, if_neg hn, if_pos hb]) hK
theorem T.appE {e bytes : Nat} {s x : AO} (hs : s.ev (lk fr) = .c (.slice none 0 0)) (hx : srcOf (fun b => h[b]?) e (x.ev (lk fr)) = some (e, [])) (he : 0 < e ∧ 0 < bytes)
    (hK : WOpsT P rest (tr ++ [(vlook (x.ev (lk fr)), [])]) (put fr d (.c (.slice none 0 0))) h K) : WOpsT P (⟨d, .app e bytes s x, none⟩ :: rest) tr fr h K :=
  T.pure nofun nofun (by simp only [stepA, hs, hx]; rw [if_pos ⟨trivial, he.1, he.2⟩]; rfl) hK
theorem T.app {e bytes : Nat} {s x : AO} {b ver off len : Nat} {B : Blk} {new : List (List V)} (hs : s.ev (lk fr) = .psl b ver off len) (hb : h[b]? = some B) (hx : srcOf (fun b => h[b]?) e (x.ev (lk fr)) = some (e, new)) (he : 0 < e ∧ 0 < bytes)
    (hB : B.ver = ver ∧ B.esz = e ∧ off + len = B.rows.length ∧ bytes * (len + new.length + (len + new.length) / 4 + 1024) ≤ 2 ^ 48)
    (hK : WOpsT P rest (tr ++ [(b :: vlook (x.ev (lk fr)), [b])]) (put fr d (.psl b (ver + 1) 0 (len + new.length))) (h.set b ⟨ver + 1, e, B.rows.drop off ++ new⟩) K) : WOpsT P (⟨d, .app e bytes s x, none⟩ :: rest) tr fr h K :=
  T.turn nofun nofun (by
    have e0 : (B.rows.drop off).take len = B.rows.drop off := List.take_of_length_le (by rw [List.length_drop]; omega)
    simp only [stepA, hs, hb, hx]; rw [if_pos ⟨trivial, he.1, he.2⟩, if_pos ⟨hB.1, hB.2.1, Nat.le_of_eq hB.2.2.1, hB.2.2.2⟩, e0]) hK
theorem T.appP {e bytes : Nat} {s x : AO} {b ver off len : Nat} {B : Blk} {new : List (List V)} (hs : s.ev (lk fr) = .psl b ver off len) (hb : h[b]? = some B) (hx : srcOf (fun b => h[b]?) e (x.ev (lk fr)) = some (e, new)) (he : 0 < e ∧ 0 < bytes)
    (hB : B.ver = ver ∧ B.esz = e ∧ off + len ≤ B.rows.length ∧ bytes * (len + new.length + (len + new.length) / 4 + 1024) ≤ 2 ^ 48)
    (hK : WOpsT P rest (tr ++ [(b :: vlook (x.ev (lk fr)), [b])]) (put fr d (.psl b (ver + 1) 0 (len + new.length))) (h.set b ⟨ver + 1, e, (B.rows.drop off).take len ++ new⟩) K) : WOpsT P (⟨d, .app e bytes s x, none⟩ :: rest) tr fr h K :=
  T.turn nofun nofun (by simp only [stepA, hs, hb, hx]; rw [if_pos ⟨trivial, he.1, he.2⟩, if_pos hB]) hK
theorem T.copy {e : Nat} {t s : AO} {b ver off len : Nat} {B : Blk} {rows : List (List V)} (ht : t.ev (lk fr) = .psl b ver off len) (hb : h[b]? = some B) (hs : rowsOf (fun b => h[b]?) (s.ev (lk fr)) = some (e, rows)) (hB : B.ver = ver ∧ B.esz = e)
    (hK : WOpsT P rest (tr ++ [(b :: vlook (s.ev (lk fr)), [b])]) (put fr d (I (min rows.length len : Nat))) (h.set b { B with rows := B.rows.take off ++ rows.take len ++ B.rows.drop (off + min rows.length len) }) K) : WOpsT P (⟨d, .copy e t s, none⟩ :: rest) tr fr h K :=
  T.turn nofun nofun (by simp only [stepA, ht, hb, hs]; rw [if_pos ⟨hB.1, hB.2, trivial⟩]) hK
theorem T.slc {e : Nat} {x : AO} {lo hi : Option AO} {b ver off len : Nat} {l m : Int} {B : Blk} (hx : x.ev (lk fr) = .psl b ver off len) (hb : h[b]? = some B) (hl : ((lo.map fun l => ofInt (AO.ev (lk fr) l)).getD (some 0)) = some l) (hm : ((hi.map fun l => ofInt (AO.ev (lk fr) l)).getD (some (len : Int))) = some m)
    (hB : B.ver = ver ∧ B.esz = e) (hn : 0 ≤ l ∧ l ≤ m ∧ m ≤ len)
    (hK : WOpsT P rest (tr ++ [([b], [])]) (put fr d (.psl b ver (off + l.toNat) (m.toNat - l.toNat))) h K) : WOpsT P (⟨d, .slc e x lo hi, none⟩ :: rest) tr fr h K :=
  T.pure nofun nofun (by simp only [stepA, hx, hb, hl, hm]; rw [if_pos ⟨hB.1, hB.2, hn⟩]) hK
theorem T.slcS {e e' : Nat} {x : AO} {lo hi : Option AO} {rows : List (List V)} {l m : Int} (hx : x.ev (lk fr) = .sl e' rows) (hl : ((lo.map fun l => ofInt (AO.ev (lk fr) l)).getD (some 0)) = some l) (hm : ((hi.map fun l => ofInt (AO.ev (lk fr) l)).getD (some (rows.length : Int))) = some m)
    (he : e' = e) (hn : 0 ≤ l ∧ l ≤ m ∧ m ≤ rows.length)
    (hK : WOpsT P rest (tr ++ [([], [])]) (put fr d (.sl e' ((rows.drop l.toNat).take (m.toNat - l.toNat)))) h K) : WOpsT P (⟨d, .slc e x lo hi, none⟩ :: rest) tr fr h K :=
  T.pure nofun nofun (by simp only [stepA, hx, hl, hm]; rw [if_pos ⟨he, hn⟩]) hK
theorem T.mki {t : TypeId} {x : AO} (hK : WOpsT P rest (tr ++ [([], [])]) (put fr d (.ifc t (x.ev (lk fr)))) h K) : WOpsT P (⟨d, .mki t x, none⟩ :: rest) tr fr h K :=
  T.pure nofun nofun (by simp only [stepA]) hK
theorem T.mkf {f : FuncId} {xs : List AO} (hK : WOpsT P rest (tr ++ [([], [])]) (put fr d (.fn f (xs.map (AO.ev (lk fr))))) h K) : WOpsT P (⟨d, .mkf f xs, none⟩ :: rest) tr fr h K :=
  T.pure nofun nofun (by simp only [stepA]) hK

/-! ### Calls -/
theorem back_nil (h : List Blk) (hout : List Blk) : back h [] hout = h := by
  apply List.ext_getElem?
  intro b
  exact back_out (by simp)
/-- A call that passes no blocks and makes none. -/
theorem T.call0 {f : FuncId} {args : List AO} {vs : List V} {r : V} (he : enters P f = true) (hv : args.map (AO.ev (lk fr)) = vs) (hF : FnE P f (vs.map (pas [])) [] r [])
    (hK : WOpsT P rest (tr ++ [([], [])]) (put fr d (ren [] r)) h K) : WOpsT P (⟨d, .call f args, none⟩ :: rest) tr fr h K := by
  subst hv
  simp only [WOpsT, WOpT]
  refine ⟨[], 0, r, [], [], by simp, by simp, rfl, by simp, he, hF, .refl, ?_⟩
  simp only [upto, List.append_nil, List.replicate, back_nil]
  exact hK
/-- A call in general. -/
theorem T.call {f : FuncId} {args : List AO} {vs : List V} {r : V} {hout h' : List Blk} {perm keys : List Nat} {m : Nat} (he : enters P f = true) (hv : args.map (AO.ev (lk fr)) = vs) (hnd : perm.Nodup) (hlt : ∀ b ∈ perm, b < h.length)
    (hF : FnE P f (vs.map (pas perm)) (pasH h perm) r hout) (hlen : hout.length = perm.length + m) (hver : ∀ k ∈ hout.drop perm.length, 0 < k.ver) (hk : keys = perm ++ upto h.length m) (hh : h' = back (h ++ List.replicate m dum) keys hout)
    (hK : WOpsT P rest (tr ++ [(perm, keys)]) (put fr d (ren keys r)) h' K) : WOpsT P (⟨d, .call f args, none⟩ :: rest) tr fr h K := by
  subst hv; subst hk; subst hh
  simp only [WOpsT, WOpT]
  exact ⟨perm, m, r, hout, _, hnd, hlt, hlen, hver, he, hF, .refl, hK⟩
/-- A function's result that names no block. -/
theorem WeakV.c {k : Nat} {v : Value} {h : List Blk} (hk : k = 0) : WeakV k (.c v) h (.c v) [] :=
  ⟨[], 0, by simp, by simp, by omega, rfl, rfl⟩
theorem WeakV.drop {k n : Nat} {x r : V} {h : List Blk} (hk : k = 0) (hr : r = out h [] n x) : WeakV k x h r [] :=
  ⟨[], n, by simp, by simp, by omega, rfl, hr⟩
/-! ### Code -/
theorem AW.retI {k : Nat} {Q : Exit → Fr → List Blk → Prop} (hQ : Q .ret fr h) : AW P k .ret Q fr h := hQ
theorem AW.skipI {k : Nat} {Q : Exit → Fr → List Blk → Prop} (hQ : Q .normal fr h) : AW P k .skip Q fr h := hQ
theorem AW.exitI {k i : Nat} {Q : Exit → Fr → List Blk → Prop} (hQ : Q (.exit i) fr h) : AW P k (.exit i) Q fr h := hQ
theorem AW.seqI {k : Nat} {a b : AC} {Q : Exit → Fr → List Blk → Prop} (hA : ∀ Q' : Exit → Fr → List Blk → Prop, (∀ fr h, AW P k b Q fr h → Q' .normal fr h) → (∀ i fr h, Q (.exit i) fr h → Q' (.exit i) fr h) → (∀ fr h, Q .ret fr h → Q' .ret fr h) → AW P k a Q' fr h) : AW P k (.seq a b) Q fr h := by
  simp only [AW]
  exact hA _ (fun _ _ h => ⟨_, _, .refl, h⟩) (fun _ _ _ h => h) (fun _ _ h => h)
theorem AW.blockI {k id : Nat} {b : AC} {Q : Exit → Fr → List Blk → Prop} (hA : ∀ Q' : Exit → Fr → List Blk → Prop, (∀ fr h, Q .normal fr h → Q' .normal fr h) → (∀ fr h, Q .normal fr h → Q' (.exit id) fr h) →
    (∀ i fr h, i ≠ id → Q (.exit i) fr h → Q' (.exit i) fr h) → (∀ fr h, Q .ret fr h → Q' .ret fr h) → AW P k b Q' fr h) : AW P k (.block id b) Q fr h := by
  simp only [AW]
  refine hA _ (fun _ _ h => h) (fun _ _ h => ?_) (fun i _ _ hi h => ?_) (fun _ _ h => h)
  · dsimp only; rw [if_pos rfl]; exact h
  · dsimp only; rw [if_neg hi]; exact h
theorem AW.loopS {k : Nat} {b : AC} {Q : Exit → Fr → List Blk → Prop} {σ : Type} (F : σ → Fr) (H : σ → List Blk) (inv : σ → Prop) (m : σ → Nat) (s0 : σ) (h0 : inv s0) (hw : Weak k fr h (F s0) (H s0))
    (hA : ∀ s, inv s → ∀ Q' : Exit → Fr → List Blk → Prop, (∀ fr1 h1 s', inv s' → m s' < m s → Weak k fr1 h1 (F s') (H s') → Q' .normal fr1 h1) → (∀ i fr h, Q (.exit i) fr h → Q' (.exit i) fr h) → (∀ fr h, Q .ret fr h → Q' .ret fr h) → AW P k b Q' (F s) (H s)) :
    AW P k (.loop b) Q fr h := by
  simp only [AW]
  classical
  let S : Fr → List Blk → Nat → Prop := fun fr h n => ∃ s, inv s ∧ F s = fr ∧ H s = h ∧ m s = n
  have hmin : ∀ n fr h, S fr h n → ∃ n', S fr h n' ∧ ∀ n'', S fr h n'' → n' ≤ n'' := by
    intro n
    induction n using Nat.strongRecOn with
    | _ n ih =>
      intro fr h hS
      by_cases hlt : ∃ n', n' < n ∧ S fr h n'
      · obtain ⟨n', h1, h2⟩ := hlt
        exact ih n' h1 fr h h2
      · exact ⟨n, hS, fun n'' h2 => Nat.le_of_not_lt fun h3 => hlt ⟨n'', h3, h2⟩⟩
  let μ : Fr → List Blk → Nat := fun fr h => if hx : ∃ n, S fr h n ∧ ∀ n'', S fr h n'' → n ≤ n'' then hx.choose else 0
  have hμ : ∀ fr h n, S fr h n → S fr h (μ fr h) ∧ μ fr h ≤ n := by
    intro fr h n hS
    have hx := hmin n fr h hS
    have e : μ fr h = hx.choose := by simp only [μ]; rw [dif_pos hx]
    rw [e]
    exact ⟨hx.choose_spec.1, hx.choose_spec.2 n hS⟩
  refine ⟨fun fr h => ∃ s, inv s ∧ F s = fr ∧ H s = h, μ, ⟨F s0, H s0, .of hw, s0, h0, rfl, rfl⟩, ?_⟩
  rintro fr h ⟨s1, hs1, rfl, rfl⟩
  obtain ⟨⟨s, hs, hF, hH, hm⟩, _⟩ := hμ (F s1) (H s1) (m s1) ⟨s1, hs1, rfl, rfl, rfl⟩
  rw [← hF, ← hH]
  refine hA s hs _ (fun fr1 h1 s' hi hlt hwk => ?_) (fun _ _ _ h => h) (fun _ _ h => h)
  refine ⟨F s', H s', .of hwk, ⟨s', hi, rfl, rfl⟩, ?_⟩
  have := (hμ (F s') (H s') (m s') ⟨s', hi, rfl, rfl, rfl⟩).2
  rw [hF, hH, ← hm]
  omega

/-- The same slots, some of them forgotten. -/
def weakB : Fr → Fr → Prop
  | [], [] => True
  | (i, v) :: r, (j, u) :: r' => i = j ∧ (u = .any ∨ u = v) ∧ weakB r r'
  | _, _ => False
theorem weakB_lk : ∀ (fr fr' : Fr), weakB fr fr' → ∀ i, lk fr' i = .any ∨ lk fr' i = lk fr i := by
  intro fr
  induction fr with
  | nil => intro fr' h i; cases fr' with
    | nil => exact .inr rfl
    | cons _ _ => exact h.elim
  | cons p r ih =>
    intro fr' h i
    cases fr' with
    | nil => exact h.elim
    | cons q r' =>
      obtain ⟨j, v⟩ := p
      obtain ⟨j', u⟩ := q
      obtain ⟨rfl, h2, h3⟩ := h
      simp only [lk]
      split
      · exact h2
      · exact ih r' h3 i
theorem Weak.list {k : Nat} {fr fr' : Fr} {h h' : List Blk} (hb : weakB fr fr') (hh : h' = h) : Weak k fr h fr' h' := .inl ⟨hh, weakB_lk _ _ hb⟩
theorem Weak.same {k : Nat} {fr fr' : Fr} {h h' : List Blk} (hf : fr' = fr) (hh : h' = h) : Weak k fr h fr' h' := .inl ⟨hh, fun i => by rw [hf]; exact .inr rfl⟩
theorem ren_c {ks : List Nat} {v : Value} : ren ks (.c v) = .c v := rfl
theorem ren_tup {ks : List Nat} {vs : List V} : ren ks (.tup vs) = .tup (vs.map (ren ks)) := by
  unfold ren; rw [V.mapR, V.mapL_eq]
theorem ren_agg {ks : List Nat} {vs : List V} : ren ks (.agg vs) = .agg (vs.map (ren ks)) := by
  unfold ren; rw [V.mapR, V.mapL_eq]
theorem ren_sl {ks : List Nat} {e : Nat} {rows : List (List V)} : ren ks (.sl e rows) = .sl e rows := rfl
theorem WeakV.cE {k : Nat} {v v' : Value} {h : List Blk} (hk : k = 0) (hv : v = v') : WeakV k (.c v) h (.c v') [] := hv ▸ WeakV.c hk
theorem WeakV.tup2 {k : Nat} {u u' v v' : Value} {h : List Blk} (hk : k = 0) (hu : u = u') (hv : v = v') : WeakV k (.tup [.c u, .c v]) h (.tup [.c u', .c v']) [] := by
  subst hu; subst hv; exact WeakV.drop (n := 0) hk rfl
/-- A contract, out of the code. -/
theorem fnI {f : FuncId} {fn : Func} {ac : AC} {vars : List (Nat × List Nat)} {ars : List AR} {args : List V} {h0 : List Blk} {r : V} {h' : List Blk}
    (hf : P.funcs[f]? = some fn) (hbc : fn.body.bind (compC P fn.ntmps vars) = some ac) (hn : args.length ≤ fn.ntmps) (hr : fn.results.toList.mapM (compRes P) = some ars)
    (hA : ∀ Q : Exit → Fr → List Blk → Prop, (∀ fr h x, resV ars fr h = some x → WeakV h0.length x h r h' → Q .ret fr h) → AW P h0.length ac Q (enter 0 args) h0) : FnE P f args h0 r h' :=
  fn_body hf hbc hn hr (hA _ fun _ _ x h1 h2 => ⟨.inl rfl, x, h1, h2⟩)
/-- A contract over plain values, as a call. -/
theorem FnE.callsC {f : FuncId} {vs : Array Value} {r : Value} (h : FnE P f (vs.toList.map .c) [] (.c r) []) (w : World) : Calls P f vs w fun e w' => e = .returned r ∧ RowKit.Below w.heap.size w w' := by
  refine (h.calls w vs (by simp) (fun i v y hv hy => ?_)).mono ?_
  · rw [List.getElem?_map] at hy
    obtain ⟨u, h1, rfl⟩ := Option.map_eq_some_iff.1 hy
    have : vs[i]? = some u := by simpa using h1
    rw [hv] at this; cases this
    exact .c
  · rintro e w' ⟨v, ι', rfl, hr, hb⟩
    exact ⟨by rw [hr.c_eq], hb⟩
theorem out_c {h : List Blk} {ids : List Nat} {n : Nat} {v : Value} : out h ids n (.c v) = .c v := rfl
theorem out_sl {h : List Blk} {ids : List Nat} {n e : Nat} {rows : List (List V)} : out h ids n (.sl e rows) = .sl e rows := rfl
theorem out_agg {h : List Blk} {ids : List Nat} {n : Nat} {vs : List V} : out h ids n (.agg vs) = .agg (vs.map (out h ids n)) := by
  unfold out; rw [V.mapR, V.mapL_eq]
theorem out_tup {h : List Blk} {ids : List Nat} {n : Nat} {vs : List V} : out h ids n (.tup vs) = .tup (vs.map (out h ids n)) := by
  unfold out; rw [V.mapR, V.mapL_eq]
theorem frz_c {h : List Blk} {kp : Nat → Bool} {n : Nat} {v : Value} : frz h kp n (.c v) = .c v := by cases n <;> rfl
theorem frz_sl {h : List Blk} {kp : Nat → Bool} {n e : Nat} {rows : List (List V)} : frz h kp n (.sl e rows) = .sl e rows := by cases n <;> rfl
theorem frz_agg {h : List Blk} {kp : Nat → Bool} {n : Nat} {vs : List V} : frz h kp n (.agg vs) = .agg (vs.map (frz h kp n)) := by
  cases n <;> simp only [frz, V.mapR, V.mapL_eq]
theorem frz_psl {h : List Blk} {kp : Nat → Bool} {n b ver off len : Nat} {B : Blk} (hb : h[b]? = some B) (hv : B.ver = ver) (hk : kp b = false) : frz h kp (n + 1) (.psl b ver off len) = .sl B.esz (((B.rows.drop off).take len).map (·.map (frz h kp n))) := by
  simp [frz, V.mapR, hb, hv, hk]
/-- A slice of a block that is dropped becomes a tree. -/
theorem out_psl {h : List Blk} {n b ver off len : Nat} {B : Blk} (hb : h[b]? = some B) (hv : B.ver = ver) : out h [] (n + 1) (.psl b ver off len) = .sl B.esz (((B.rows.drop off).take len).map (·.map (frz h (fun b => (pos [] b).isSome) n))) := by
  rw [← frz_psl hb hv (by rfl)]
  rfl
/-- Numbers as rows of one cell. -/
def cells (xs : List Int) : List (List V) := xs.map fun x => [I x]
theorem cells_get (xs : List Int) (i : Nat) : (cells xs)[i]? = (xs[i]?).map fun x => [I x] := by simp [cells]
theorem cells_set (xs : List Int) (i : Nat) (y : Int) : (cells xs).set i [I y] = cells (xs.set i y) := by simp [cells, List.map_set]
theorem cells_len (xs : List Int) : (cells xs).length = xs.length := by simp [cells]
theorem cells_drop (xs : List Int) (i : Nat) : (cells xs).drop i = cells (xs.drop i) := by simp [cells, List.map_drop]
theorem cells_take (xs : List Int) (i : Nat) : (cells xs).take i = cells (xs.take i) := by simp [cells, List.map_take]
theorem cells_append (xs ys : List Int) : cells xs ++ cells ys = cells (xs ++ ys) := by simp [cells]
theorem cells_frz {h : List Blk} {kp : Nat → Bool} {n : Nat} (xs : List Int) : (cells xs).map (·.map (frz h kp n)) = cells xs := by
  simp [cells, Function.comp_def, frz_c]
theorem cells_out {h : List Blk} {ids : List Nat} {n : Nat} (xs : List Int) : (cells xs).map (·.map (out h ids n)) = cells xs := by
  simp [cells, Function.comp_def, out_c]
theorem cells_ren {ks : List Nat} (xs : List Int) : (cells xs).map (·.map (ren ks)) = cells xs := by
  simp [cells, Function.comp_def, ren_c]
theorem cells_pas {ks : List Nat} (xs : List Int) : (cells xs).map (·.map (pas ks)) = cells xs := by
  simp only [cells, List.map_map, Function.comp_def]; rfl
/-- The first i of them turned. -/
def turned (f : Int → Int) (xs : List Int) (i : Nat) (ys : List Int) : Prop := ys.length = xs.length ∧ (∀ j, j < i → ys[j]? = (xs[j]?).map f) ∧ ∀ j, i ≤ j → ys[j]? = xs[j]?
theorem turned_zero (f : Int → Int) (xs : List Int) : turned f xs 0 xs := ⟨rfl, fun j h => absurd h (Nat.not_lt_zero j), fun _ _ => rfl⟩
theorem turned_step {f : Int → Int} {xs : List Int} {i : Nat} {ys : List Int} {x : Int} (h : turned f xs i ys) (hx : ys[i]? = some x) : turned f xs (i + 1) (ys.set i (f x)) := by
  obtain ⟨h1, h2, h3⟩ := h
  have hi := (List.getElem?_eq_some_iff.1 hx).1
  refine ⟨by simpa using h1, fun j hj => ?_, fun j hj => ?_⟩
  · by_cases e : i = j
    · subst e
      rw [List.getElem?_set_self hi, ← h3 i (Nat.le_refl _), hx]; rfl
    · rw [List.getElem?_set_ne e]; exact h2 j (by omega)
  · rw [List.getElem?_set_ne (by omega)]; exact h3 j (by omega)
theorem turned_all {f : Int → Int} {xs : List Int} {i : Nat} {ys : List Int} (h : turned f xs i ys) (hi : xs.length ≤ i) : ys = xs.map f := by
  obtain ⟨h1, h2, h3⟩ := h
  apply List.ext_getElem?
  intro j
  rw [List.getElem?_map]
  by_cases hj : j < i
  · exact h2 j hj
  · rw [List.getElem?_eq_none (by omega), List.getElem?_eq_none (by omega)]; rfl
/-- A slice of an own block of numbers, kept. -/
theorem WeakV.keep1 {b len : Nat} {h : List Blk} {ys : List Int} (hb : h[b]? = some ⟨1, 1, cells ys⟩) : WeakV 0 (.psl b 1 0 len) h (.psl 0 1 0 len) [⟨1, 1, cells ys⟩] := by
  refine ⟨[b], 0, by simp, ?_, by omega, ?_, ?_⟩
  · intro c hc; simp at hc; subst hc; exact (List.getElem?_eq_some_iff.1 hb).1
  · simp only [outH, List.map, outB, List.getD_eq_getElem?_getD, hb, Option.getD_some, cells_out]
  · simp [out, V.mapR, pos]
theorem ren_psl {ks : List Nat} {b ver off len : Nat} : ren ks (.psl b ver off len) = match ks[b]? with
    | some b' => .psl b' ver off len
    | none => .any := rfl
theorem ren_ptr {ks : List Nat} {b ver r k : Nat} : ren ks (.ptr b ver r k) = match ks[b]? with
    | some b' => .ptr b' ver r k
    | none => .any := rfl
theorem upto_pos (m c i : Nat) (hi : i < m) : pos (upto c m) (c + i) = some i := nodup_pos (upto_nodup m c) (by rw [upto_get, if_pos hi])
theorem back_new (h hout : List Blk) : back (h ++ List.replicate hout.length dum) (upto h.length hout.length) hout = h ++ hout.map (renB (upto h.length hout.length)) := by
  apply List.ext_getElem?
  intro b
  by_cases hb : b < h.length
  · rw [back_out (fun hm => by have := (upto_mem hm).1; omega), List.getElem?_append_left hb, List.getElem?_append_left hb]
  · by_cases hb2 : b < h.length + hout.length
    · obtain ⟨i, rfl⟩ : ∃ i, b = h.length + i := ⟨b - h.length, by omega⟩
      have hi : i < hout.length := by omega
      unfold back
      rw [List.getElem?_map, List.getElem?_range (by simp; omega), Option.map_some, upto_pos _ _ _ hi]
      rw [List.getElem?_append_right (by omega), show h.length + i - h.length = i by omega, List.getElem?_map, List.getElem?_eq_getElem hi]
      simp [List.getD_eq_getElem?_getD, List.getElem?_eq_getElem hi]
    · rw [List.getElem?_eq_none (by rw [back_length]; simp; omega), List.getElem?_eq_none (by simp; omega)]
/-- A call that passes no blocks, and makes some. -/
theorem T.callN {f : FuncId} {args : List AO} {vs : List V} {r : V} {hout : List Blk} (he : enters P f = true) (hv : args.map (AO.ev (lk fr)) = vs) (hF : FnE P f (vs.map (pas [])) [] r hout) (hver : ∀ k ∈ hout, 0 < k.ver)
    (hK : WOpsT P rest (tr ++ [([], upto h.length hout.length)]) (put fr d (ren (upto h.length hout.length) r)) (h ++ hout.map (renB (upto h.length hout.length))) K) : WOpsT P (⟨d, .call f args, none⟩ :: rest) tr fr h K :=
  T.call (perm := []) (m := hout.length) he hv (by simp) (by simp) hF (by simp) (by simpa using hver) rfl rfl (by rw [List.nil_append, back_new]; exact hK)
end
end Go.Proofs.Ytjmmompbmjhkpaa.Calc
