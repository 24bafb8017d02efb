/- The calculus, part 2: operations on plain values: what an operator gives for numbers, truth values and texts, and that the model's operator gives just that. No condition beyond those in each lemma. -/
import Derived.Test.YtjmmompbmjhkpaaCalc1
import Derived.Laws.Entries
import Derived.Laws.BitsLemmas
import Derived.Laws.Strings
namespace Go.Proofs.Ytjmmompbmjhkpaa.Calc
open Go
variable {X : Nat → Prop}

/-- An operand. -/
inductive AO where
  | t (i : Nat)
  | k (v : Value)
  | f (g : FuncId)
  deriving Inhabited
def AO.ev (sl : Nat → V) : AO → V
  | .t i => sl i
  | .k v => .c v
  | .f g => .fn g []
def compO : Operand → Option AO
  | .tmp t => some (.t t)
  | .const v => some (.k v)
  | .func g => some (.f g)
  | .global _ => none

def SlRel (X : Nat → Prop) (w : World) (ι : List Place) (sl : Nat → V) (a : Act) : Prop := ∀ i, Rel w (OX X ι) ι (a.tmps.getD i undef) (sl i)

theorem AO.ev_rel {w : World} {ι : List Place} {sl : Nat → V} {a : Act} (hs : SlRel X w ι sl a) {o : Operand} {x : AO} (hx : compO o = some x) : Rel w (OX X ι) ι (a.eval o) (x.ev sl) := by
  cases o <;> simp only [compO, Option.some.injEq, reduceCtorEq] at hx <;> subst hx
  · exact hs _
  · exact .c
  · exact .fn rfl (by simp)

theorem Rel.c_eq {w : World} {own : Nat → Prop} {κ : List Place} {v u : Value} (h : Rel w own κ v (.c u)) : v = u := by cases h; rfl

/-- An operator on plain values. -/
def binV : BinOp → Value → Value → Option Value
  | .shl, .int k a, .int _ b => if b < 0 then none else some (.int k (k.wrap (a * 2 ^ min b.toNat k.bits)))
  | .shr, .int k a, .int _ b => if b < 0 then none else some (.int k (a / 2 ^ min b.toNat k.bits))
  | .add, .int k a, .int k' b => if k = k' then some (.int k (k.wrap (a + b))) else none
  | .sub, .int k a, .int k' b => if k = k' then some (.int k (k.wrap (a - b))) else none
  | .mul, .int k a, .int k' b => if k = k' then some (.int k (k.wrap (a * b))) else none
  | .quo, .int k a, .int k' b => if k = k' then if b = 0 then none else some (.int k (k.wrap (a.tdiv b))) else none
  | .rem, .int k a, .int k' b => if k = k' then if b = 0 then none else some (.int k (a.tmod b)) else none
  | .and, .int k a, .int k' b => if k = k' then some (.int k (bits .and k a b)) else none
  | .or, .int k a, .int k' b => if k = k' then some (.int k (bits .or k a b)) else none
  | .xor, .int k a, .int k' b => if k = k' then some (.int k (bits .xor k a b)) else none
  | .andNot, .int k a, .int k' b => if k = k' then some (.int k (bits .andNot k a b)) else none
  | .eql, .int k a, .int k' b => if k = k' then some (.bool (decide (a = b))) else none
  | .neq, .int k a, .int k' b => if k = k' then some (.bool (decide (a ≠ b))) else none
  | .lss, .int k a, .int k' b => if k = k' then some (.bool (decide (a < b))) else none
  | .leq, .int k a, .int k' b => if k = k' then some (.bool (decide (a ≤ b))) else none
  | .gtr, .int k a, .int k' b => if k = k' then some (.bool (decide (b < a))) else none
  | .geq, .int k a, .int k' b => if k = k' then some (.bool (decide (b ≤ a))) else none
  | .add, .string a, .string b => if a.size + b.size ≤ 9223372036854775807 then some (.string (a ++ b)) else none
  | .eql, .string a, .string b => some (.bool (decide (a = b)))
  | .neq, .string a, .string b => some (.bool (decide (a ≠ b)))
  | _, _, _ => none

theorem bytes_eq (a b : ByteArray) : (a.toList == b.toList) = decide (a = b) := by
  rw [Bool.eq_iff_iff]
  simp only [beq_iff_eq, decide_eq_true_eq]
  constructor
  · intro h
    have e : ∀ x : ByteArray, x.toList = x.data.toList := fun x => by
      exact ByteArray.toList_eq x
    rw [e, e] at h
    cases a; cases b
    simp at h; simp [h]
  · rintro rfl; rfl

theorem run_binV {P : Program} {op : BinOp} {t : TypeId} {xo yo : Operand} {x y v : Value} (h : binV op x y = some v) (w : World) :
    (do eqGuard op t xo yo x y; binOp op t x y).run P w = .ok v w := by
  unfold binV at h
  split at h
  · split at h
    · cases h
    · rename_i hb; cases h; simp [eqGuard_at_int, binOp, Op.shift, hb]
  · split at h
    · cases h
    · rename_i hb; cases h
      have e : ∀ a : Int, ∀ n : Nat, a.fdiv (2 ^ n) = a / 2 ^ n := fun a n => Int.fdiv_eq_ediv_of_nonneg _ (Int.le_of_lt (Int.pow_pos (by decide)))
      simp [eqGuard_at_int, binOp, Op.shift, hb, e]
  all_goals first
    | (split at h
       · split at h <;> simp_all [eqGuard_at_int, binOp, Op.intDiv]; done
       · cases h)
    | (split at h
       · rename_i hk; subst hk; cases h; simp [eqGuard_at_int, binOp, Op.intArith, Op.intBits, Op.intCmp, bits]; done
       · cases h)
    | (split at h
       · rename_i hk; subst hk; cases h
         simp only [eqGuard_at_int, binOp, Op.intCmp, Sem.run_bind, Sem.run_pure, Result.andThen_ok]
         simp only [ne_eq, not_true_eq_false, if_false, Sem.run_pure]
         first | rfl | (simp [bne]; rfl) | (congr 2; simp [bne])
       · cases h)
    | (cases h; simp [eqGuard_at_string, binOp, Op.stringOp, bytes_eq]; done)
    | (split at h
       · rename_i hk; cases h
         simp only [eqGuard_at_string, binOp, Op.stringOp, Sem.run_bind, Sem.run_pure, Result.andThen_ok]
         rw [if_neg (by simp; omega)]; rfl
       · cases h)
    | (cases h; done)
end Go.Proofs.Ytjmmompbmjhkpaa.Calc
