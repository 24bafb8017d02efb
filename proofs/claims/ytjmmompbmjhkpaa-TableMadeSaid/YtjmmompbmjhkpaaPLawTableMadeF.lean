/- Several texts in one (FnKit, BitsA, FnBase, FnField, FnTable, FnTableB, FnTableC, FnTableD, FnTableE, FnTableF, FnTableG, FnStream, FnMake, PureStd, FnStd, FnStdB, FnStdC, FnMakeB, FnMakeC, FnArith, FnAlu, FnDoS, PureCore, FnDoG, FnDo, FnAluL, FnCore, FnCoreB, FnCoreC, FnBytes, FnWhole, FnWholeB, FnStdD, FnStdE, FnStdF, FnStdG, FnStdH, FnCoreL, FnWholeC, PureTimes, PureMake, FnTCheck, PureMakeV, FnTimes, PureEnds), for the proof of LawTableMade. No condition beyond those in each lemma. -/
import Derived.Test.YtjmmompbmjhkpaaPLawTableMadeC
import Derived.Laws.BitsLemmas
import Derived.Laws.Wrap64
import Derived.RowKit
import Derived.Test.YtjmmompbmjhkpaaPLawTableMadeD
namespace Go.Proofs.Ytjmmompbmjhkpaa.Calc
open Go
set_option linter.unusedSimpArgs false
theorem out_pslK {h : List Blk} {ids : List Nat} {n b ver off len : Nat} {B : Blk} (hp : pos ids b = none) (hb : h[b]? = some B) (hv : B.ver = ver) : out h ids (n + 1) (.psl b ver off len) = .sl B.esz (((B.rows.drop off).take len).map (·.map (frz h (fun b => (pos ids b).isSome) n))) := by
  rw [← frz_psl hb hv (show (fun b => (pos ids b).isSome) b = false by dsimp only; rw [hp]; rfl)]
  simp only [out, V.mapR, hp]
end Go.Proofs.Ytjmmompbmjhkpaa.Calc

namespace Go.Proofs.Ytjmmompbmjhkpaa.BA
open Go Go.RowKit

def andn (a b : Nat) : Nat := a ^^^ (a &&& b)
def bitAt (n : Int) (i : Nat) : Nat := (n / 2 ^ i % 2).toNat
def rev : Nat → Int → Nat
  | 0, _ => 0
  | w + 1, n => 2 * rev w n + bitAt n w
def lo : Nat → Int → Nat
  | 0, _ => 0
  | w + 1, n => lo w n + bitAt n w * 2 ^ w
def pc : Nat → Int → Nat
  | 0, _ => 0
  | w + 1, n => pc w n + bitAt n w
end Go.Proofs.Ytjmmompbmjhkpaa.BA

namespace Go.Proofs.Ytjmmompbmjhkpaa.Calc
open Go Code
set_option linter.unusedSimpArgs false
set_option linter.unusedVariables false
set_option maxRecDepth 20000
attribute [local irreducible] WOpsT AW AK RK AKW UK UC
def wd (w : Int) : Nat := (max 0 (min w 62)).toNat
theorem below_ok (x n : Int) (hn : 0 < n) (hn2 : n < 4611686018427387904) : FnE Try.prog 29 [I x, I n] [] (I (x % n)) [] := by
  refine fnI Try.func29 k29 lb q29 fun Q hQ => ?_
  rw [c29]
  repeat (first
    | refine AW.regS fun K hK => ?_
    | refine AW.dregS fun K hK => ?_
    | refine AW.regN fun K hK => ?_
    | refine AW.dregN fun K hK => ?_
    | simp only [T.mv, sm, AO.ev, put, lk, enter, reduceIte, Nat.reduceEqDiff, Nat.reduceAdd, Nat.reduceMul, Nat.reduceSub, Int.reduceNeg, Int.reduceToNat, upto, renB, setAll]
    | refine T.nil ?_
    | (first | refine hK _ _ _ (by rfl) ?_ | refine hK _ _ _ ?_); simp only [keep, List.map, lk, reduceIte, Nat.reduceEqDiff, enter]; clear hK; clear K
    | refine T.add rfl rfl (by omega) (by omega) ?_
    | refine T.sub rfl rfl (by omega) (by omega) ?_
    | refine T.bin rfl rfl rfl ?_
    | refine T.rem rfl rfl (by omega) ?_
    | refine T.quo rfl rfl (by omega) ?_
    | refine T.shl rfl rfl (by omega) ?_
    | refine T.shr rfl rfl (by omega) ?_
    | refine T.min2 rfl rfl rfl ?_
    | refine T.max2 rfl rfl rfl ?_
    | refine T.ext rfl rfl ?_
    | refine T.lenc ?_
    | refine T.eqnP rfl rfl ⟨rfl, by decide⟩ ?_
    | refine T.eqnN rfl ?_
    | refine T.neg rfl ?_
    | refine T.xorn rfl ?_
    | refine T.notD rfl ?_
    | refine T.not rfl ?_
    | refine T.eqb0 rfl rfl ?_
    | refine T.eqb1 rfl rfl ?_
    | refine T.cvt rfl ?_
    | refine T.ld rfl rfl rfl rfl rfl ?_
    | refine T.ldd rfl rfl ?_
    | refine T.ldn rfl rfl rfl rfl lb ?_
    | refine T.lddn rfl lb ?_
    | refine T.fad rfl rfl rfl ?_
    | refine T.fadd rfl ?_
    | refine T.nilc rfl rfl rfl ?_
    | refine T.nilcd rfl ?_
    | refine T.st rfl rfl rfl ⟨rfl, rfl⟩ rfl lb ?_
    | refine T.fld rfl rfl ?_
    | refine T.new rfl ⟨rfl, by decide⟩ ?_
    | refine T.zero (by decide) ?_
    | refine T.build rfl ?_
    | refine T.len rfl rfl rfl ?_
    | refine T.lenS rfl ?_
    | refine T.lenN rfl ?_
    | refine T.mkf ?_
    | refine T.mki ?_
    | refine T.mksl rfl rfl (by decide) ?_
    | refine T.copy rfl rfl rfl ⟨rfl, rfl⟩ ?_
    | refine T.idx rfl rfl rfl ⟨rfl, rfl⟩ (by omega) ?_
    | refine T.idxa rfl rfl rfl rfl (by omega) ?_
    | refine T.idxd rfl rfl (by omega) ?_
    | refine T.bsl rfl (by decide) ?_
    | refine T.slc rfl rfl rfl rfl ⟨rfl, rfl⟩ (by omega) ?_
    | refine T.go rfl rfl ?_
    | refine T.pass rfl rfl ?_
    | refine T.pickB rfl rfl rfl ?_
    | refine AW.retI ?_)
  refine AW.seqI fun Q1 hN hX hR => ?_
  repeat (first
    | refine AW.regS fun K hK => ?_
    | refine AW.dregS fun K hK => ?_
    | refine AW.regN fun K hK => ?_
    | refine AW.dregN fun K hK => ?_
    | simp only [T.mv, sm, AO.ev, put, lk, enter, reduceIte, Nat.reduceEqDiff, Nat.reduceAdd, Nat.reduceMul, Nat.reduceSub, Int.reduceNeg, Int.reduceToNat, upto, renB, setAll]
    | refine T.nil ?_
    | (first | refine hK _ _ _ (by rfl) ?_ | refine hK _ _ _ ?_); simp only [keep, List.map, lk, reduceIte, Nat.reduceEqDiff, enter]; clear hK; clear K
    | refine T.add rfl rfl (by omega) (by omega) ?_
    | refine T.sub rfl rfl (by omega) (by omega) ?_
    | refine T.bin rfl rfl rfl ?_
    | refine T.rem rfl rfl (by omega) ?_
    | refine T.quo rfl rfl (by omega) ?_
    | refine T.shl rfl rfl (by omega) ?_
    | refine T.shr rfl rfl (by omega) ?_
    | refine T.min2 rfl rfl rfl ?_
    | refine T.max2 rfl rfl rfl ?_
    | refine T.ext rfl rfl ?_
    | refine T.lenc ?_
    | refine T.eqnP rfl rfl ⟨rfl, by decide⟩ ?_
    | refine T.eqnN rfl ?_
    | refine T.neg rfl ?_
    | refine T.xorn rfl ?_
    | refine T.notD rfl ?_
    | refine T.not rfl ?_
    | refine T.eqb0 rfl rfl ?_
    | refine T.eqb1 rfl rfl ?_
    | refine T.cvt rfl ?_
    | refine T.ld rfl rfl rfl rfl rfl ?_
    | refine T.ldd rfl rfl ?_
    | refine T.ldn rfl rfl rfl rfl lb ?_
    | refine T.lddn rfl lb ?_
    | refine T.fad rfl rfl rfl ?_
    | refine T.fadd rfl ?_
    | refine T.nilc rfl rfl rfl ?_
    | refine T.nilcd rfl ?_
    | refine T.st rfl rfl rfl ⟨rfl, rfl⟩ rfl lb ?_
    | refine T.fld rfl rfl ?_
    | refine T.new rfl ⟨rfl, by decide⟩ ?_
    | refine T.zero (by decide) ?_
    | refine T.build rfl ?_
    | refine T.len rfl rfl rfl ?_
    | refine T.lenS rfl ?_
    | refine T.lenN rfl ?_
    | refine T.mkf ?_
    | refine T.mki ?_
    | refine T.mksl rfl rfl (by decide) ?_
    | refine T.copy rfl rfl rfl ⟨rfl, rfl⟩ ?_
    | refine T.idx rfl rfl rfl ⟨rfl, rfl⟩ (by omega) ?_
    | refine T.idxa rfl rfl rfl rfl (by omega) ?_
    | refine T.idxd rfl rfl (by omega) ?_
    | refine T.bsl rfl (by decide) ?_
    | refine T.slc rfl rfl rfl rfl ⟨rfl, rfl⟩ (by omega) ?_
    | refine T.go rfl rfl ?_
    | refine T.pass rfl rfl ?_
    | refine T.pickB rfl rfl rfl ?_
    | refine AW.retI ?_)
  have hm : x % n = if x.tmod n < 0 then x.tmod n + n else x.tmod n := by
    rw [Int.tmod_eq_emod]
    have h0 := Int.emod_nonneg x (show n ≠ 0 by omega)
    have h1 := Int.emod_lt_of_pos x hn
    have h2 : (n.natAbs : Int) = n := by omega
    split <;> split <;> omega
  have hlo : -n ≤ x.tmod n ∧ x.tmod n < n := by
    have h0 := Int.emod_nonneg x (show n ≠ 0 by omega)
    have h1 := Int.emod_lt_of_pos x hn
    split at hm <;> omega
  refine AW.condB rfl (fun ht => ?_) (fun ht => ?_)
  · have ht := of_decide_eq_true ht
    rw [if_pos ht] at hm
    repeat (first
      | refine AW.regS fun K hK => ?_
      | refine AW.dregS fun K hK => ?_
      | refine AW.regN fun K hK => ?_
      | refine AW.dregN fun K hK => ?_
      | simp only [T.mv, sm, AO.ev, put, lk, enter, reduceIte, Nat.reduceEqDiff, Nat.reduceAdd, Nat.reduceMul, Nat.reduceSub, Int.reduceNeg, Int.reduceToNat, upto, renB, setAll]
      | refine T.nil ?_
      | (first | refine hK _ _ _ (by rfl) ?_ | refine hK _ _ _ ?_); simp only [keep, List.map, lk, reduceIte, Nat.reduceEqDiff, enter]; clear hK; clear K
      | refine T.add rfl rfl (by omega) (by omega) ?_
      | refine T.sub rfl rfl (by omega) (by omega) ?_
      | refine T.bin rfl rfl rfl ?_
      | refine T.rem rfl rfl (by omega) ?_
      | refine T.quo rfl rfl (by omega) ?_
      | refine T.shl rfl rfl (by omega) ?_
      | refine T.shr rfl rfl (by omega) ?_
      | refine T.min2 rfl rfl rfl ?_
      | refine T.max2 rfl rfl rfl ?_
      | refine T.ext rfl rfl ?_
      | refine T.lenc ?_
      | refine T.eqnP rfl rfl ⟨rfl, by decide⟩ ?_
      | refine T.eqnN rfl ?_
      | refine T.neg rfl ?_
      | refine T.xorn rfl ?_
      | refine T.notD rfl ?_
      | refine T.not rfl ?_
      | refine T.eqb0 rfl rfl ?_
      | refine T.eqb1 rfl rfl ?_
      | refine T.cvt rfl ?_
      | refine T.ld rfl rfl rfl rfl rfl ?_
      | refine T.ldd rfl rfl ?_
      | refine T.ldn rfl rfl rfl rfl lb ?_
      | refine T.lddn rfl lb ?_
      | refine T.fad rfl rfl rfl ?_
      | refine T.fadd rfl ?_
      | refine T.nilc rfl rfl rfl ?_
      | refine T.nilcd rfl ?_
      | refine T.st rfl rfl rfl ⟨rfl, rfl⟩ rfl lb ?_
      | refine T.fld rfl rfl ?_
      | refine T.new rfl ⟨rfl, by decide⟩ ?_
      | refine T.zero (by decide) ?_
      | refine T.build rfl ?_
      | refine T.len rfl rfl rfl ?_
      | refine T.lenS rfl ?_
      | refine T.lenN rfl ?_
      | refine T.mkf ?_
      | refine T.mki ?_
      | refine T.mksl rfl rfl (by decide) ?_
      | refine T.copy rfl rfl rfl ⟨rfl, rfl⟩ ?_
      | refine T.idx rfl rfl rfl ⟨rfl, rfl⟩ (by omega) ?_
      | refine T.idxa rfl rfl rfl rfl (by omega) ?_
      | refine T.idxd rfl rfl (by omega) ?_
      | refine T.bsl rfl (by decide) ?_
      | refine T.slc rfl rfl rfl rfl ⟨rfl, rfl⟩ (by omega) ?_
      | refine T.go rfl rfl ?_
      | refine T.pass rfl rfl ?_
      | refine T.pickB rfl rfl rfl ?_
      | refine AW.retI ?_)
    refine hN _ _ ?_
    repeat (first
      | refine AW.regS fun K hK => ?_
      | refine AW.dregS fun K hK => ?_
      | refine AW.regN fun K hK => ?_
      | refine AW.dregN fun K hK => ?_
      | simp only [T.mv, sm, AO.ev, put, lk, enter, reduceIte, Nat.reduceEqDiff, Nat.reduceAdd, Nat.reduceMul, Nat.reduceSub, Int.reduceNeg, Int.reduceToNat, upto, renB, setAll]
      | refine T.nil ?_
      | (first | refine hK _ _ _ (by rfl) ?_ | refine hK _ _ _ ?_); simp only [keep, List.map, lk, reduceIte, Nat.reduceEqDiff, enter]; clear hK; clear K
      | refine T.add rfl rfl (by omega) (by omega) ?_
      | refine T.sub rfl rfl (by omega) (by omega) ?_
      | refine T.bin rfl rfl rfl ?_
      | refine T.rem rfl rfl (by omega) ?_
      | refine T.quo rfl rfl (by omega) ?_
      | refine T.shl rfl rfl (by omega) ?_
      | refine T.shr rfl rfl (by omega) ?_
      | refine T.min2 rfl rfl rfl ?_
      | refine T.max2 rfl rfl rfl ?_
      | refine T.ext rfl rfl ?_
      | refine T.lenc ?_
      | refine T.eqnP rfl rfl ⟨rfl, by decide⟩ ?_
      | refine T.eqnN rfl ?_
      | refine T.neg rfl ?_
      | refine T.xorn rfl ?_
      | refine T.notD rfl ?_
      | refine T.not rfl ?_
      | refine T.eqb0 rfl rfl ?_
      | refine T.eqb1 rfl rfl ?_
      | refine T.cvt rfl ?_
      | refine T.ld rfl rfl rfl rfl rfl ?_
      | refine T.ldd rfl rfl ?_
      | refine T.ldn rfl rfl rfl rfl lb ?_
      | refine T.lddn rfl lb ?_
      | refine T.fad rfl rfl rfl ?_
      | refine T.fadd rfl ?_
      | refine T.nilc rfl rfl rfl ?_
      | refine T.nilcd rfl ?_
      | refine T.st rfl rfl rfl ⟨rfl, rfl⟩ rfl lb ?_
      | refine T.fld rfl rfl ?_
      | refine T.new rfl ⟨rfl, by decide⟩ ?_
      | refine T.zero (by decide) ?_
      | refine T.build rfl ?_
      | refine T.len rfl rfl rfl ?_
      | refine T.lenS rfl ?_
      | refine T.lenN rfl ?_
      | refine T.mkf ?_
      | refine T.mki ?_
      | refine T.mksl rfl rfl (by decide) ?_
      | refine T.copy rfl rfl rfl ⟨rfl, rfl⟩ ?_
      | refine T.idx rfl rfl rfl ⟨rfl, rfl⟩ (by omega) ?_
      | refine T.idxa rfl rfl rfl rfl (by omega) ?_
      | refine T.idxd rfl rfl (by omega) ?_
      | refine T.bsl rfl (by decide) ?_
      | refine T.slc rfl rfl rfl rfl ⟨rfl, rfl⟩ (by omega) ?_
      | refine T.go rfl rfl ?_
      | refine T.pass rfl rfl ?_
      | refine T.pickB rfl rfl rfl ?_
      | refine AW.retI ?_)
    exact hQ _ _ _ rfl (WeakV.cE rfl (by rw [hm]))
  · have ht := of_decide_eq_false ht
    rw [if_neg ht] at hm
    refine AW.skipI (hN _ _ ?_)
    repeat (first
      | refine AW.regS fun K hK => ?_
      | refine AW.dregS fun K hK => ?_
      | refine AW.regN fun K hK => ?_
      | refine AW.dregN fun K hK => ?_
      | simp only [T.mv, sm, AO.ev, put, lk, enter, reduceIte, Nat.reduceEqDiff, Nat.reduceAdd, Nat.reduceMul, Nat.reduceSub, Int.reduceNeg, Int.reduceToNat, upto, renB, setAll]
      | refine T.nil ?_
      | (first | refine hK _ _ _ (by rfl) ?_ | refine hK _ _ _ ?_); simp only [keep, List.map, lk, reduceIte, Nat.reduceEqDiff, enter]; clear hK; clear K
      | refine T.add rfl rfl (by omega) (by omega) ?_
      | refine T.sub rfl rfl (by omega) (by omega) ?_
      | refine T.bin rfl rfl rfl ?_
      | refine T.rem rfl rfl (by omega) ?_
      | refine T.quo rfl rfl (by omega) ?_
      | refine T.shl rfl rfl (by omega) ?_
      | refine T.shr rfl rfl (by omega) ?_
      | refine T.min2 rfl rfl rfl ?_
      | refine T.max2 rfl rfl rfl ?_
      | refine T.ext rfl rfl ?_
      | refine T.lenc ?_
      | refine T.eqnP rfl rfl ⟨rfl, by decide⟩ ?_
      | refine T.eqnN rfl ?_
      | refine T.neg rfl ?_
      | refine T.xorn rfl ?_
      | refine T.notD rfl ?_
      | refine T.not rfl ?_
      | refine T.eqb0 rfl rfl ?_
      | refine T.eqb1 rfl rfl ?_
      | refine T.cvt rfl ?_
      | refine T.ld rfl rfl rfl rfl rfl ?_
      | refine T.ldd rfl rfl ?_
      | refine T.ldn rfl rfl rfl rfl lb ?_
      | refine T.lddn rfl lb ?_
      | refine T.fad rfl rfl rfl ?_
      | refine T.fadd rfl ?_
      | refine T.nilc rfl rfl rfl ?_
      | refine T.nilcd rfl ?_
      | refine T.st rfl rfl rfl ⟨rfl, rfl⟩ rfl lb ?_
      | refine T.fld rfl rfl ?_
      | refine T.new rfl ⟨rfl, by decide⟩ ?_
      | refine T.zero (by decide) ?_
      | refine T.build rfl ?_
      | refine T.len rfl rfl rfl ?_
      | refine T.lenS rfl ?_
      | refine T.lenN rfl ?_
      | refine T.mkf ?_
      | refine T.mki ?_
      | refine T.mksl rfl rfl (by decide) ?_
      | refine T.copy rfl rfl rfl ⟨rfl, rfl⟩ ?_
      | refine T.idx rfl rfl rfl ⟨rfl, rfl⟩ (by omega) ?_
      | refine T.idxa rfl rfl rfl rfl (by omega) ?_
      | refine T.idxd rfl rfl (by omega) ?_
      | refine T.bsl rfl (by decide) ?_
      | refine T.slc rfl rfl rfl rfl ⟨rfl, rfl⟩ (by omega) ?_
      | refine T.go rfl rfl ?_
      | refine T.pass rfl rfl ?_
      | refine T.pickB rfl rfl rfl ?_
      | refine AW.retI ?_)
    exact hQ _ _ _ rfl (WeakV.cE rfl (by rw [hm]))
end Go.Proofs.Ytjmmompbmjhkpaa.Calc

namespace Go.Proofs.Ytjmmompbmjhkpaa.Calc
open Go Code
set_option linter.unusedSimpArgs false
set_option linter.unusedVariables false
set_option maxRecDepth 20000
attribute [local irreducible] WOpsT AW AK RK AKW
def putv (v : Int) (i n : Nat) (x : Int) : Int := v % 2 ^ i + x % 2 ^ n * 2 ^ i + v % 2 ^ 62 / 2 ^ (i + n) * 2 ^ (i + n)
end Go.Proofs.Ytjmmompbmjhkpaa.Calc

namespace Go.Proofs.Ytjmmompbmjhkpaa.Calc
open Go Code
set_option linter.unusedSimpArgs false
set_option linter.unusedVariables false
set_option maxRecDepth 20000
set_option maxHeartbeats 4000000
attribute [local irreducible] WOpsT AW AK RK AKW UK UC
def sizeM (m : Int) : Int := if m = 0 then 0 else if m = 4 ∨ m = 5 ∨ m = 6 then 2 else if m = 1 ∨ m = 2 ∨ m = 3 ∨ m = 7 ∨ m = 8 then 1 else -1
theorem size_ok (m : Int) : FnE Try.prog 68 [I m] [] (I (sizeM m)) [] := by
  refine N.fn Try.func68 k68 lb q68 fun Q hQ hQN => ?_
  rw [c68]
  repeat' (first
  | refine N.regS fun K hK => ?_
  | refine N.dregS fun K hK => ?_
  | refine N.regN fun K hK => ?_
  | refine N.dregN fun K hK => ?_
  | simp only [T.mv, sm, AO.ev, put, lk, enter, reduceIte, Nat.reduceEqDiff, Nat.reduceAdd, Nat.reduceMul, Nat.reduceSub, Int.reduceNeg, Int.reduceToNat, upto, renB, setAll]
  | (refine T.nil ?_; (first | refine hK _ _ _ (by rfl) ?_ | refine hK _ _ _ ?_); (try simp only [keep, List.map, lk, reduceIte, Nat.reduceEqDiff, enter]); clear hK K)
  | (show WOpsT _ (⟨_, .bin _ _ _, none⟩ :: _) _ _ _ _; first | refine L.bin ?_)
  | (show AKW _ _ _ _ _ _ _; first | refine N.now ?_)
  | (show AK _ _ (.cond _ _ _) _ _ _ _; first | refine N.c1 ?_ | refine N.c2 ?_ | refine N.c3 ?_ | refine N.c4 ?_ | refine N.condD rfl (fun hcd => ?_) (fun hcd => ?_) | refine N.condB rfl (fun hcd => ?_) (fun hcd => ?_) | refine N.condU rfl ?_ ?_)
  | (show AK _ _ _ _ _ _ _; first | refine N.seq ?_ | refine N.block ?_ | refine N.skip ?_ | refine N.ret ?_)
  | (show RK _ _ _ _ _ _ _; simp only [rk, rk0, reduceIte, Nat.reduceEqDiff])
  | refine hQ _ _ _ rfl ?_
  | refine hQN _ _ _ rfl ?_)
  all_goals (refine WS.c rfl ?_; congr 1; unfold sizeM; repeat' split) <;> omega
theorem wideT_ok (r : Int) : FnE Try.prog 104 [I r] [] (.c (.bool (decide (r = 7 ∨ r = 8)))) [] := by
  refine N.fn Try.func104 k104 lb q104 fun Q hQ hQN => ?_
  rw [c104]
  repeat' (first
  | refine N.regS fun K hK => ?_
  | refine N.dregS fun K hK => ?_
  | refine N.regN fun K hK => ?_
  | refine N.dregN fun K hK => ?_
  | simp only [T.mv, sm, AO.ev, put, lk, enter, reduceIte, Nat.reduceEqDiff, Nat.reduceAdd, Nat.reduceMul, Nat.reduceSub, Int.reduceNeg, Int.reduceToNat, upto, renB, setAll]
  | (refine T.nil ?_; (first | refine hK _ _ _ (by rfl) ?_ | refine hK _ _ _ ?_); (try simp only [keep, List.map, lk, reduceIte, Nat.reduceEqDiff, enter]); clear hK K)
  | (show WOpsT _ (⟨_, .bin _ _ _, none⟩ :: _) _ _ _ _; first | refine L.bin ?_)
  | (show WOpsT _ (⟨_, _, some (_, false)⟩ :: _) _ _ _ _; first | refine L.goF ?_ | refine L.paF ?_ | refine L.go ?_ | refine L.pass ?_ | refine T.pU rfl ?_ | refine T.gF rfl (fun hgd => ?_) (fun hgd => ?_))
  | (show WOpsT _ (⟨_, .pick _ _ _, none⟩ :: _) _ _ _ _; first | refine L.pkT ?_ | refine L.pkF ?_ | refine L.pickT ?_ | refine L.pickF ?_ | refine L.pickB ?_ | refine T.pkD rfl (fun hgd => ?_) (fun hgd => ?_))
  | (show AKW _ _ _ _ _ _ _; first | refine N.now ?_)
  | (show AK _ _ _ _ _ _ _; first | refine N.seq ?_ | refine N.ret ?_)
  | (show RK _ _ _ _ _ _ _; simp only [rk, rk0, reduceIte, Nat.reduceEqDiff])
  | refine hQ _ _ _ rfl ?_
  | refine hQN _ _ _ rfl ?_)
  all_goals (refine WS.bool rfl ?_; simp only [decide_eq_true_eq, Bool.false_eq_true, true_iff, false_iff, iff_true, iff_false] <;> omega)
theorem register_ok (r : Int) : FnE Try.prog 188 [I r] [] (.c (.bool (decide (0 ≤ r ∧ r < 9)))) [] := by
  refine N.fn Try.func188 k188 lb q188 fun Q hQ hQN => ?_
  rw [c188]
  repeat' (first
  | refine N.regS fun K hK => ?_
  | refine N.dregS fun K hK => ?_
  | refine N.regN fun K hK => ?_
  | refine N.dregN fun K hK => ?_
  | simp only [T.mv, sm, AO.ev, put, lk, enter, reduceIte, Nat.reduceEqDiff, Nat.reduceAdd, Nat.reduceMul, Nat.reduceSub, Int.reduceNeg, Int.reduceToNat, upto, renB, setAll]
  | (refine T.nil ?_; (first | refine hK _ _ _ (by rfl) ?_ | refine hK _ _ _ ?_); (try simp only [keep, List.map, lk, reduceIte, Nat.reduceEqDiff, enter]); clear hK K)
  | (show WOpsT _ (⟨_, .bin _ _ _, none⟩ :: _) _ _ _ _; first | refine L.bin ?_)
  | (show WOpsT _ (⟨_, _, some (_, true)⟩ :: _) _ _ _ _; first | refine L.goT ?_ | refine L.paT ?_ | refine L.go ?_ | refine L.pass ?_ | refine T.pU rfl ?_ | refine T.gT rfl (fun hgd => ?_) (fun hgd => ?_))
  | (show WOpsT _ (⟨_, .pick _ _ _, none⟩ :: _) _ _ _ _; first | refine L.pkT ?_ | refine L.pkF ?_ | refine L.pickT ?_ | refine L.pickF ?_ | refine L.pickB ?_ | refine T.pkD rfl (fun hgd => ?_) (fun hgd => ?_))
  | (show AKW _ _ _ _ _ _ _; first | refine N.now ?_)
  | (show AK _ _ _ _ _ _ _; first | refine N.seq ?_ | refine N.ret ?_)
  | (show RK _ _ _ _ _ _ _; simp only [rk, rk0, reduceIte, Nat.reduceEqDiff])
  | refine hQ _ _ _ rfl ?_
  | refine hQN _ _ _ rfl ?_)
  all_goals (refine WS.bool rfl ?_; simp only [decide_eq_true_eq, Bool.false_eq_true, true_iff, false_iff, iff_true, iff_false] <;> omega)
def usesL : List (Int × Int × Bool) := [(0, 0, false), (115, 115, false), (97, 0, true), (98, 0, false), (98, 98, false), (98, 98, false), (98, 98, false), (98, 98, false), (98, 98, false), (98, 98, false), (97, 0, false), (97, 0, false), (98, 0, false), (98, 0, false), (98, 0, false), (98, 0, false), (0, 0, true), (0, 0, true), (119, 98, false), (119, 98, false), (98, 119, false), (98, 119, false), (119, 98, false), (119, 98, false)]
def usesT (d : Int) : Int × Int × Bool := usesL.getD d.toNat (0, 0, false)
theorem uses_ok (d : Int) (h : 0 ≤ d ∧ d < 24) : FnE Try.prog 195 [I d] [] (.tup [.c (.int .u8 (usesT d).1), .c (.int .u8 (usesT d).2.1), .c (.bool (usesT d).2.2)]) [] := by
  refine N.fn Try.func195 k195 lb q195 fun Q hQ hQN => ?_
  rw [c195]
  repeat' (first
  | refine N.regS fun K hK => ?_
  | refine N.dregS fun K hK => ?_
  | refine N.regN fun K hK => ?_
  | refine N.dregN fun K hK => ?_
  | simp only [T.mv, sm, AO.ev, put, lk, enter, reduceIte, Nat.reduceEqDiff, Nat.reduceAdd, Nat.reduceMul, Nat.reduceSub, Int.reduceNeg, Int.reduceToNat, upto, renB, setAll]
  | (refine T.nil ?_; (first | refine hK _ _ _ (by rfl) ?_ | refine hK _ _ _ ?_); (try simp only [keep, List.map, lk, reduceIte, Nat.reduceEqDiff, enter]); clear hK K)
  | (show WOpsT _ (⟨_, .bin _ _ _, none⟩ :: _) _ _ _ _; first | refine L.bin ?_)
  | (show AKW _ _ _ _ _ _ _; first | refine N.now ?_)
  | (show AK _ _ (.cond _ _ _) _ _ _ _; first | refine N.c1 ?_ | refine N.c2 ?_ | refine N.c3 ?_ | refine N.c4 ?_ | refine N.condD rfl (fun hcd => ?_) (fun hcd => ?_) | refine N.condB rfl (fun hcd => ?_) (fun hcd => ?_) | refine N.condU rfl ?_ ?_)
  | (show AK _ _ _ _ _ _ _; first | refine N.seq ?_ | refine N.block ?_ | refine N.skip ?_ | refine N.ret ?_)
  | (show RK _ _ _ _ _ _ _; simp only [rk, rk0, reduceIte, Nat.reduceEqDiff])
  | refine hQ _ _ _ rfl ?_
  | refine hQN _ _ _ rfl ?_)
  all_goals first
    | (subst hcd; exact WS.drop (n := 0) rfl rfl)
    | (obtain rfl : d = 0 := by omega
       exact WS.drop (n := 0) rfl rfl)
def fitsP (r n : Int) : Prop := if n = 0 then r = 0 else if n = 119 then r = 7 ∨ r = 8 else if n = 98 then 0 ≤ r ∧ r < 7 else 0 ≤ r ∧ r < 9
theorem fits_ok (r n : Int) (h : fitsP r n) : FnE Try.prog 196 [I r, .c (.int .u8 n)] [] (.c (.bool true)) [] := by
  refine N.fn Try.func196 k196 lb q196 fun Q hQ hQN => ?_
  rw [c196]
  have h1 := wideT_ok r
  have h2 := register_ok r
  unfold fitsP at h
  by_cases n0 : n = 0
  · rw [if_pos n0] at h
    repeat' (first
    | refine N.regS fun K hK => ?_
    | refine N.dregS fun K hK => ?_
    | refine N.regN fun K hK => ?_
    | refine N.dregN fun K hK => ?_
    | simp only [T.mv, sm, AO.ev, put, lk, enter, reduceIte, Nat.reduceEqDiff, Nat.reduceAdd, Nat.reduceMul, Nat.reduceSub, Int.reduceNeg, Int.reduceToNat, upto, renB, setAll]
    | (refine T.nil ?_; (first | refine hK _ _ _ (by rfl) ?_ | refine hK _ _ _ ?_); (try simp only [keep, List.map, lk, reduceIte, Nat.reduceEqDiff, enter]); clear hK K)
    | (show WOpsT _ (⟨_, .call _ _, none⟩ :: _) _ _ _ _; first | refine T.call0 e104 rfl (h1) ?_ | refine T.call0 e188 rfl (h2) ?_)
    | (show WOpsT _ (⟨_, .bin _ _ _, none⟩ :: _) _ _ _ _; first | refine L.bin ?_)
    | (show WOpsT _ (⟨_, _, some (_, true)⟩ :: _) _ _ _ _; first | refine L.goT ?_ | refine L.paT ?_ | refine L.go ?_ | refine L.pass ?_ | refine T.pU rfl ?_ | refine T.gT rfl (fun hgd => ?_) (fun hgd => ?_))
    | (show WOpsT _ (⟨_, .pick _ _ _, none⟩ :: _) _ _ _ _; first | refine L.pkT ?_ | refine L.pkF ?_ | refine L.pickT ?_ | refine L.pickF ?_ | refine L.pickB ?_ | refine T.pkD rfl (fun hgd => ?_) (fun hgd => ?_))
    | (show AKW _ _ _ _ _ _ _; first | refine N.now ?_)
    | (show AK _ _ (.cond _ _ _) _ _ _ _; first | refine N.c1 ?_ | refine N.c2 ?_ | refine N.c3 ?_ | refine N.c4 ?_ | refine N.condD rfl (fun hcd => ?_) (fun hcd => ?_) | refine N.condB rfl (fun hcd => ?_) (fun hcd => ?_) | refine N.condU rfl ?_ ?_)
    | (show AK _ _ _ _ _ _ _; first | refine N.seq ?_ | refine N.block ?_ | refine N.skip ?_ | refine N.ret ?_)
    | (show RK _ _ _ _ _ _ _; simp only [rk, rk0, reduceIte, Nat.reduceEqDiff])
    | (show WOpsT _ _ _ _ _ _; first | refine T.notD rfl ?_ | refine T.not rfl ?_)
    | refine hQ _ _ _ rfl ?_
    | refine hQN _ _ _ rfl ?_)
    all_goals (refine WS.bool rfl ?_; simp only [decide_eq_true_eq, Bool.false_eq_true, true_iff, false_iff, iff_true, iff_false] <;> omega)
  rw [if_neg n0] at h
  by_cases n1 : n = 119
  · rw [if_pos n1] at h
    rw [show decide (r = 7 ∨ r = 8) = true from decide_eq_true h] at h1
    rw [show decide (0 ≤ r ∧ r < 9) = true from decide_eq_true (by omega)] at h2
    repeat' (first
    | refine N.regS fun K hK => ?_
    | refine N.dregS fun K hK => ?_
    | refine N.regN fun K hK => ?_
    | refine N.dregN fun K hK => ?_
    | simp only [T.mv, sm, AO.ev, put, lk, enter, reduceIte, Nat.reduceEqDiff, Nat.reduceAdd, Nat.reduceMul, Nat.reduceSub, Int.reduceNeg, Int.reduceToNat, upto, renB, setAll]
    | (refine T.nil ?_; (first | refine hK _ _ _ (by rfl) ?_ | refine hK _ _ _ ?_); (try simp only [keep, List.map, lk, reduceIte, Nat.reduceEqDiff, enter]); clear hK K)
    | (show WOpsT _ (⟨_, .call _ _, none⟩ :: _) _ _ _ _; first | refine T.call0 e104 rfl (h1) ?_ | refine T.call0 e188 rfl (h2) ?_)
    | (show WOpsT _ (⟨_, .bin _ _ _, none⟩ :: _) _ _ _ _; first | refine L.bin ?_)
    | (show WOpsT _ (⟨_, _, some (_, true)⟩ :: _) _ _ _ _; first | refine L.goT ?_ | refine L.paT ?_ | refine L.go ?_ | refine L.pass ?_ | refine T.pU rfl ?_ | refine T.gT rfl (fun hgd => ?_) (fun hgd => ?_))
    | (show WOpsT _ (⟨_, .pick _ _ _, none⟩ :: _) _ _ _ _; first | refine L.pkT ?_ | refine L.pkF ?_ | refine L.pickT ?_ | refine L.pickF ?_ | refine L.pickB ?_ | refine T.pkD rfl (fun hgd => ?_) (fun hgd => ?_))
    | (show AKW _ _ _ _ _ _ _; first | refine N.now ?_)
    | (show AK _ _ (.cond _ _ _) _ _ _ _; first | refine N.c1 ?_ | refine N.c2 ?_ | refine N.c3 ?_ | refine N.c4 ?_ | refine N.condD rfl (fun hcd => ?_) (fun hcd => ?_) | refine N.condB rfl (fun hcd => ?_) (fun hcd => ?_) | refine N.condU rfl ?_ ?_)
    | (show AK _ _ _ _ _ _ _; first | refine N.seq ?_ | refine N.block ?_ | refine N.skip ?_ | refine N.ret ?_)
    | (show RK _ _ _ _ _ _ _; simp only [rk, rk0, reduceIte, Nat.reduceEqDiff])
    | (show WOpsT _ _ _ _ _ _; first | refine T.notD rfl ?_ | refine T.not rfl ?_)
    | refine hQ _ _ _ rfl ?_
    | refine hQN _ _ _ rfl ?_)
    all_goals (refine WS.bool rfl ?_; simp only [decide_eq_true_eq, Bool.false_eq_true, true_iff, false_iff, iff_true, iff_false] <;> omega)
  rw [if_neg n1] at h
  by_cases n2 : n = 98
  · rw [if_pos n2] at h
    rw [show decide (r = 7 ∨ r = 8) = false from decide_eq_false (by omega)] at h1
    rw [show decide (0 ≤ r ∧ r < 9) = true from decide_eq_true (by omega)] at h2
    repeat' (first
    | refine N.regS fun K hK => ?_
    | refine N.dregS fun K hK => ?_
    | refine N.regN fun K hK => ?_
    | refine N.dregN fun K hK => ?_
    | simp only [T.mv, sm, AO.ev, put, lk, enter, reduceIte, Nat.reduceEqDiff, Nat.reduceAdd, Nat.reduceMul, Nat.reduceSub, Int.reduceNeg, Int.reduceToNat, upto, renB, setAll]
    | (refine T.nil ?_; (first | refine hK _ _ _ (by rfl) ?_ | refine hK _ _ _ ?_); (try simp only [keep, List.map, lk, reduceIte, Nat.reduceEqDiff, enter]); clear hK K)
    | (show WOpsT _ (⟨_, .call _ _, none⟩ :: _) _ _ _ _; first | refine T.call0 e104 rfl (h1) ?_ | refine T.call0 e188 rfl (h2) ?_)
    | (show WOpsT _ (⟨_, .bin _ _ _, none⟩ :: _) _ _ _ _; first | refine L.bin ?_)
    | (show WOpsT _ (⟨_, _, some (_, true)⟩ :: _) _ _ _ _; first | refine L.goT ?_ | refine L.paT ?_ | refine L.go ?_ | refine L.pass ?_ | refine T.pU rfl ?_ | refine T.gT rfl (fun hgd => ?_) (fun hgd => ?_))
    | (show WOpsT _ (⟨_, .pick _ _ _, none⟩ :: _) _ _ _ _; first | refine L.pkT ?_ | refine L.pkF ?_ | refine L.pickT ?_ | refine L.pickF ?_ | refine L.pickB ?_ | refine T.pkD rfl (fun hgd => ?_) (fun hgd => ?_))
    | (show AKW _ _ _ _ _ _ _; first | refine N.now ?_)
    | (show AK _ _ (.cond _ _ _) _ _ _ _; first | refine N.c1 ?_ | refine N.c2 ?_ | refine N.c3 ?_ | refine N.c4 ?_ | refine N.condD rfl (fun hcd => ?_) (fun hcd => ?_) | refine N.condB rfl (fun hcd => ?_) (fun hcd => ?_) | refine N.condU rfl ?_ ?_)
    | (show AK _ _ _ _ _ _ _; first | refine N.seq ?_ | refine N.block ?_ | refine N.skip ?_ | refine N.ret ?_)
    | (show RK _ _ _ _ _ _ _; simp only [rk, rk0, reduceIte, Nat.reduceEqDiff])
    | (show WOpsT _ _ _ _ _ _; first | refine T.notD rfl ?_ | refine T.not rfl ?_)
    | refine hQ _ _ _ rfl ?_
    | refine hQN _ _ _ rfl ?_)
    all_goals (refine WS.bool rfl ?_; simp only [decide_eq_true_eq, Bool.false_eq_true, true_iff, false_iff, iff_true, iff_false, Bool.not_false, Bool.not_true] <;> omega)
  rw [if_neg n2] at h
  rw [show decide (0 ≤ r ∧ r < 9) = true from decide_eq_true (by omega)] at h2
  repeat' (first
  | refine N.regS fun K hK => ?_
  | refine N.dregS fun K hK => ?_
  | refine N.regN fun K hK => ?_
  | refine N.dregN fun K hK => ?_
  | simp only [T.mv, sm, AO.ev, put, lk, enter, reduceIte, Nat.reduceEqDiff, Nat.reduceAdd, Nat.reduceMul, Nat.reduceSub, Int.reduceNeg, Int.reduceToNat, upto, renB, setAll]
  | (refine T.nil ?_; (first | refine hK _ _ _ (by rfl) ?_ | refine hK _ _ _ ?_); (try simp only [keep, List.map, lk, reduceIte, Nat.reduceEqDiff, enter]); clear hK K)
  | (show WOpsT _ (⟨_, .call _ _, none⟩ :: _) _ _ _ _; first | refine T.call0 e104 rfl (h1) ?_ | refine T.call0 e188 rfl (h2) ?_)
  | (show WOpsT _ (⟨_, .bin _ _ _, none⟩ :: _) _ _ _ _; first | refine L.bin ?_)
  | (show WOpsT _ (⟨_, _, some (_, true)⟩ :: _) _ _ _ _; first | refine L.goT ?_ | refine L.paT ?_ | refine L.go ?_ | refine L.pass ?_ | refine T.pU rfl ?_ | refine T.gT rfl (fun hgd => ?_) (fun hgd => ?_))
  | (show WOpsT _ (⟨_, .pick _ _ _, none⟩ :: _) _ _ _ _; first | refine L.pkT ?_ | refine L.pkF ?_ | refine L.pickT ?_ | refine L.pickF ?_ | refine L.pickB ?_ | refine T.pkD rfl (fun hgd => ?_) (fun hgd => ?_))
  | (show AKW _ _ _ _ _ _ _; first | refine N.now ?_)
  | (show AK _ _ (.cond _ _ _) _ _ _ _; first | refine N.c1 ?_ | refine N.c2 ?_ | refine N.c3 ?_ | refine N.c4 ?_ | refine N.condD rfl (fun hcd => ?_) (fun hcd => ?_) | refine N.condB rfl (fun hcd => ?_) (fun hcd => ?_) | refine N.condU rfl ?_ ?_)
  | (show AK _ _ _ _ _ _ _; first | refine N.seq ?_ | refine N.block ?_ | refine N.skip ?_ | refine N.ret ?_)
  | (show RK _ _ _ _ _ _ _; simp only [rk, rk0, reduceIte, Nat.reduceEqDiff])
  | (show WOpsT _ _ _ _ _ _; first | refine T.notD rfl ?_ | refine T.not rfl ?_)
  | refine hQ _ _ _ rfl ?_
  | refine hQN _ _ _ rfl ?_)
  all_goals (refine WS.bool rfl ?_; simp only [decide_eq_true_eq, Bool.false_eq_true, true_iff, false_iff, iff_true, iff_false] <;> omega)
structure Stp where
  op : Int
  to : Int
  fr : Int
  n : Int
def stC (s : Stp) : List V := [I s.op, I s.to, I s.fr, I s.n]
def VStep (s : Stp) : Prop := (s.op = 24 ∧ s.to = 0 ∧ (0 ≤ s.fr ∧ s.fr ≤ 1) ∧ 0 ≤ s.n ∧ s.n ≤ 255) ∨ ((0 ≤ s.op ∧ s.op < 24) ∧ fitsP s.to (usesT s.op).1 ∧ fitsP s.fr (usesT s.op).2.1 ∧ ((usesT s.op).1 = 115 → (s.to < 7 ↔ s.fr < 7)) ∧ 0 ≤ s.n ∧ s.n ≤ if (usesT s.op).2.2 = true then (if s.op = 2 ∧ 7 ≤ s.to then 65535 else 255) else 0)
theorem fitsP_in {r n : Int} (h : fitsP r n) : 0 ≤ r ∧ r < 9 := by
  unfold fitsP at h
  split at h
  · omega
  · split at h
    · omega
    · split at h <;> omega
theorem steps_ok (s : Stp) (hs : VStep s) : FnE Try.prog 189 [.agg (stC s)] [] (I 0) [] := by
  obtain ⟨d, t, f, n⟩ := s
  refine N.fn Try.func189 k189 lb q189 fun Q hQ hQN => ?_
  rw [c189]
  rcases hs with ⟨h1, h2, h3, h4⟩ | ⟨h1, h2, h3, h4, h5, h6⟩
  · dsimp only at h1 h2 h3 h4
    subst h1 h2
    repeat' (first
    | refine N.regS fun K hK => ?_
    | refine N.dregS fun K hK => ?_
    | refine N.regN fun K hK => ?_
    | refine N.dregN fun K hK => ?_
    | simp only [T.mv, sm, AO.ev, put, lk, enter, reduceIte, Nat.reduceEqDiff, Nat.reduceAdd, Nat.reduceMul, Nat.reduceSub, Int.reduceNeg, Int.reduceToNat, upto, renB, setAll]
    | (refine T.nil ?_; (first | refine hK _ _ _ (by rfl) ?_ | refine hK _ _ _ ?_); (try simp only [keep, List.map, lk, reduceIte, Nat.reduceEqDiff, enter]); clear hK K)
    | (show WOpsT _ (⟨_, .ld _ _, none⟩ :: _) _ _ _ _; first | refine L.ld ?_ | refine L.ldd ?_)
    | (show WOpsT _ (⟨_, .bin _ _ _, none⟩ :: _) _ _ _ _; first | refine L.bin ?_)
    | (show WOpsT _ (⟨_, _, some (_, true)⟩ :: _) _ _ _ _; first | refine L.goT ?_ | refine L.paT ?_ | refine L.go ?_ | refine L.pass ?_ | refine T.pU rfl ?_ | refine T.gT rfl (fun hgd => ?_) (fun hgd => ?_))
    | (show WOpsT _ (⟨_, _, some (_, false)⟩ :: _) _ _ _ _; first | refine L.goF ?_ | refine L.paF ?_ | refine L.go ?_ | refine L.pass ?_ | refine T.pU rfl ?_ | refine T.gF rfl (fun hgd => ?_) (fun hgd => ?_))
    | (show WOpsT _ (⟨_, .pick _ _ _, none⟩ :: _) _ _ _ _; first | refine L.pkT ?_ | refine L.pkF ?_ | refine L.pickT ?_ | refine L.pickF ?_ | refine L.pickB ?_ | refine T.pkD rfl (fun hgd => ?_) (fun hgd => ?_))
    | (show AKW _ _ _ _ _ _ _; first | refine N.now ?_)
    | (show AK _ _ (.cond _ _ _) _ _ _ _; first | refine N.c1 ?_ | refine N.c2 ?_ | refine N.c3 ?_ | refine N.c4 ?_ | refine N.condD rfl (fun hcd => ?_) (fun hcd => ?_) | refine N.condB rfl (fun hcd => ?_) (fun hcd => ?_) | refine N.condU rfl ?_ ?_)
    | (show AK _ _ _ _ _ _ _; first | refine N.seq ?_ | refine N.skip ?_ | refine N.ret ?_)
    | (show RK _ _ _ _ _ _ _; simp only [rk, rk0, reduceIte, Nat.reduceEqDiff])
    | (show WOpsT _ _ _ _ _ _; first | refine L.ext ?_ | refine T.notD rfl ?_ | refine T.not rfl ?_ | refine T.eqb0 rfl rfl ?_ | refine T.eqb1 rfl rfl ?_ | refine L.fad ?_ | refine L.fadd ?_ | refine L.new ?_)
    | refine hQ _ _ _ rfl ?_
    | refine hQN _ _ _ rfl ?_)
    all_goals first
      | exact WS.c rfl rfl
      | (exfalso; omega)
  · dsimp only at h1 h2 h3 h4 h5 h6
    have hu := uses_ok d h1
    have g1 := fits_ok t _ h2
    have g2 := fits_ok f _ h3
    have i1 := fitsP_in h2
    have i2 := fitsP_in h3
    have w1 := wideT_ok t
    have w2 := wideT_ok f
    have w3 := register_ok t
    clear h2 h3
    generalize (usesT d).1 = a at *
    generalize (usesT d).2.1 = b at *
    generalize (usesT d).2.2 = u at *
    cases u
    · rw [if_neg (by decide)] at h6
      repeat' (first
      | refine N.regS fun K hK => ?_
      | refine N.dregS fun K hK => ?_
      | refine N.regN fun K hK => ?_
      | refine N.dregN fun K hK => ?_
      | simp only [T.mv, sm, AO.ev, put, lk, enter, reduceIte, Nat.reduceEqDiff, Nat.reduceAdd, Nat.reduceMul, Nat.reduceSub, Int.reduceNeg, Int.reduceToNat, upto, renB, setAll]
      | (refine T.nil ?_; (first | refine hK _ _ _ (by rfl) ?_ | refine hK _ _ _ ?_); (try simp only [keep, List.map, lk, reduceIte, Nat.reduceEqDiff, enter]); clear hK K)
      | (show WOpsT _ (⟨_, .call _ _, none⟩ :: _) _ _ _ _; first | refine T.call0 e195 rfl (hu) ?_ | refine T.call0 e196 rfl (g1) ?_ | refine T.call0 e196 rfl (g2) ?_ | refine T.call0 e104 rfl (w1) ?_ | refine T.call0 e104 rfl (w2) ?_ | refine T.call0 e188 rfl (w3) ?_)
      | (show WOpsT _ (⟨_, .ld _ _, none⟩ :: _) _ _ _ _; first | refine L.ld ?_ | refine L.ldd ?_)
      | (show WOpsT _ (⟨_, .bin _ _ _, none⟩ :: _) _ _ _ _; first | refine L.bin ?_)
      | (show WOpsT _ (⟨_, _, some (_, true)⟩ :: _) _ _ _ _; first | refine L.goT ?_ | refine L.paT ?_ | refine L.go ?_ | refine L.pass ?_ | refine T.pU rfl ?_ | refine T.gT rfl (fun hgd => ?_) (fun hgd => ?_))
      | (show WOpsT _ (⟨_, _, some (_, false)⟩ :: _) _ _ _ _; first | refine L.goF ?_ | refine L.paF ?_ | refine L.go ?_ | refine L.pass ?_ | refine T.pU rfl ?_ | refine T.gF rfl (fun hgd => ?_) (fun hgd => ?_))
      | (show WOpsT _ (⟨_, .pick _ _ _, none⟩ :: _) _ _ _ _; first | refine L.pkT ?_ | refine L.pkF ?_ | refine L.pickT ?_ | refine L.pickF ?_ | refine L.pickB ?_ | refine T.pkD rfl (fun hgd => ?_) (fun hgd => ?_))
      | (show AKW _ _ _ _ _ _ _; first | refine N.now ?_)
      | (show AK _ _ (.cond _ _ _) _ _ _ _; first | refine N.c1 ?_ | refine N.c2 ?_ | refine N.c3 ?_ | refine N.c4 ?_ | refine N.condD rfl (fun hcd => ?_) (fun hcd => ?_) | refine N.condB rfl (fun hcd => ?_) (fun hcd => ?_) | refine N.condU rfl ?_ ?_)
      | (show AK _ _ _ _ _ _ _; first | refine N.seq ?_ | refine N.skip ?_ | refine N.ret ?_)
      | (show RK _ _ _ _ _ _ _; simp only [rk, rk0, reduceIte, Nat.reduceEqDiff])
      | (show WOpsT _ _ _ _ _ _; first | refine L.ext ?_ | refine T.notD rfl ?_ | refine T.not rfl ?_ | refine T.eqb0 rfl rfl ?_ | refine T.eqb1 rfl rfl ?_ | refine L.fad ?_ | refine L.fadd ?_ | refine L.new ?_)
      | refine hQ _ _ _ rfl ?_
      | refine hQN _ _ _ rfl ?_)
      all_goals first
        | exact WS.c rfl rfl
        | (exfalso; omega)
    · rw [if_pos rfl] at h6
      by_cases h7 : d = 2 ∧ 7 ≤ t
      · rw [if_pos h7] at h6
        repeat' (first
        | refine N.regS fun K hK => ?_
        | refine N.dregS fun K hK => ?_
        | refine N.regN fun K hK => ?_
        | refine N.dregN fun K hK => ?_
        | simp only [T.mv, sm, AO.ev, put, lk, enter, reduceIte, Nat.reduceEqDiff, Nat.reduceAdd, Nat.reduceMul, Nat.reduceSub, Int.reduceNeg, Int.reduceToNat, upto, renB, setAll]
        | (refine T.nil ?_; (first | refine hK _ _ _ (by rfl) ?_ | refine hK _ _ _ ?_); (try simp only [keep, List.map, lk, reduceIte, Nat.reduceEqDiff, enter]); clear hK K)
        | (show WOpsT _ (⟨_, .call _ _, none⟩ :: _) _ _ _ _; first | refine T.call0 e195 rfl (hu) ?_ | refine T.call0 e196 rfl (g1) ?_ | refine T.call0 e196 rfl (g2) ?_ | refine T.call0 e104 rfl (w1) ?_ | refine T.call0 e104 rfl (w2) ?_ | refine T.call0 e188 rfl (w3) ?_)
        | (show WOpsT _ (⟨_, .ld _ _, none⟩ :: _) _ _ _ _; first | refine L.ld ?_ | refine L.ldd ?_)
        | (show WOpsT _ (⟨_, .bin _ _ _, none⟩ :: _) _ _ _ _; first | refine L.bin ?_)
        | (show WOpsT _ (⟨_, _, some (_, true)⟩ :: _) _ _ _ _; first | refine L.goT ?_ | refine L.paT ?_ | refine L.go ?_ | refine L.pass ?_ | refine T.pU rfl ?_ | refine T.gT rfl (fun hgd => ?_) (fun hgd => ?_))
        | (show WOpsT _ (⟨_, _, some (_, false)⟩ :: _) _ _ _ _; first | refine L.goF ?_ | refine L.paF ?_ | refine L.go ?_ | refine L.pass ?_ | refine T.pU rfl ?_ | refine T.gF rfl (fun hgd => ?_) (fun hgd => ?_))
        | (show WOpsT _ (⟨_, .pick _ _ _, none⟩ :: _) _ _ _ _; first | refine L.pkT ?_ | refine L.pkF ?_ | refine L.pickT ?_ | refine L.pickF ?_ | refine L.pickB ?_ | refine T.pkD rfl (fun hgd => ?_) (fun hgd => ?_))
        | (show AKW _ _ _ _ _ _ _; first | refine N.now ?_)
        | (show AK _ _ (.cond _ _ _) _ _ _ _; first | refine N.c1 ?_ | refine N.c2 ?_ | refine N.c3 ?_ | refine N.c4 ?_ | refine N.condD rfl (fun hcd => ?_) (fun hcd => ?_) | refine N.condB rfl (fun hcd => ?_) (fun hcd => ?_) | refine N.condU rfl ?_ ?_)
        | (show AK _ _ _ _ _ _ _; first | refine N.seq ?_ | refine N.skip ?_ | refine N.ret ?_)
        | (show RK _ _ _ _ _ _ _; simp only [rk, rk0, reduceIte, Nat.reduceEqDiff])
        | (show WOpsT _ _ _ _ _ _; first | refine L.ext ?_ | refine T.notD rfl ?_ | refine T.not rfl ?_ | refine T.eqb0 rfl rfl ?_ | refine T.eqb1 rfl rfl ?_ | refine L.fad ?_ | refine L.fadd ?_ | refine L.new ?_)
        | refine hQ _ _ _ rfl ?_
        | refine hQN _ _ _ rfl ?_)
        all_goals first
          | exact WS.c rfl rfl
          | (exfalso; omega)
      · rw [if_neg h7] at h6
        repeat' (first
        | refine N.regS fun K hK => ?_
        | refine N.dregS fun K hK => ?_
        | refine N.regN fun K hK => ?_
        | refine N.dregN fun K hK => ?_
        | simp only [T.mv, sm, AO.ev, put, lk, enter, reduceIte, Nat.reduceEqDiff, Nat.reduceAdd, Nat.reduceMul, Nat.reduceSub, Int.reduceNeg, Int.reduceToNat, upto, renB, setAll]
        | (refine T.nil ?_; (first | refine hK _ _ _ (by rfl) ?_ | refine hK _ _ _ ?_); (try simp only [keep, List.map, lk, reduceIte, Nat.reduceEqDiff, enter]); clear hK K)
        | (show WOpsT _ (⟨_, .call _ _, none⟩ :: _) _ _ _ _; first | refine T.call0 e195 rfl (hu) ?_ | refine T.call0 e196 rfl (g1) ?_ | refine T.call0 e196 rfl (g2) ?_ | refine T.call0 e104 rfl (w1) ?_ | refine T.call0 e104 rfl (w2) ?_ | refine T.call0 e188 rfl (w3) ?_)
        | (show WOpsT _ (⟨_, .ld _ _, none⟩ :: _) _ _ _ _; first | refine L.ld ?_ | refine L.ldd ?_)
        | (show WOpsT _ (⟨_, .bin _ _ _, none⟩ :: _) _ _ _ _; first | refine L.bin ?_)
        | (show WOpsT _ (⟨_, _, some (_, true)⟩ :: _) _ _ _ _; first | refine L.goT ?_ | refine L.paT ?_ | refine L.go ?_ | refine L.pass ?_ | refine T.pU rfl ?_ | refine T.gT rfl (fun hgd => ?_) (fun hgd => ?_))
        | (show WOpsT _ (⟨_, _, some (_, false)⟩ :: _) _ _ _ _; first | refine L.goF ?_ | refine L.paF ?_ | refine L.go ?_ | refine L.pass ?_ | refine T.pU rfl ?_ | refine T.gF rfl (fun hgd => ?_) (fun hgd => ?_))
        | (show WOpsT _ (⟨_, .pick _ _ _, none⟩ :: _) _ _ _ _; first | refine L.pkT ?_ | refine L.pkF ?_ | refine L.pickT ?_ | refine L.pickF ?_ | refine L.pickB ?_ | refine T.pkD rfl (fun hgd => ?_) (fun hgd => ?_))
        | (show AKW _ _ _ _ _ _ _; first | refine N.now ?_)
        | (show AK _ _ (.cond _ _ _) _ _ _ _; first | refine N.c1 ?_ | refine N.c2 ?_ | refine N.c3 ?_ | refine N.c4 ?_ | refine N.condD rfl (fun hcd => ?_) (fun hcd => ?_) | refine N.condB rfl (fun hcd => ?_) (fun hcd => ?_) | refine N.condU rfl ?_ ?_)
        | (show AK _ _ _ _ _ _ _; first | refine N.seq ?_ | refine N.skip ?_ | refine N.ret ?_)
        | (show RK _ _ _ _ _ _ _; simp only [rk, rk0, reduceIte, Nat.reduceEqDiff])
        | (show WOpsT _ _ _ _ _ _; first | refine L.ext ?_ | refine T.notD rfl ?_ | refine T.not rfl ?_ | refine T.eqb0 rfl rfl ?_ | refine T.eqb1 rfl rfl ?_ | refine L.fad ?_ | refine L.fadd ?_ | refine L.new ?_)
        | refine hQ _ _ _ rfl ?_
        | refine hQN _ _ _ rfl ?_)
        all_goals first
          | exact WS.c rfl rfl
          | (exfalso; omega)
end Go.Proofs.Ytjmmompbmjhkpaa.Calc

namespace Go.Proofs.Ytjmmompbmjhkpaa.Calc
open Go Code
set_option linter.unusedSimpArgs false
set_option linter.unusedVariables false
set_option maxRecDepth 20000
set_option maxHeartbeats 4000000
attribute [local irreducible] WOpsT AW AK RK AKW UK UC
structure Cyc where
  bus : Int
  at_ : Int
  reg : Int
  steps : List Stp
def cyC (c : Cyc) : List V := [I c.bus, I c.at_, I c.reg, .sl 4 (c.steps.map stC)]
def VCyc (c : Cyc) : Prop := (0 ≤ c.bus ∧ c.bus ≤ 2) ∧ (c.bus = 0 → c.at_ = 0 ∧ c.reg = 0) ∧ (0 ≤ c.at_ ∧ c.at_ < 12) ∧ (0 ≤ c.reg ∧ c.reg < 7) ∧ c.steps.length ≤ 6 ∧ ∀ s ∈ c.steps, VStep s
theorem mget {α : Type} (f : α → List V) (l : List α) (i : Nat) (hi : i < l.length) : (l.map f)[((i : Nat) : Int).toNat]? = some (f l[i]) := by
  rw [Int.toNat_natCast, List.getElem?_map, List.getElem?_eq_getElem hi]; rfl
theorem cycle_ok (c : Cyc) (hc : VCyc c) : FnE Try.prog 164 [.agg (cyC c)] [] (I 0) [] := by
  obtain ⟨b, a, r, l⟩ := c
  obtain ⟨h1, h2, h3, h4, h5, h6⟩ := hc
  dsimp only at h1 h2 h3 h4 h5 h6
  refine N.fn Try.func164 k164 lb q164 fun Q hQ hQN => ?_
  rw [c164]
  have g1 := register_ok r
  have g2 := wideT_ok r
  rw [show decide (r = 7 ∨ r = 8) = false from decide_eq_false (by omega)] at g2
  rw [show decide (0 ≤ r ∧ r < 9) = true from decide_eq_true (by omega)] at g1
  repeat' (first
  | rw [List.length_map]
  | refine N.regS fun K hK => ?_
  | refine N.dregS fun K hK => ?_
  | refine N.regN fun K hK => ?_
  | refine N.dregN fun K hK => ?_
  | simp only [T.mv, sm, AO.ev, put, lk, enter, reduceIte, Nat.reduceEqDiff, Nat.reduceAdd, Nat.reduceMul, Nat.reduceSub, Int.reduceNeg, Int.reduceToNat, upto, renB, setAll]
  | (refine T.nil ?_; (first | refine hK _ _ _ (by rfl) ?_ | refine hK _ _ _ ?_); (try simp only [keep, List.map, lk, reduceIte, Nat.reduceEqDiff, enter]); clear hK K)
  | (show WOpsT _ (⟨_, .call _ _, none⟩ :: _) _ _ _ _; first | refine T.call0 e188 rfl (g1) ?_ | refine T.call0 e104 rfl (g2) ?_)
  | (show WOpsT _ (⟨_, .ld _ _, none⟩ :: _) _ _ _ _; first | refine L.ld ?_ | refine L.ldd ?_ | refine L.ldn ?_ | refine L.lddn ?_)
  | (show WOpsT _ (⟨_, .idx _ _ _ _, none⟩ :: _) _ _ _ _; first | refine L.idx ?_ | refine L.idxs ?_)
  | (show WOpsT _ (⟨_, .bin _ _ _, none⟩ :: _) _ _ _ _; first | refine L.add ?_ | refine L.bin ?_)
  | (show WOpsT _ (⟨_, _, some (_, true)⟩ :: _) _ _ _ _; first | refine L.goT ?_ | refine L.paT ?_ | refine L.go ?_ | refine L.pass ?_ | refine T.pU rfl ?_ | refine T.gT rfl (fun hgd => ?_) (fun hgd => ?_))
  | (show WOpsT _ (⟨_, _, some (_, false)⟩ :: _) _ _ _ _; first | refine L.goF ?_ | refine L.paF ?_ | refine L.go ?_ | refine L.pass ?_ | refine T.pU rfl ?_ | refine T.gF rfl (fun hgd => ?_) (fun hgd => ?_))
  | (show WOpsT _ (⟨_, .pick _ _ _, none⟩ :: _) _ _ _ _; first | refine L.pkT ?_ | refine L.pkF ?_ | refine L.pickT ?_ | refine L.pickF ?_ | refine L.pickB ?_ | refine T.pkD rfl (fun hgd => ?_) (fun hgd => ?_))
  | (show AKW _ _ _ _ _ _ _; first | refine N.now ?_)
  | (show AK _ _ (.cond _ _ _) _ _ _ _; first | refine N.c1 ?_ | refine N.c2 ?_ | refine N.c3 ?_ | refine N.c4 ?_ | refine N.condD rfl (fun hcd => ?_) (fun hcd => ?_) | refine N.condB rfl (fun hcd => ?_) (fun hcd => ?_) | refine N.condU rfl ?_ ?_)
  | (show AK _ _ _ _ _ _ _; first | refine N.seq ?_ | refine N.block ?_ | refine N.skip ?_ | refine N.exit ?_ | refine N.ret ?_)
  | (show RK _ _ _ _ _ _ _; simp only [rk, rk0, reduceIte, Nat.reduceEqDiff])
  | (show WOpsT _ _ _ _ _ _; first | refine T.notD rfl ?_ | refine T.not rfl ?_ | refine L.fad ?_ | refine L.fadd ?_ | refine L.st ?_ | refine L.new ?_ | refine L.zero ?_ | refine L.len ?_ | refine L.lenS ?_ | refine L.lenN ?_)
  | refine hQ _ _ _ rfl ?_
  | refine hQN _ _ _ rfl ?_)
  all_goals
    refine N.loop (σ := Nat) (fun i => [(55, .sl 4 (l.map stC)), (56, I l.length), (57, I i)]) (fun i => []) (fun i => i ≤ l.length) (fun i => l.length - i) 0 (by omega) (Weaks.gc [] 1 rfl (by repeat (first | exact trivial | refine ⟨.rfl, ?_⟩ | refine ⟨.any, ?_⟩)) (by first | rfl | (symm; unfold outH; simp only [List.map]; (repeat' (first | rfl | exact outB_bytes | exact outB_ints | exact outB_flat | refine consE ?_ ?_)); done))) fun i hi C hC => ?_
    by_cases hil : i < l.length
    · have hv := steps_ok _ (h6 _ (List.getElem_mem hil))
      repeat' (first
      | (show WOpsT _ (⟨_, .idx _ _ _ _, none⟩ :: _) _ _ _ _; refine T.idxs rfl rfl rfl (by omega) (mget stC l i hil) ?_)
      | refine N.regS fun K hK => ?_
      | refine N.dregS fun K hK => ?_
      | refine N.regN fun K hK => ?_
      | refine N.dregN fun K hK => ?_
      | simp only [T.mv, sm, AO.ev, put, lk, enter, reduceIte, Nat.reduceEqDiff, Nat.reduceAdd, Nat.reduceMul, Nat.reduceSub, Int.reduceNeg, Int.reduceToNat, upto, renB, setAll]
      | (refine T.nil ?_; (first | refine hK _ _ _ (by rfl) ?_ | refine hK _ _ _ ?_); (try simp only [keep, List.map, lk, reduceIte, Nat.reduceEqDiff, enter]); clear hK K)
      | (show WOpsT _ (⟨_, .call _ _, none⟩ :: _) _ _ _ _; first | refine T.call0 e189 rfl (hv) ?_)
      | (show WOpsT _ (⟨_, .ld _ _, none⟩ :: _) _ _ _ _; first | refine L.ld ?_ | refine L.ldd ?_ | refine L.ldn ?_ | refine L.lddn ?_)
      | (show WOpsT _ (⟨_, .idx _ _ _ _, none⟩ :: _) _ _ _ _; first | refine L.idx ?_ | refine L.idxs ?_)
      | (show WOpsT _ (⟨_, .bin _ _ _, none⟩ :: _) _ _ _ _; first | refine L.add ?_ | refine L.bin ?_)
      | (show WOpsT _ (⟨_, _, some (_, true)⟩ :: _) _ _ _ _; first | refine L.goT ?_ | refine L.paT ?_ | refine L.go ?_ | refine L.pass ?_ | refine T.pU rfl ?_ | refine T.gT rfl (fun hgd => ?_) (fun hgd => ?_))
      | (show WOpsT _ (⟨_, _, some (_, false)⟩ :: _) _ _ _ _; first | refine L.goF ?_ | refine L.paF ?_ | refine L.go ?_ | refine L.pass ?_ | refine T.pU rfl ?_ | refine T.gF rfl (fun hgd => ?_) (fun hgd => ?_))
      | (show WOpsT _ (⟨_, .pick _ _ _, none⟩ :: _) _ _ _ _; first | refine L.pkT ?_ | refine L.pkF ?_ | refine L.pickT ?_ | refine L.pickF ?_ | refine L.pickB ?_ | refine T.pkD rfl (fun hgd => ?_) (fun hgd => ?_))
      | (show AKW _ _ _ _ _ _ _; first | refine N.now ?_)
      | (show AK _ _ (.cond _ _ _) _ _ _ _; first | refine N.c1 ?_ | refine N.c2 ?_ | refine N.c3 ?_ | refine N.c4 ?_ | refine N.condD rfl (fun hcd => ?_) (fun hcd => ?_) | refine N.condB rfl (fun hcd => ?_) (fun hcd => ?_) | refine N.condU rfl ?_ ?_)
      | (show AK _ _ _ _ _ _ _; first | refine N.seq ?_ | refine N.block ?_ | refine N.skip ?_ | refine N.exit ?_ | refine N.ret ?_)
      | (show RK _ _ _ _ _ _ _; simp only [rk, rk0, reduceIte, Nat.reduceEqDiff])
      | (show WOpsT _ _ _ _ _ _; first | refine T.notD rfl ?_ | refine T.not rfl ?_ | refine L.fad ?_ | refine L.fadd ?_ | refine L.st ?_ | refine L.new ?_ | refine L.zero ?_ | refine L.len ?_ | refine L.lenS ?_ | refine L.lenN ?_)
      | refine hQ _ _ _ rfl ?_
      | refine hQN _ _ _ rfl ?_)
      exact hC _ _ (i + 1) (by omega) (by omega) (Weaks.gc [] 1 rfl (by repeat (first | exact trivial | refine ⟨.rfl, ?_⟩ | refine ⟨.any, ?_⟩)) (by first | rfl | (symm; unfold outH; simp only [List.map]; (repeat' (first | rfl | exact outB_bytes | exact outB_ints | exact outB_flat | refine consE ?_ ?_)); done)))
    · obtain rfl : i = l.length := by omega
      repeat' (first
      | refine N.regS fun K hK => ?_
      | refine N.dregS fun K hK => ?_
      | refine N.regN fun K hK => ?_
      | refine N.dregN fun K hK => ?_
      | simp only [T.mv, sm, AO.ev, put, lk, enter, reduceIte, Nat.reduceEqDiff, Nat.reduceAdd, Nat.reduceMul, Nat.reduceSub, Int.reduceNeg, Int.reduceToNat, upto, renB, setAll]
      | (refine T.nil ?_; (first | refine hK _ _ _ (by rfl) ?_ | refine hK _ _ _ ?_); (try simp only [keep, List.map, lk, reduceIte, Nat.reduceEqDiff, enter]); clear hK K)
      | (show WOpsT _ (⟨_, .ld _ _, none⟩ :: _) _ _ _ _; first | refine L.ld ?_ | refine L.ldd ?_ | refine L.ldn ?_ | refine L.lddn ?_)
      | (show WOpsT _ (⟨_, .idx _ _ _ _, none⟩ :: _) _ _ _ _; first | refine L.idx ?_ | refine L.idxs ?_)
      | (show WOpsT _ (⟨_, .bin _ _ _, none⟩ :: _) _ _ _ _; first | refine L.add ?_ | refine L.bin ?_)
      | (show WOpsT _ (⟨_, _, some (_, true)⟩ :: _) _ _ _ _; first | refine L.goT ?_ | refine L.paT ?_ | refine L.go ?_ | refine L.pass ?_ | refine T.pU rfl ?_ | refine T.gT rfl (fun hgd => ?_) (fun hgd => ?_))
      | (show WOpsT _ (⟨_, _, some (_, false)⟩ :: _) _ _ _ _; first | refine L.goF ?_ | refine L.paF ?_ | refine L.go ?_ | refine L.pass ?_ | refine T.pU rfl ?_ | refine T.gF rfl (fun hgd => ?_) (fun hgd => ?_))
      | (show WOpsT _ (⟨_, .pick _ _ _, none⟩ :: _) _ _ _ _; first | refine L.pkT ?_ | refine L.pkF ?_ | refine L.pickT ?_ | refine L.pickF ?_ | refine L.pickB ?_ | refine T.pkD rfl (fun hgd => ?_) (fun hgd => ?_))
      | (show AKW _ _ _ _ _ _ _; first | refine N.now ?_)
      | (show AK _ _ (.cond _ _ _) _ _ _ _; first | refine N.c1 ?_ | refine N.c2 ?_ | refine N.c3 ?_ | refine N.c4 ?_ | refine N.condD rfl (fun hcd => ?_) (fun hcd => ?_) | refine N.condB rfl (fun hcd => ?_) (fun hcd => ?_) | refine N.condU rfl ?_ ?_)
      | (show AK _ _ _ _ _ _ _; first | refine N.seq ?_ | refine N.block ?_ | refine N.skip ?_ | refine N.exit ?_ | refine N.ret ?_)
      | (show RK _ _ _ _ _ _ _; simp only [rk, rk0, reduceIte, Nat.reduceEqDiff])
      | (show WOpsT _ _ _ _ _ _; first | refine T.notD rfl ?_ | refine T.not rfl ?_ | refine L.fad ?_ | refine L.fadd ?_ | refine L.st ?_ | refine L.new ?_ | refine L.zero ?_ | refine L.len ?_ | refine L.lenS ?_ | refine L.lenN ?_)
      | refine hQ _ _ _ rfl ?_
      | refine hQN _ _ _ rfl ?_)
      exact WS.c rfl rfl
def VCycs (l : List Cyc) : Prop := l.length ≤ 8 ∧ ∀ c ∈ l, VCyc c
theorem cycles_ok (l : List Cyc) (hl : VCycs l) : FnE Try.prog 115 [.sl 4 (l.map cyC)] [] (I 0) [] := by
  obtain ⟨h1, h2⟩ := hl
  refine N.fn Try.func115 k115 lb q115 fun Q hQ hQN => ?_
  rw [c115]
  repeat' (first
  | rw [List.length_map]
  | refine N.regS fun K hK => ?_
  | refine N.dregS fun K hK => ?_
  | refine N.regN fun K hK => ?_
  | refine N.dregN fun K hK => ?_
  | simp only [T.mv, sm, AO.ev, put, lk, enter, reduceIte, Nat.reduceEqDiff, Nat.reduceAdd, Nat.reduceMul, Nat.reduceSub, Int.reduceNeg, Int.reduceToNat, upto, renB, setAll]
  | (refine T.nil ?_; (first | refine hK _ _ _ (by rfl) ?_ | refine hK _ _ _ ?_); (try simp only [keep, List.map, lk, reduceIte, Nat.reduceEqDiff, enter]); clear hK K)
  | (show WOpsT _ (⟨_, .ld _ _, none⟩ :: _) _ _ _ _; first | refine L.ldn ?_ | refine L.lddn ?_)
  | (show WOpsT _ (⟨_, .idx _ _ _ _, none⟩ :: _) _ _ _ _; first | refine L.idx ?_ | refine L.idxs ?_)
  | (show WOpsT _ (⟨_, .bin _ _ _, none⟩ :: _) _ _ _ _; first | refine L.add ?_ | refine L.bin ?_)
  | (show AKW _ _ _ _ _ _ _; first | refine N.now ?_)
  | (show AK _ _ (.cond _ _ _) _ _ _ _; first | refine N.c1 ?_ | refine N.c2 ?_ | refine N.c3 ?_ | refine N.c4 ?_ | refine N.condD rfl (fun hcd => ?_) (fun hcd => ?_) | refine N.condB rfl (fun hcd => ?_) (fun hcd => ?_) | refine N.condU rfl ?_ ?_)
  | (show AK _ _ _ _ _ _ _; first | refine N.seq ?_ | refine N.block ?_ | refine N.skip ?_ | refine N.exit ?_ | refine N.ret ?_)
  | (show RK _ _ _ _ _ _ _; simp only [rk, rk0, reduceIte, Nat.reduceEqDiff])
  | (show WOpsT _ _ _ _ _ _; first | refine L.st ?_ | refine L.zero ?_ | refine L.len ?_ | refine L.lenS ?_ | refine L.lenN ?_)
  | refine hQ _ _ _ rfl ?_
  | refine hQN _ _ _ rfl ?_)
  refine N.loop (σ := Nat) (fun i => [(9, .sl 4 (l.map cyC)), (10, I l.length), (11, I i)]) (fun i => []) (fun i => i ≤ l.length) (fun i => l.length - i) 0 (by omega) (Weaks.gc [] 1 rfl (by repeat (first | exact trivial | refine ⟨.rfl, ?_⟩ | refine ⟨.any, ?_⟩)) (by first | rfl | (symm; unfold outH; simp only [List.map]; (repeat' (first | rfl | exact outB_bytes | exact outB_ints | exact outB_flat | refine consE ?_ ?_)); done))) fun i hi C hC => ?_
  by_cases hil : i < l.length
  · have hv := cycle_ok _ (h2 _ (List.getElem_mem hil))
    repeat' (first
    | (show WOpsT _ (⟨_, .idx _ _ _ _, none⟩ :: _) _ _ _ _; refine T.idxs rfl rfl rfl (by omega) (mget cyC l i hil) ?_)
    | refine N.regS fun K hK => ?_
    | refine N.dregS fun K hK => ?_
    | refine N.regN fun K hK => ?_
    | refine N.dregN fun K hK => ?_
    | simp only [T.mv, sm, AO.ev, put, lk, enter, reduceIte, Nat.reduceEqDiff, Nat.reduceAdd, Nat.reduceMul, Nat.reduceSub, Int.reduceNeg, Int.reduceToNat, upto, renB, setAll]
    | (refine T.nil ?_; (first | refine hK _ _ _ (by rfl) ?_ | refine hK _ _ _ ?_); (try simp only [keep, List.map, lk, reduceIte, Nat.reduceEqDiff, enter]); clear hK K)
    | (show WOpsT _ (⟨_, .call _ _, none⟩ :: _) _ _ _ _; first | refine T.call0 e164 rfl (hv) ?_)
    | (show WOpsT _ (⟨_, .ld _ _, none⟩ :: _) _ _ _ _; first | refine L.ldn ?_ | refine L.lddn ?_)
    | (show WOpsT _ (⟨_, .idx _ _ _ _, none⟩ :: _) _ _ _ _; first | refine L.idx ?_ | refine L.idxs ?_)
    | (show WOpsT _ (⟨_, .bin _ _ _, none⟩ :: _) _ _ _ _; first | refine L.add ?_ | refine L.bin ?_)
    | (show AKW _ _ _ _ _ _ _; first | refine N.now ?_)
    | (show AK _ _ (.cond _ _ _) _ _ _ _; first | refine N.c1 ?_ | refine N.c2 ?_ | refine N.c3 ?_ | refine N.c4 ?_ | refine N.condD rfl (fun hcd => ?_) (fun hcd => ?_) | refine N.condB rfl (fun hcd => ?_) (fun hcd => ?_) | refine N.condU rfl ?_ ?_)
    | (show AK _ _ _ _ _ _ _; first | refine N.seq ?_ | refine N.block ?_ | refine N.skip ?_ | refine N.exit ?_ | refine N.ret ?_)
    | (show RK _ _ _ _ _ _ _; simp only [rk, rk0, reduceIte, Nat.reduceEqDiff])
    | (show WOpsT _ _ _ _ _ _; first | refine L.st ?_ | refine L.zero ?_ | refine L.len ?_ | refine L.lenS ?_ | refine L.lenN ?_)
    | refine hQ _ _ _ rfl ?_
    | refine hQN _ _ _ rfl ?_)
    exact hC _ _ (i + 1) (by omega) (by omega) (Weaks.gc [] 1 rfl (by repeat (first | exact trivial | refine ⟨.rfl, ?_⟩ | refine ⟨.any, ?_⟩)) (by first | rfl | (symm; unfold outH; simp only [List.map]; (repeat' (first | rfl | exact outB_bytes | exact outB_ints | exact outB_flat | refine consE ?_ ?_)); done)))
  · obtain rfl : i = l.length := by omega
    repeat' (first
    | refine N.regS fun K hK => ?_
    | refine N.dregS fun K hK => ?_
    | refine N.regN fun K hK => ?_
    | refine N.dregN fun K hK => ?_
    | simp only [T.mv, sm, AO.ev, put, lk, enter, reduceIte, Nat.reduceEqDiff, Nat.reduceAdd, Nat.reduceMul, Nat.reduceSub, Int.reduceNeg, Int.reduceToNat, upto, renB, setAll]
    | (refine T.nil ?_; (first | refine hK _ _ _ (by rfl) ?_ | refine hK _ _ _ ?_); (try simp only [keep, List.map, lk, reduceIte, Nat.reduceEqDiff, enter]); clear hK K)
    | (show WOpsT _ (⟨_, .ld _ _, none⟩ :: _) _ _ _ _; first | refine L.ldn ?_ | refine L.lddn ?_)
    | (show WOpsT _ (⟨_, .idx _ _ _ _, none⟩ :: _) _ _ _ _; first | refine L.idx ?_ | refine L.idxs ?_)
    | (show WOpsT _ (⟨_, .bin _ _ _, none⟩ :: _) _ _ _ _; first | refine L.add ?_ | refine L.bin ?_)
    | (show AKW _ _ _ _ _ _ _; first | refine N.now ?_)
    | (show AK _ _ (.cond _ _ _) _ _ _ _; first | refine N.c1 ?_ | refine N.c2 ?_ | refine N.c3 ?_ | refine N.c4 ?_ | refine N.condD rfl (fun hcd => ?_) (fun hcd => ?_) | refine N.condB rfl (fun hcd => ?_) (fun hcd => ?_) | refine N.condU rfl ?_ ?_)
    | (show AK _ _ _ _ _ _ _; first | refine N.seq ?_ | refine N.block ?_ | refine N.skip ?_ | refine N.exit ?_ | refine N.ret ?_)
    | (show RK _ _ _ _ _ _ _; simp only [rk, rk0, reduceIte, Nat.reduceEqDiff])
    | (show WOpsT _ _ _ _ _ _; first | refine L.st ?_ | refine L.zero ?_ | refine L.len ?_ | refine L.lenS ?_ | refine L.lenN ?_)
    | refine hQ _ _ _ rfl ?_
    | refine hQN _ _ _ rfl ?_)
    exact WS.c rfl rfl
def opnd (l : List Cyc) : Int := (l.countP fun c => c.bus == 1 && c.at_ == 0 : Nat)
theorem opnd_take (l : List Cyc) (i : Nat) (hi : i < l.length) : opnd (l.take (i + 1)) = opnd (l.take i) + if l[i].bus = 1 ∧ l[i].at_ = 0 then 1 else 0 := by
  unfold opnd
  rw [List.take_succ_eq_append_getElem hi, List.countP_append]
  simp only [List.countP_cons, List.countP_nil, Bool.and_eq_true, beq_iff_eq]
  split <;> simp
theorem opnd_in (l : List Cyc) : 0 ≤ opnd l ∧ opnd l ≤ l.length := by
  unfold opnd
  have := List.countP_le_length (p := fun c : Cyc => c.bus == 1 && c.at_ == 0) (l := l)
  omega
theorem operand_ok (l : List Cyc) (hl : l.length ≤ 8) : FnE Try.prog 116 [.sl 4 (l.map cyC)] [] (I (opnd l)) [] := by
  refine N.fn Try.func116 k116 lb q116 fun Q hQ hQN => ?_
  rw [c116]
  repeat' (first
  | rw [List.length_map]
  | refine N.regS fun K hK => ?_
  | refine N.dregS fun K hK => ?_
  | refine N.regN fun K hK => ?_
  | refine N.dregN fun K hK => ?_
  | simp only [T.mv, sm, AO.ev, put, lk, enter, reduceIte, Nat.reduceEqDiff, Nat.reduceAdd, Nat.reduceMul, Nat.reduceSub, Int.reduceNeg, Int.reduceToNat, upto, renB, setAll]
  | (refine T.nil ?_; (first | refine hK _ _ _ (by rfl) ?_ | refine hK _ _ _ ?_); (try simp only [keep, List.map, lk, reduceIte, Nat.reduceEqDiff, enter]); clear hK K)
  | (show WOpsT _ (⟨_, .ld _ _, none⟩ :: _) _ _ _ _; first | refine L.ld ?_ | refine L.ldd ?_ | refine L.ldn ?_ | refine L.lddn ?_)
  | (show WOpsT _ (⟨_, .idx _ _ _ _, none⟩ :: _) _ _ _ _; first | refine L.idx ?_ | refine L.idxs ?_)
  | (show WOpsT _ (⟨_, .bin _ _ _, none⟩ :: _) _ _ _ _; first | refine L.add ?_ | refine L.bin ?_)
  | (show WOpsT _ (⟨_, _, some (_, true)⟩ :: _) _ _ _ _; first | refine L.goT ?_ | refine L.paT ?_ | refine L.go ?_ | refine L.pass ?_ | refine T.pU rfl ?_ | refine T.gT rfl (fun hgd => ?_) (fun hgd => ?_))
  | (show WOpsT _ (⟨_, .pick _ _ _, none⟩ :: _) _ _ _ _; first | refine L.pkT ?_ | refine L.pkF ?_ | refine L.pickT ?_ | refine L.pickF ?_ | refine L.pickB ?_ | refine T.pkD rfl (fun hgd => ?_) (fun hgd => ?_))
  | (show AKW _ _ _ _ _ _ _; first | refine N.now ?_)
  | (show AK _ _ (.cond _ _ _) _ _ _ _; first | refine N.c1 ?_ | refine N.c2 ?_ | refine N.c3 ?_ | refine N.c4 ?_ | refine N.condD rfl (fun hcd => ?_) (fun hcd => ?_) | refine N.condB rfl (fun hcd => ?_) (fun hcd => ?_) | refine N.condU rfl ?_ ?_)
  | (show AK _ _ _ _ _ _ _; first | refine N.seq ?_ | refine N.block ?_ | refine N.skip ?_ | refine N.exit ?_ | refine N.ret ?_)
  | (show RK _ _ _ _ _ _ _; simp only [rk, rk0, reduceIte, Nat.reduceEqDiff])
  | (show WOpsT _ _ _ _ _ _; first | refine L.fad ?_ | refine L.fadd ?_ | refine L.st ?_ | refine L.zero ?_ | refine L.len ?_ | refine L.lenS ?_ | refine L.lenN ?_)
  | refine hQ _ _ _ rfl ?_
  | refine hQN _ _ _ rfl ?_)
  refine N.loop (σ := Nat) (fun i => [(3, I (opnd (l.take i))), (6, .sl 4 (l.map cyC)), (7, I l.length), (8, I i)]) (fun i => []) (fun i => i ≤ l.length) (fun i => l.length - i) 0 (by omega) (Weaks.gc [] 1 rfl (by repeat (first | exact trivial | refine ⟨.rfl, ?_⟩ | refine ⟨.any, ?_⟩)) (by first | rfl | (symm; unfold outH; simp only [List.map]; (repeat' (first | rfl | exact outB_bytes | exact outB_ints | exact outB_flat | refine consE ?_ ?_)); done))) fun i hi C hC => ?_
  by_cases hil : i < l.length
  · have e := opnd_take l i hil
    have b1 := opnd_in (l.take i)
    have b2 := List.length_take_le i l
    obtain ⟨w, hw⟩ : ∃ w, l[i] = w := ⟨_, rfl⟩
    obtain ⟨b, a, r, ss⟩ := w
    have hm := mget cyC l i hil
    rw [hw] at hm e
    dsimp only at e
    repeat' (first
    | (show WOpsT _ (⟨_, .idx _ _ _ _, none⟩ :: _) _ _ _ _; refine T.idxs rfl rfl rfl (by omega) hm ?_)
    | refine N.regS fun K hK => ?_
    | refine N.dregS fun K hK => ?_
    | refine N.regN fun K hK => ?_
    | refine N.dregN fun K hK => ?_
    | simp only [T.mv, sm, AO.ev, put, lk, enter, reduceIte, Nat.reduceEqDiff, Nat.reduceAdd, Nat.reduceMul, Nat.reduceSub, Int.reduceNeg, Int.reduceToNat, upto, renB, setAll]
    | (refine T.nil ?_; (first | refine hK _ _ _ (by rfl) ?_ | refine hK _ _ _ ?_); (try simp only [keep, List.map, lk, reduceIte, Nat.reduceEqDiff, enter]); clear hK K)
    | (show WOpsT _ (⟨_, .ld _ _, none⟩ :: _) _ _ _ _; first | refine L.ld ?_ | refine L.ldd ?_ | refine L.ldn ?_ | refine L.lddn ?_)
    | (show WOpsT _ (⟨_, .idx _ _ _ _, none⟩ :: _) _ _ _ _; first | refine L.idx ?_ | refine L.idxs ?_)
    | (show WOpsT _ (⟨_, .bin _ _ _, none⟩ :: _) _ _ _ _; first | refine L.add ?_ | refine L.bin ?_)
    | (show WOpsT _ (⟨_, _, some (_, true)⟩ :: _) _ _ _ _; first | refine L.goT ?_ | refine L.paT ?_ | refine L.go ?_ | refine L.pass ?_ | refine T.pU rfl ?_ | refine T.gT rfl (fun hgd => ?_) (fun hgd => ?_))
    | (show WOpsT _ (⟨_, .pick _ _ _, none⟩ :: _) _ _ _ _; first | refine L.pkT ?_ | refine L.pkF ?_ | refine L.pickT ?_ | refine L.pickF ?_ | refine L.pickB ?_ | refine T.pkD rfl (fun hgd => ?_) (fun hgd => ?_))
    | (show AKW _ _ _ _ _ _ _; first | refine N.now ?_)
    | (show AK _ _ (.cond _ _ _) _ _ _ _; first | refine N.c1 ?_ | refine N.c2 ?_ | refine N.c3 ?_ | refine N.c4 ?_ | refine N.condD rfl (fun hcd => ?_) (fun hcd => ?_) | refine N.condB rfl (fun hcd => ?_) (fun hcd => ?_) | refine N.condU rfl ?_ ?_)
    | (show AK _ _ _ _ _ _ _; first | refine N.seq ?_ | refine N.block ?_ | refine N.skip ?_ | refine N.exit ?_ | refine N.ret ?_)
    | (show RK _ _ _ _ _ _ _; simp only [rk, rk0, reduceIte, Nat.reduceEqDiff])
    | (show WOpsT _ _ _ _ _ _; first | refine L.fad ?_ | refine L.fadd ?_ | refine L.st ?_ | refine L.zero ?_ | refine L.len ?_ | refine L.lenS ?_ | refine L.lenN ?_)
    | refine hQ _ _ _ rfl ?_
    | refine hQN _ _ _ rfl ?_)
    all_goals
      refine hC _ _ (i + 1) (by omega) (by omega) ?_
      rw [e]
      first
        | (rw [if_pos (by omega)]; exact (Weaks.gc [] 1 rfl (by repeat (first | exact trivial | refine ⟨.rfl, ?_⟩ | refine ⟨.any, ?_⟩)) (by first | rfl | (symm; unfold outH; simp only [List.map]; (repeat' (first | rfl | exact outB_bytes | exact outB_ints | exact outB_flat | refine consE ?_ ?_)); done))))
        | (rw [if_neg (by omega), Int.add_zero]; exact (Weaks.gc [] 1 rfl (by repeat (first | exact trivial | refine ⟨.rfl, ?_⟩ | refine ⟨.any, ?_⟩)) (by first | rfl | (symm; unfold outH; simp only [List.map]; (repeat' (first | rfl | exact outB_bytes | exact outB_ints | exact outB_flat | refine consE ?_ ?_)); done))))
  · obtain rfl : i = l.length := by omega
    rw [List.take_length]
    repeat' (first
    | refine N.regS fun K hK => ?_
    | refine N.dregS fun K hK => ?_
    | refine N.regN fun K hK => ?_
    | refine N.dregN fun K hK => ?_
    | simp only [T.mv, sm, AO.ev, put, lk, enter, reduceIte, Nat.reduceEqDiff, Nat.reduceAdd, Nat.reduceMul, Nat.reduceSub, Int.reduceNeg, Int.reduceToNat, upto, renB, setAll]
    | (refine T.nil ?_; (first | refine hK _ _ _ (by rfl) ?_ | refine hK _ _ _ ?_); (try simp only [keep, List.map, lk, reduceIte, Nat.reduceEqDiff, enter]); clear hK K)
    | (show WOpsT _ (⟨_, .ld _ _, none⟩ :: _) _ _ _ _; first | refine L.ld ?_ | refine L.ldd ?_ | refine L.ldn ?_ | refine L.lddn ?_)
    | (show WOpsT _ (⟨_, .idx _ _ _ _, none⟩ :: _) _ _ _ _; first | refine L.idx ?_ | refine L.idxs ?_)
    | (show WOpsT _ (⟨_, .bin _ _ _, none⟩ :: _) _ _ _ _; first | refine L.add ?_ | refine L.bin ?_)
    | (show WOpsT _ (⟨_, _, some (_, true)⟩ :: _) _ _ _ _; first | refine L.goT ?_ | refine L.paT ?_ | refine L.go ?_ | refine L.pass ?_ | refine T.pU rfl ?_ | refine T.gT rfl (fun hgd => ?_) (fun hgd => ?_))
    | (show WOpsT _ (⟨_, .pick _ _ _, none⟩ :: _) _ _ _ _; first | refine L.pkT ?_ | refine L.pkF ?_ | refine L.pickT ?_ | refine L.pickF ?_ | refine L.pickB ?_ | refine T.pkD rfl (fun hgd => ?_) (fun hgd => ?_))
    | (show AKW _ _ _ _ _ _ _; first | refine N.now ?_)
    | (show AK _ _ (.cond _ _ _) _ _ _ _; first | refine N.c1 ?_ | refine N.c2 ?_ | refine N.c3 ?_ | refine N.c4 ?_ | refine N.condD rfl (fun hcd => ?_) (fun hcd => ?_) | refine N.condB rfl (fun hcd => ?_) (fun hcd => ?_) | refine N.condU rfl ?_ ?_)
    | (show AK _ _ _ _ _ _ _; first | refine N.seq ?_ | refine N.block ?_ | refine N.skip ?_ | refine N.exit ?_ | refine N.ret ?_)
    | (show RK _ _ _ _ _ _ _; simp only [rk, rk0, reduceIte, Nat.reduceEqDiff])
    | (show WOpsT _ _ _ _ _ _; first | refine L.fad ?_ | refine L.fadd ?_ | refine L.st ?_ | refine L.zero ?_ | refine L.len ?_ | refine L.lenS ?_ | refine L.lenN ?_)
    | refine hQ _ _ _ rfl ?_
    | refine hQN _ _ _ rfl ?_)
    exact WS.c rfl rfl
end Go.Proofs.Ytjmmompbmjhkpaa.Calc

namespace Go.Proofs.Ytjmmompbmjhkpaa.Calc
open Go Code
set_option linter.unusedSimpArgs false
set_option linter.unusedVariables false
set_option maxRecDepth 20000
set_option maxHeartbeats 4000000
attribute [local irreducible] WOpsT AW AK RK AKW UK UC
def nmB (s : ByteArray) : List Int := s.data.toList.map fun b => (b.toNat : Int)
theorem nmB_len (s : ByteArray) : (nmB s).length = s.size := by simp [nmB]
def okCh (b : Int) : Prop := (97 ≤ b ∧ b ≤ 122) ∨ (48 ≤ b ∧ b ≤ 57) ∨ b = 45
def VName (s : ByteArray) : Prop := (1 ≤ s.size ∧ s.size ≤ 20) ∧ (∃ b, s[0]? = some b ∧ 97 ≤ (b.toNat : Int) ∧ (b.toNat : Int) ≤ 122) ∧ ∀ x ∈ nmB s, okCh x
theorem name_ok (s : ByteArray) (hs : VName s) : FnE Try.prog 113 [.c (.string s)] [] (.c (.bool true)) [] := by
  obtain ⟨h1, ⟨b0, h2, h3⟩, h4⟩ := hs
  have hne : decide (s = ⟨#[]⟩) = false := decide_eq_false (by intro h; subst h; exact absurd h1.1 (by decide))
  have hl := nmB_len s
  refine N.fn Try.func113 k113 lb q113 fun Q hQ hQN => ?_
  rw [c113]
  repeat' (first
  | rw [hne]
  | refine T.lens rfl ?_
  | (show WOpsT _ (⟨_, .ixs _ _, none⟩ :: _) _ _ _ _; refine T.ixs rfl rfl (by decide) h2 ?_)
  | refine T.s2b rfl ?_
  | refine N.regS fun K hK => ?_
  | refine N.dregS fun K hK => ?_
  | refine N.regN fun K hK => ?_
  | refine N.dregN fun K hK => ?_
  | simp only [T.mv, sm, AO.ev, put, lk, enter, reduceIte, Nat.reduceEqDiff, Nat.reduceAdd, Nat.reduceMul, Nat.reduceSub, Int.reduceNeg, Int.reduceToNat, upto, renB, setAll]
  | (refine T.nil ?_; (first | refine hK _ _ _ (by rfl) ?_ | refine hK _ _ _ ?_); (try simp only [keep, List.map, lk, reduceIte, Nat.reduceEqDiff, enter]); clear hK K)
  | (show WOpsT _ (⟨_, .ld _ _, none⟩ :: _) _ _ _ _; first | refine L.ld ?_ | refine L.ldd ?_)
  | (show WOpsT _ (⟨_, .idx _ _ _ _, none⟩ :: _) _ _ _ _; first | refine L.idx ?_ | refine L.idxs ?_)
  | (show WOpsT _ (⟨_, .bin _ _ _, none⟩ :: _) _ _ _ _; first | refine L.add ?_ | refine L.bin ?_)
  | (show WOpsT _ (⟨_, _, some (_, true)⟩ :: _) _ _ _ _; first | refine L.goT ?_ | refine L.paT ?_ | refine L.go ?_ | refine L.pass ?_ | refine T.pU rfl ?_ | refine T.gT rfl (fun hgd => ?_) (fun hgd => ?_))
  | (show WOpsT _ (⟨_, _, some (_, false)⟩ :: _) _ _ _ _; first | refine L.goF ?_ | refine L.paF ?_ | refine L.go ?_ | refine L.pass ?_ | refine T.pU rfl ?_ | refine T.gF rfl (fun hgd => ?_) (fun hgd => ?_))
  | (show WOpsT _ (⟨_, .pick _ _ _, none⟩ :: _) _ _ _ _; first | refine L.pkT ?_ | refine L.pkF ?_ | refine L.pickT ?_ | refine L.pickF ?_ | refine L.pickB ?_ | refine T.pkD rfl (fun hgd => ?_) (fun hgd => ?_))
  | (show AKW _ _ _ _ _ _ _; first | refine N.now ?_)
  | (show AK _ _ (.cond _ _ _) _ _ _ _; first | refine N.c1 ?_ | refine N.c2 ?_ | refine N.c3 ?_ | refine N.c4 ?_ | refine N.condD rfl (fun hcd => ?_) (fun hcd => ?_) | refine N.condB rfl (fun hcd => ?_) (fun hcd => ?_) | refine N.condU rfl ?_ ?_)
  | (show AK _ _ _ _ _ _ _; first | refine N.seq ?_ | refine N.block ?_ | refine N.skip ?_ | refine N.exit ?_ | refine N.ret ?_)
  | (show RK _ _ _ _ _ _ _; simp only [rk, rk0, reduceIte, Nat.reduceEqDiff])
  | (show WOpsT _ _ _ _ _ _; first | refine T.lens rfl ?_ | refine T.s2b rfl ?_ | refine T.notD rfl ?_ | refine T.not rfl ?_ | refine L.len ?_ | refine L.lenS ?_ | refine L.lenN ?_)
  | refine hQ _ _ _ rfl ?_
  | refine hQN _ _ _ rfl ?_)
  refine N.loop (σ := Nat) (fun i => [(23, .psl 0 1 0 s.size), (24, I s.size), (25, I i)]) (fun i => [⟨1, 1, bcells (nmB s)⟩]) (fun i => i ≤ s.size) (fun i => s.size - i) 0 (by omega) (Weaks.sel (by repeat (first | exact trivial | refine ⟨.rfl, ?_⟩ | refine ⟨.any, ?_⟩)) rfl) fun i hi C hC => ?_
  by_cases hil : i < s.size
  · have hil2 : i < (nmB s).length := by omega
    have hg := bget (m := nmB s) (i := i) hil2
    have hx := h4 ((nmB s).getD i 0) (by rw [List.getD_eq_getElem?_getD, List.getElem?_eq_getElem hil2]; exact List.getElem_mem hil2)
    obtain ⟨x, hxe⟩ : ∃ x, (nmB s).getD i 0 = x := ⟨_, rfl⟩
    rw [hxe] at hg hx
    unfold okCh at hx
    have hg2 : (bcells (nmB s))[0 + ((i : Nat) : Int).toNat]? = some [.c (.int .u8 x)] := by rw [Int.toNat_natCast, Nat.zero_add]; exact hg
    repeat' (first
    | (show WOpsT _ (⟨_, .ld _ _, none⟩ :: _) _ _ _ _; refine T.ld rfl rfl rfl hg2 rfl ?_)
    | refine N.regS fun K hK => ?_
    | refine N.dregS fun K hK => ?_
    | refine N.regN fun K hK => ?_
    | refine N.dregN fun K hK => ?_
    | simp only [T.mv, sm, AO.ev, put, lk, enter, reduceIte, Nat.reduceEqDiff, Nat.reduceAdd, Nat.reduceMul, Nat.reduceSub, Int.reduceNeg, Int.reduceToNat, upto, renB, setAll]
    | (refine T.nil ?_; (first | refine hK _ _ _ (by rfl) ?_ | refine hK _ _ _ ?_); (try simp only [keep, List.map, lk, reduceIte, Nat.reduceEqDiff, enter]); clear hK K)
    | (show WOpsT _ (⟨_, .ld _ _, none⟩ :: _) _ _ _ _; first | refine L.ld ?_ | refine L.ldd ?_)
    | (show WOpsT _ (⟨_, .idx _ _ _ _, none⟩ :: _) _ _ _ _; first | refine L.idx ?_ | refine L.idxs ?_)
    | (show WOpsT _ (⟨_, .bin _ _ _, none⟩ :: _) _ _ _ _; first | refine L.add ?_ | refine L.bin ?_)
    | (show WOpsT _ (⟨_, _, some (_, true)⟩ :: _) _ _ _ _; first | refine L.goT ?_ | refine L.paT ?_ | refine L.go ?_ | refine L.pass ?_ | refine T.pU rfl ?_ | refine T.gT rfl (fun hgd => ?_) (fun hgd => ?_))
    | (show WOpsT _ (⟨_, _, some (_, false)⟩ :: _) _ _ _ _; first | refine L.goF ?_ | refine L.paF ?_ | refine L.go ?_ | refine L.pass ?_ | refine T.pU rfl ?_ | refine T.gF rfl (fun hgd => ?_) (fun hgd => ?_))
    | (show WOpsT _ (⟨_, .pick _ _ _, none⟩ :: _) _ _ _ _; first | refine L.pkT ?_ | refine L.pkF ?_ | refine L.pickT ?_ | refine L.pickF ?_ | refine L.pickB ?_ | refine T.pkD rfl (fun hgd => ?_) (fun hgd => ?_))
    | (show AKW _ _ _ _ _ _ _; first | refine N.now ?_)
    | (show AK _ _ (.cond _ _ _) _ _ _ _; first | refine N.c1 ?_ | refine N.c2 ?_ | refine N.c3 ?_ | refine N.c4 ?_ | refine N.condD rfl (fun hcd => ?_) (fun hcd => ?_) | refine N.condB rfl (fun hcd => ?_) (fun hcd => ?_) | refine N.condU rfl ?_ ?_)
    | (show AK _ _ _ _ _ _ _; first | refine N.seq ?_ | refine N.block ?_ | refine N.skip ?_ | refine N.exit ?_ | refine N.ret ?_)
    | (show RK _ _ _ _ _ _ _; simp only [rk, rk0, reduceIte, Nat.reduceEqDiff])
    | (show WOpsT _ _ _ _ _ _; first | refine T.lens rfl ?_ | refine T.s2b rfl ?_ | refine T.notD rfl ?_ | refine T.not rfl ?_ | refine L.len ?_ | refine L.lenS ?_ | refine L.lenN ?_)
    | refine hQ _ _ _ rfl ?_
    | refine hQN _ _ _ rfl ?_)
    all_goals first
      | exact hC _ _ (i + 1) (by omega) (by omega) (Weaks.sel (by repeat (first | exact trivial | refine ⟨.rfl, ?_⟩ | refine ⟨.any, ?_⟩)) rfl)
      | trace_state
  · obtain rfl : i = s.size := by omega
    repeat' (first
    | refine N.regS fun K hK => ?_
    | refine N.dregS fun K hK => ?_
    | refine N.regN fun K hK => ?_
    | refine N.dregN fun K hK => ?_
    | simp only [T.mv, sm, AO.ev, put, lk, enter, reduceIte, Nat.reduceEqDiff, Nat.reduceAdd, Nat.reduceMul, Nat.reduceSub, Int.reduceNeg, Int.reduceToNat, upto, renB, setAll]
    | (refine T.nil ?_; (first | refine hK _ _ _ (by rfl) ?_ | refine hK _ _ _ ?_); (try simp only [keep, List.map, lk, reduceIte, Nat.reduceEqDiff, enter]); clear hK K)
    | (show WOpsT _ (⟨_, .ld _ _, none⟩ :: _) _ _ _ _; first | refine L.ld ?_ | refine L.ldd ?_)
    | (show WOpsT _ (⟨_, .idx _ _ _ _, none⟩ :: _) _ _ _ _; first | refine L.idx ?_ | refine L.idxs ?_)
    | (show WOpsT _ (⟨_, .bin _ _ _, none⟩ :: _) _ _ _ _; first | refine L.add ?_ | refine L.bin ?_)
    | (show WOpsT _ (⟨_, _, some (_, true)⟩ :: _) _ _ _ _; first | refine L.goT ?_ | refine L.paT ?_ | refine L.go ?_ | refine L.pass ?_ | refine T.pU rfl ?_ | refine T.gT rfl (fun hgd => ?_) (fun hgd => ?_))
    | (show WOpsT _ (⟨_, _, some (_, false)⟩ :: _) _ _ _ _; first | refine L.goF ?_ | refine L.paF ?_ | refine L.go ?_ | refine L.pass ?_ | refine T.pU rfl ?_ | refine T.gF rfl (fun hgd => ?_) (fun hgd => ?_))
    | (show WOpsT _ (⟨_, .pick _ _ _, none⟩ :: _) _ _ _ _; first | refine L.pkT ?_ | refine L.pkF ?_ | refine L.pickT ?_ | refine L.pickF ?_ | refine L.pickB ?_ | refine T.pkD rfl (fun hgd => ?_) (fun hgd => ?_))
    | (show AKW _ _ _ _ _ _ _; first | refine N.now ?_)
    | (show AK _ _ (.cond _ _ _) _ _ _ _; first | refine N.c1 ?_ | refine N.c2 ?_ | refine N.c3 ?_ | refine N.c4 ?_ | refine N.condD rfl (fun hcd => ?_) (fun hcd => ?_) | refine N.condB rfl (fun hcd => ?_) (fun hcd => ?_) | refine N.condU rfl ?_ ?_)
    | (show AK _ _ _ _ _ _ _; first | refine N.seq ?_ | refine N.block ?_ | refine N.skip ?_ | refine N.exit ?_ | refine N.ret ?_)
    | (show RK _ _ _ _ _ _ _; simp only [rk, rk0, reduceIte, Nat.reduceEqDiff])
    | (show WOpsT _ _ _ _ _ _; first | refine T.lens rfl ?_ | refine T.s2b rfl ?_ | refine T.notD rfl ?_ | refine T.not rfl ?_ | refine L.len ?_ | refine L.lenS ?_ | refine L.lenN ?_)
    | refine hQ _ _ _ rfl ?_
    | refine hQN _ _ _ rfl ?_)
    exact WS.c rfl rfl
end Go.Proofs.Ytjmmompbmjhkpaa.Calc

namespace Go.Proofs.Ytjmmompbmjhkpaa.Calc
open Go Code
set_option linter.unusedSimpArgs false
set_option linter.unusedVariables false
set_option maxRecDepth 20000
set_option maxHeartbeats 4000000
attribute [local irreducible] WOpsT AW AK RK AKW UK UC
structure Ins where
  op : Int
  name : ByteArray
  mode : Int
  cy : List Cyc
def inC (x : Ins) : List V := [I x.op, .c (.string x.name), I x.mode, .sl 4 (x.cy.map cyC)]
def idxI (p : Ins → Bool) (l : List Ins) : Int := match l.findIdx? p with | some i => (i : Int) | none => -1
theorem idxI_at (p : Ins → Bool) (l : List Ins) (i : Nat) (hi : i < l.length) (h : ∀ j, j < i → ∀ hj : j < l.length, p l[j] = false) (hp : p l[i] = true) : idxI p l = i := by
  unfold idxI
  rw [show l.findIdx? p = some i from List.findIdx?_eq_some_iff_getElem.2 ⟨hi, hp, fun j hj => by rw [h j hj (by omega)]; decide⟩]
theorem idxI_none (p : Ins → Bool) (l : List Ins) (h : ∀ j, ∀ hj : j < l.length, p l[j] = false) : idxI p l = -1 := by
  unfold idxI
  rw [show l.findIdx? p = none from List.findIdx?_eq_none_iff.2 fun x hx => by obtain ⟨j, hj, rfl⟩ := List.getElem_of_mem hx; exact h j hj]
theorem indexI (f : Nat) (he : enters Try.prog f = true) (y : Ins) (l : List Ins) (p : Ins → Bool) (hl : l.length ≤ 256) (hp : ∀ x ∈ l, FnE Try.prog f [.agg (inC x), .ptr 0 1 0 0] [⟨1, 4, [inC y]⟩] (.c (.bool (p x))) [⟨1, 4, [inC y]⟩]) : FnE Try.prog 120 [.sl 4 (l.map inC), .fn f [.ptr 0 1 0 0]] [⟨1, 4, [inC y]⟩] (I (idxI p l)) [⟨1, 4, [inC y]⟩] := by
  refine N.fn Try.func120 k120 lb q120 fun Q hQ hQN => ?_
  rw [c120]
  repeat' (first
  | rw [List.length_map]
  | refine N.regS fun K hK => ?_
  | refine N.dregS fun K hK => ?_
  | refine N.regN fun K hK => ?_
  | refine N.dregN fun K hK => ?_
  | simp only [T.mv, sm, AO.ev, put, lk, enter, reduceIte, Nat.reduceEqDiff, Nat.reduceAdd, Nat.reduceMul, Nat.reduceSub, Int.reduceNeg, Int.reduceToNat, upto, renB, setAll]
  | (refine T.nil ?_; (first | refine hK _ _ _ (by rfl) ?_ | refine hK _ _ _ ?_); (try simp only [keep, List.map, lk, reduceIte, Nat.reduceEqDiff, enter]); clear hK K)
  | (show WOpsT _ (⟨_, .ld _ _, none⟩ :: _) _ _ _ _; first | refine L.ldn ?_ | refine L.lddn ?_)
  | (show WOpsT _ (⟨_, .idx _ _ _ _, none⟩ :: _) _ _ _ _; first | refine L.idx ?_ | refine L.idxs ?_)
  | (show WOpsT _ (⟨_, .bin _ _ _, none⟩ :: _) _ _ _ _; first | refine L.add ?_ | refine L.bin ?_)
  | (show AKW _ _ _ _ _ _ _; first | refine N.now ?_)
  | (show AK _ _ (.cond _ _ _) _ _ _ _; first | refine N.c1 ?_ | refine N.c2 ?_ | refine N.c3 ?_ | refine N.c4 ?_ | refine N.condD rfl (fun hcd => ?_) (fun hcd => ?_) | refine N.condB rfl (fun hcd => ?_) (fun hcd => ?_) | refine N.condU rfl ?_ ?_)
  | (show AK _ _ _ _ _ _ _; first | refine N.seq ?_ | refine N.block ?_ | refine N.skip ?_ | refine N.exit ?_ | refine N.ret ?_)
  | (show RK _ _ _ _ _ _ _; simp only [rk, rk0, reduceIte, Nat.reduceEqDiff])
  | (show WOpsT _ _ _ _ _ _; first | refine L.len ?_ | refine L.lenS ?_ | refine L.lenN ?_)
  | refine hQ _ _ _ rfl ?_
  | refine hQN _ _ _ rfl ?_)
  refine N.loop (σ := Nat) (fun i => [(0, .sl 4 (l.map inC)), (1, .fn f [.ptr 0 1 0 0]), (7, I l.length), (8, I i)]) (fun i => [⟨1, 4, [inC y]⟩]) (fun i => i ≤ l.length ∧ ∀ j, j < i → ∀ hj : j < l.length, p l[j] = false) (fun i => l.length - i) 0 ⟨by omega, fun j hj => absurd hj (by omega)⟩ (Weaks.sel (by repeat (first | exact trivial | refine ⟨.rfl, ?_⟩ | refine ⟨.any, ?_⟩)) rfl) fun i hi R hC => ?_
  obtain ⟨hi, hn⟩ := hi
  by_cases hil : i < l.length
  · have hv := hp _ (List.getElem_mem hil)
    obtain ⟨b, hb⟩ : ∃ b, p l[i] = b := ⟨_, rfl⟩
    rw [hb] at hv
    cases b
    · skip
      repeat' (first
      | (show WOpsT _ (⟨_, .idx _ _ _ _, none⟩ :: _) _ _ _ _; refine T.idxs rfl rfl rfl (by omega) (mget inC l i hil) ?_)
      | refine T.ofFn rfl (C.read [0] he rfl hv rfl rfl rfl rfl rfl ?_)
      | refine N.regS fun K hK => ?_
      | refine N.dregS fun K hK => ?_
      | refine N.regN fun K hK => ?_
      | refine N.dregN fun K hK => ?_
      | simp only [T.mv, sm, AO.ev, put, lk, enter, reduceIte, Nat.reduceEqDiff, Nat.reduceAdd, Nat.reduceMul, Nat.reduceSub, Int.reduceNeg, Int.reduceToNat, upto, renB, setAll]
      | (refine T.nil ?_; (first | refine hK _ _ _ (by rfl) ?_ | refine hK _ _ _ ?_); (try simp only [keep, List.map, lk, reduceIte, Nat.reduceEqDiff, enter]); clear hK K)
      | (show WOpsT _ (⟨_, .ld _ _, none⟩ :: _) _ _ _ _; first | refine L.ldn ?_ | refine L.lddn ?_)
      | (show WOpsT _ (⟨_, .idx _ _ _ _, none⟩ :: _) _ _ _ _; first | refine L.idx ?_ | refine L.idxs ?_)
      | (show WOpsT _ (⟨_, .bin _ _ _, none⟩ :: _) _ _ _ _; first | refine L.add ?_ | refine L.bin ?_)
      | (show AKW _ _ _ _ _ _ _; first | refine N.now ?_)
      | (show AK _ _ (.cond _ _ _) _ _ _ _; first | refine N.c1 ?_ | refine N.c2 ?_ | refine N.c3 ?_ | refine N.c4 ?_ | refine N.condD rfl (fun hcd => ?_) (fun hcd => ?_) | refine N.condB rfl (fun hcd => ?_) (fun hcd => ?_) | refine N.condU rfl ?_ ?_)
      | (show AK _ _ _ _ _ _ _; first | refine N.seq ?_ | refine N.block ?_ | refine N.skip ?_ | refine N.exit ?_ | refine N.ret ?_)
      | (show RK _ _ _ _ _ _ _; simp only [rk, rk0, reduceIte, Nat.reduceEqDiff])
      | (show WOpsT _ _ _ _ _ _; first | refine L.len ?_ | refine L.lenS ?_ | refine L.lenN ?_)
      | refine hQ _ _ _ rfl ?_
      | refine hQN _ _ _ rfl ?_)
      refine hC _ _ (i + 1) ⟨by omega, fun j hj hjl => ?_⟩ (by omega) (Weaks.sel (by repeat (first | exact trivial | refine ⟨.rfl, ?_⟩ | refine ⟨.any, ?_⟩)) rfl)
      by_cases hji : j = i
      · subst hji; exact hb
      · exact hn j (by omega) hjl
    · rw [idxI_at p l i hil hn hb] at hQ hQN
      repeat' (first
      | (show WOpsT _ (⟨_, .idx _ _ _ _, none⟩ :: _) _ _ _ _; refine T.idxs rfl rfl rfl (by omega) (mget inC l i hil) ?_)
      | refine T.ofFn rfl (C.read [0] he rfl hv rfl rfl rfl rfl rfl ?_)
      | refine N.regS fun K hK => ?_
      | refine N.dregS fun K hK => ?_
      | refine N.regN fun K hK => ?_
      | refine N.dregN fun K hK => ?_
      | simp only [T.mv, sm, AO.ev, put, lk, enter, reduceIte, Nat.reduceEqDiff, Nat.reduceAdd, Nat.reduceMul, Nat.reduceSub, Int.reduceNeg, Int.reduceToNat, upto, renB, setAll]
      | (refine T.nil ?_; (first | refine hK _ _ _ (by rfl) ?_ | refine hK _ _ _ ?_); (try simp only [keep, List.map, lk, reduceIte, Nat.reduceEqDiff, enter]); clear hK K)
      | (show WOpsT _ (⟨_, .ld _ _, none⟩ :: _) _ _ _ _; first | refine L.ldn ?_ | refine L.lddn ?_)
      | (show WOpsT _ (⟨_, .idx _ _ _ _, none⟩ :: _) _ _ _ _; first | refine L.idx ?_ | refine L.idxs ?_)
      | (show WOpsT _ (⟨_, .bin _ _ _, none⟩ :: _) _ _ _ _; first | refine L.add ?_ | refine L.bin ?_)
      | (show AKW _ _ _ _ _ _ _; first | refine N.now ?_)
      | (show AK _ _ (.cond _ _ _) _ _ _ _; first | refine N.c1 ?_ | refine N.c2 ?_ | refine N.c3 ?_ | refine N.c4 ?_ | refine N.condD rfl (fun hcd => ?_) (fun hcd => ?_) | refine N.condB rfl (fun hcd => ?_) (fun hcd => ?_) | refine N.condU rfl ?_ ?_)
      | (show AK _ _ _ _ _ _ _; first | refine N.seq ?_ | refine N.block ?_ | refine N.skip ?_ | refine N.exit ?_ | refine N.ret ?_)
      | (show RK _ _ _ _ _ _ _; simp only [rk, rk0, reduceIte, Nat.reduceEqDiff])
      | (show WOpsT _ _ _ _ _ _; first | refine L.len ?_ | refine L.lenS ?_ | refine L.lenN ?_)
      | refine hQ _ _ _ rfl ?_
      | refine hQN _ _ _ rfl ?_)
      exact WS.gc [0] 1 rfl (by first | rfl | (symm; unfold outH; simp only [List.map]; (repeat' (first | rfl | exact outB_bytes | exact outB_ints | exact outB_flat | refine consE ?_ ?_)); done)) .rfl
  · obtain rfl : i = l.length := by omega
    rw [idxI_none p l fun j hj => hn j hj hj] at hQ hQN
    repeat' (first
    | refine N.regS fun K hK => ?_
    | refine N.dregS fun K hK => ?_
    | refine N.regN fun K hK => ?_
    | refine N.dregN fun K hK => ?_
    | simp only [T.mv, sm, AO.ev, put, lk, enter, reduceIte, Nat.reduceEqDiff, Nat.reduceAdd, Nat.reduceMul, Nat.reduceSub, Int.reduceNeg, Int.reduceToNat, upto, renB, setAll]
    | (refine T.nil ?_; (first | refine hK _ _ _ (by rfl) ?_ | refine hK _ _ _ ?_); (try simp only [keep, List.map, lk, reduceIte, Nat.reduceEqDiff, enter]); clear hK K)
    | (show WOpsT _ (⟨_, .ld _ _, none⟩ :: _) _ _ _ _; first | refine L.ldn ?_ | refine L.lddn ?_)
    | (show WOpsT _ (⟨_, .idx _ _ _ _, none⟩ :: _) _ _ _ _; first | refine L.idx ?_ | refine L.idxs ?_)
    | (show WOpsT _ (⟨_, .bin _ _ _, none⟩ :: _) _ _ _ _; first | refine L.add ?_ | refine L.bin ?_)
    | (show AKW _ _ _ _ _ _ _; first | refine N.now ?_)
    | (show AK _ _ (.cond _ _ _) _ _ _ _; first | refine N.c1 ?_ | refine N.c2 ?_ | refine N.c3 ?_ | refine N.c4 ?_ | refine N.condD rfl (fun hcd => ?_) (fun hcd => ?_) | refine N.condB rfl (fun hcd => ?_) (fun hcd => ?_) | refine N.condU rfl ?_ ?_)
    | (show AK _ _ _ _ _ _ _; first | refine N.seq ?_ | refine N.block ?_ | refine N.skip ?_ | refine N.exit ?_ | refine N.ret ?_)
    | (show RK _ _ _ _ _ _ _; simp only [rk, rk0, reduceIte, Nat.reduceEqDiff])
    | (show WOpsT _ _ _ _ _ _; first | refine L.len ?_ | refine L.lenS ?_ | refine L.lenN ?_)
    | refine hQ _ _ _ rfl ?_
    | refine hQN _ _ _ rfl ?_)
    exact WS.gc [0] 1 rfl (by first | rfl | (symm; unfold outH; simp only [List.map]; (repeat' (first | rfl | exact outB_bytes | exact outB_ints | exact outB_flat | refine consE ?_ ?_)); done)) .rfl
theorem indexO (f : Nat) (he : enters Try.prog f = true) (o : Int) (l : List Ins) (p : Ins → Bool) (hl : l.length ≤ 256) (hp : ∀ x ∈ l, FnE Try.prog f [.agg (inC x), .ptr 0 1 0 0] [⟨1, 1, [[I o]]⟩] (.c (.bool (p x))) [⟨1, 1, [[I o]]⟩]) : FnE Try.prog 120 [.sl 4 (l.map inC), .fn f [.ptr 0 1 0 0]] [⟨1, 1, [[I o]]⟩] (I (idxI p l)) [⟨1, 1, [[I o]]⟩] := by
  refine N.fn Try.func120 k120 lb q120 fun Q hQ hQN => ?_
  rw [c120]
  repeat' (first
  | rw [List.length_map]
  | refine N.regS fun K hK => ?_
  | refine N.dregS fun K hK => ?_
  | refine N.regN fun K hK => ?_
  | refine N.dregN fun K hK => ?_
  | simp only [T.mv, sm, AO.ev, put, lk, enter, reduceIte, Nat.reduceEqDiff, Nat.reduceAdd, Nat.reduceMul, Nat.reduceSub, Int.reduceNeg, Int.reduceToNat, upto, renB, setAll]
  | (refine T.nil ?_; (first | refine hK _ _ _ (by rfl) ?_ | refine hK _ _ _ ?_); (try simp only [keep, List.map, lk, reduceIte, Nat.reduceEqDiff, enter]); clear hK K)
  | (show WOpsT _ (⟨_, .ld _ _, none⟩ :: _) _ _ _ _; first | refine L.ldn ?_ | refine L.lddn ?_)
  | (show WOpsT _ (⟨_, .idx _ _ _ _, none⟩ :: _) _ _ _ _; first | refine L.idx ?_ | refine L.idxs ?_)
  | (show WOpsT _ (⟨_, .bin _ _ _, none⟩ :: _) _ _ _ _; first | refine L.add ?_ | refine L.bin ?_)
  | (show AKW _ _ _ _ _ _ _; first | refine N.now ?_)
  | (show AK _ _ (.cond _ _ _) _ _ _ _; first | refine N.c1 ?_ | refine N.c2 ?_ | refine N.c3 ?_ | refine N.c4 ?_ | refine N.condD rfl (fun hcd => ?_) (fun hcd => ?_) | refine N.condB rfl (fun hcd => ?_) (fun hcd => ?_) | refine N.condU rfl ?_ ?_)
  | (show AK _ _ _ _ _ _ _; first | refine N.seq ?_ | refine N.block ?_ | refine N.skip ?_ | refine N.exit ?_ | refine N.ret ?_)
  | (show RK _ _ _ _ _ _ _; simp only [rk, rk0, reduceIte, Nat.reduceEqDiff])
  | (show WOpsT _ _ _ _ _ _; first | refine L.len ?_ | refine L.lenS ?_ | refine L.lenN ?_)
  | refine hQ _ _ _ rfl ?_
  | refine hQN _ _ _ rfl ?_)
  refine N.loop (σ := Nat) (fun i => [(0, .sl 4 (l.map inC)), (1, .fn f [.ptr 0 1 0 0]), (7, I l.length), (8, I i)]) (fun i => [⟨1, 1, [[I o]]⟩]) (fun i => i ≤ l.length ∧ ∀ j, j < i → ∀ hj : j < l.length, p l[j] = false) (fun i => l.length - i) 0 ⟨by omega, fun j hj => absurd hj (by omega)⟩ (Weaks.sel (by repeat (first | exact trivial | refine ⟨.rfl, ?_⟩ | refine ⟨.any, ?_⟩)) rfl) fun i hi R hC => ?_
  obtain ⟨hi, hn⟩ := hi
  by_cases hil : i < l.length
  · have hv := hp _ (List.getElem_mem hil)
    obtain ⟨b, hb⟩ : ∃ b, p l[i] = b := ⟨_, rfl⟩
    rw [hb] at hv
    cases b
    · skip
      repeat' (first
      | (show WOpsT _ (⟨_, .idx _ _ _ _, none⟩ :: _) _ _ _ _; refine T.idxs rfl rfl rfl (by omega) (mget inC l i hil) ?_)
      | refine T.ofFn rfl (C.read [0] he rfl hv rfl rfl rfl rfl rfl ?_)
      | refine N.regS fun K hK => ?_
      | refine N.dregS fun K hK => ?_
      | refine N.regN fun K hK => ?_
      | refine N.dregN fun K hK => ?_
      | simp only [T.mv, sm, AO.ev, put, lk, enter, reduceIte, Nat.reduceEqDiff, Nat.reduceAdd, Nat.reduceMul, Nat.reduceSub, Int.reduceNeg, Int.reduceToNat, upto, renB, setAll]
      | (refine T.nil ?_; (first | refine hK _ _ _ (by rfl) ?_ | refine hK _ _ _ ?_); (try simp only [keep, List.map, lk, reduceIte, Nat.reduceEqDiff, enter]); clear hK K)
      | (show WOpsT _ (⟨_, .ld _ _, none⟩ :: _) _ _ _ _; first | refine L.ldn ?_ | refine L.lddn ?_)
      | (show WOpsT _ (⟨_, .idx _ _ _ _, none⟩ :: _) _ _ _ _; first | refine L.idx ?_ | refine L.idxs ?_)
      | (show WOpsT _ (⟨_, .bin _ _ _, none⟩ :: _) _ _ _ _; first | refine L.add ?_ | refine L.bin ?_)
      | (show AKW _ _ _ _ _ _ _; first | refine N.now ?_)
      | (show AK _ _ (.cond _ _ _) _ _ _ _; first | refine N.c1 ?_ | refine N.c2 ?_ | refine N.c3 ?_ | refine N.c4 ?_ | refine N.condD rfl (fun hcd => ?_) (fun hcd => ?_) | refine N.condB rfl (fun hcd => ?_) (fun hcd => ?_) | refine N.condU rfl ?_ ?_)
      | (show AK _ _ _ _ _ _ _; first | refine N.seq ?_ | refine N.block ?_ | refine N.skip ?_ | refine N.exit ?_ | refine N.ret ?_)
      | (show RK _ _ _ _ _ _ _; simp only [rk, rk0, reduceIte, Nat.reduceEqDiff])
      | (show WOpsT _ _ _ _ _ _; first | refine L.len ?_ | refine L.lenS ?_ | refine L.lenN ?_)
      | refine hQ _ _ _ rfl ?_
      | refine hQN _ _ _ rfl ?_)
      refine hC _ _ (i + 1) ⟨by omega, fun j hj hjl => ?_⟩ (by omega) (Weaks.sel (by repeat (first | exact trivial | refine ⟨.rfl, ?_⟩ | refine ⟨.any, ?_⟩)) rfl)
      by_cases hji : j = i
      · subst hji; exact hb
      · exact hn j (by omega) hjl
    · rw [idxI_at p l i hil hn hb] at hQ hQN
      repeat' (first
      | (show WOpsT _ (⟨_, .idx _ _ _ _, none⟩ :: _) _ _ _ _; refine T.idxs rfl rfl rfl (by omega) (mget inC l i hil) ?_)
      | refine T.ofFn rfl (C.read [0] he rfl hv rfl rfl rfl rfl rfl ?_)
      | refine N.regS fun K hK => ?_
      | refine N.dregS fun K hK => ?_
      | refine N.regN fun K hK => ?_
      | refine N.dregN fun K hK => ?_
      | simp only [T.mv, sm, AO.ev, put, lk, enter, reduceIte, Nat.reduceEqDiff, Nat.reduceAdd, Nat.reduceMul, Nat.reduceSub, Int.reduceNeg, Int.reduceToNat, upto, renB, setAll]
      | (refine T.nil ?_; (first | refine hK _ _ _ (by rfl) ?_ | refine hK _ _ _ ?_); (try simp only [keep, List.map, lk, reduceIte, Nat.reduceEqDiff, enter]); clear hK K)
      | (show WOpsT _ (⟨_, .ld _ _, none⟩ :: _) _ _ _ _; first | refine L.ldn ?_ | refine L.lddn ?_)
      | (show WOpsT _ (⟨_, .idx _ _ _ _, none⟩ :: _) _ _ _ _; first | refine L.idx ?_ | refine L.idxs ?_)
      | (show WOpsT _ (⟨_, .bin _ _ _, none⟩ :: _) _ _ _ _; first | refine L.add ?_ | refine L.bin ?_)
      | (show AKW _ _ _ _ _ _ _; first | refine N.now ?_)
      | (show AK _ _ (.cond _ _ _) _ _ _ _; first | refine N.c1 ?_ | refine N.c2 ?_ | refine N.c3 ?_ | refine N.c4 ?_ | refine N.condD rfl (fun hcd => ?_) (fun hcd => ?_) | refine N.condB rfl (fun hcd => ?_) (fun hcd => ?_) | refine N.condU rfl ?_ ?_)
      | (show AK _ _ _ _ _ _ _; first | refine N.seq ?_ | refine N.block ?_ | refine N.skip ?_ | refine N.exit ?_ | refine N.ret ?_)
      | (show RK _ _ _ _ _ _ _; simp only [rk, rk0, reduceIte, Nat.reduceEqDiff])
      | (show WOpsT _ _ _ _ _ _; first | refine L.len ?_ | refine L.lenS ?_ | refine L.lenN ?_)
      | refine hQ _ _ _ rfl ?_
      | refine hQN _ _ _ rfl ?_)
      exact WS.gc [0] 1 rfl (by first | rfl | (symm; unfold outH; simp only [List.map]; (repeat' (first | rfl | exact outB_bytes | exact outB_ints | exact outB_flat | refine consE ?_ ?_)); done)) .rfl
  · obtain rfl : i = l.length := by omega
    rw [idxI_none p l fun j hj => hn j hj hj] at hQ hQN
    repeat' (first
    | refine N.regS fun K hK => ?_
    | refine N.dregS fun K hK => ?_
    | refine N.regN fun K hK => ?_
    | refine N.dregN fun K hK => ?_
    | simp only [T.mv, sm, AO.ev, put, lk, enter, reduceIte, Nat.reduceEqDiff, Nat.reduceAdd, Nat.reduceMul, Nat.reduceSub, Int.reduceNeg, Int.reduceToNat, upto, renB, setAll]
    | (refine T.nil ?_; (first | refine hK _ _ _ (by rfl) ?_ | refine hK _ _ _ ?_); (try simp only [keep, List.map, lk, reduceIte, Nat.reduceEqDiff, enter]); clear hK K)
    | (show WOpsT _ (⟨_, .ld _ _, none⟩ :: _) _ _ _ _; first | refine L.ldn ?_ | refine L.lddn ?_)
    | (show WOpsT _ (⟨_, .idx _ _ _ _, none⟩ :: _) _ _ _ _; first | refine L.idx ?_ | refine L.idxs ?_)
    | (show WOpsT _ (⟨_, .bin _ _ _, none⟩ :: _) _ _ _ _; first | refine L.add ?_ | refine L.bin ?_)
    | (show AKW _ _ _ _ _ _ _; first | refine N.now ?_)
    | (show AK _ _ (.cond _ _ _) _ _ _ _; first | refine N.c1 ?_ | refine N.c2 ?_ | refine N.c3 ?_ | refine N.c4 ?_ | refine N.condD rfl (fun hcd => ?_) (fun hcd => ?_) | refine N.condB rfl (fun hcd => ?_) (fun hcd => ?_) | refine N.condU rfl ?_ ?_)
    | (show AK _ _ _ _ _ _ _; first | refine N.seq ?_ | refine N.block ?_ | refine N.skip ?_ | refine N.exit ?_ | refine N.ret ?_)
    | (show RK _ _ _ _ _ _ _; simp only [rk, rk0, reduceIte, Nat.reduceEqDiff])
    | (show WOpsT _ _ _ _ _ _; first | refine L.len ?_ | refine L.lenS ?_ | refine L.lenN ?_)
    | refine hQ _ _ _ rfl ?_
    | refine hQN _ _ _ rfl ?_)
    exact WS.gc [0] 1 rfl (by first | rfl | (symm; unfold outH; simp only [List.map]; (repeat' (first | rfl | exact outB_bytes | exact outB_ints | exact outB_flat | refine consE ?_ ?_)); done)) .rfl
theorem indexN (f : Nat) (he : enters Try.prog f = true) (s : ByteArray) (m : Int) (l : List Ins) (p : Ins → Bool) (hl : l.length ≤ 256) (hp : ∀ x ∈ l, FnE Try.prog f [.agg (inC x), .ptr 0 1 0 0, .ptr 1 1 0 0] [⟨1, 1, [[.c (.string s)]]⟩, ⟨1, 1, [[I m]]⟩] (.c (.bool (p x))) [⟨1, 1, [[.c (.string s)]]⟩, ⟨1, 1, [[I m]]⟩]) : FnE Try.prog 120 [.sl 4 (l.map inC), .fn f [.ptr 0 1 0 0, .ptr 1 1 0 0]] [⟨1, 1, [[.c (.string s)]]⟩, ⟨1, 1, [[I m]]⟩] (I (idxI p l)) [⟨1, 1, [[.c (.string s)]]⟩, ⟨1, 1, [[I m]]⟩] := by
  refine N.fn Try.func120 k120 lb q120 fun Q hQ hQN => ?_
  rw [c120]
  repeat' (first
  | rw [List.length_map]
  | refine N.regS fun K hK => ?_
  | refine N.dregS fun K hK => ?_
  | refine N.regN fun K hK => ?_
  | refine N.dregN fun K hK => ?_
  | simp only [T.mv, sm, AO.ev, put, lk, enter, reduceIte, Nat.reduceEqDiff, Nat.reduceAdd, Nat.reduceMul, Nat.reduceSub, Int.reduceNeg, Int.reduceToNat, upto, renB, setAll]
  | (refine T.nil ?_; (first | refine hK _ _ _ (by rfl) ?_ | refine hK _ _ _ ?_); (try simp only [keep, List.map, lk, reduceIte, Nat.reduceEqDiff, enter]); clear hK K)
  | (show WOpsT _ (⟨_, .ld _ _, none⟩ :: _) _ _ _ _; first | refine L.ldn ?_ | refine L.lddn ?_)
  | (show WOpsT _ (⟨_, .idx _ _ _ _, none⟩ :: _) _ _ _ _; first | refine L.idx ?_ | refine L.idxs ?_)
  | (show WOpsT _ (⟨_, .bin _ _ _, none⟩ :: _) _ _ _ _; first | refine L.add ?_ | refine L.bin ?_)
  | (show AKW _ _ _ _ _ _ _; first | refine N.now ?_)
  | (show AK _ _ (.cond _ _ _) _ _ _ _; first | refine N.c1 ?_ | refine N.c2 ?_ | refine N.c3 ?_ | refine N.c4 ?_ | refine N.condD rfl (fun hcd => ?_) (fun hcd => ?_) | refine N.condB rfl (fun hcd => ?_) (fun hcd => ?_) | refine N.condU rfl ?_ ?_)
  | (show AK _ _ _ _ _ _ _; first | refine N.seq ?_ | refine N.block ?_ | refine N.skip ?_ | refine N.exit ?_ | refine N.ret ?_)
  | (show RK _ _ _ _ _ _ _; simp only [rk, rk0, reduceIte, Nat.reduceEqDiff])
  | (show WOpsT _ _ _ _ _ _; first | refine L.len ?_ | refine L.lenS ?_ | refine L.lenN ?_)
  | refine hQ _ _ _ rfl ?_
  | refine hQN _ _ _ rfl ?_)
  refine N.loop (σ := Nat) (fun i => [(0, .sl 4 (l.map inC)), (1, .fn f [.ptr 0 1 0 0, .ptr 1 1 0 0]), (7, I l.length), (8, I i)]) (fun i => [⟨1, 1, [[.c (.string s)]]⟩, ⟨1, 1, [[I m]]⟩]) (fun i => i ≤ l.length ∧ ∀ j, j < i → ∀ hj : j < l.length, p l[j] = false) (fun i => l.length - i) 0 ⟨by omega, fun j hj => absurd hj (by omega)⟩ (Weaks.sel (by repeat (first | exact trivial | refine ⟨.rfl, ?_⟩ | refine ⟨.any, ?_⟩)) rfl) fun i hi R hC => ?_
  obtain ⟨hi, hn⟩ := hi
  by_cases hil : i < l.length
  · have hv := hp _ (List.getElem_mem hil)
    obtain ⟨b, hb⟩ : ∃ b, p l[i] = b := ⟨_, rfl⟩
    rw [hb] at hv
    cases b
    · skip
      repeat' (first
      | (show WOpsT _ (⟨_, .idx _ _ _ _, none⟩ :: _) _ _ _ _; refine T.idxs rfl rfl rfl (by omega) (mget inC l i hil) ?_)
      | refine T.ofFn rfl (C.read [0, 1] he rfl hv rfl rfl rfl rfl rfl ?_)
      | refine N.regS fun K hK => ?_
      | refine N.dregS fun K hK => ?_
      | refine N.regN fun K hK => ?_
      | refine N.dregN fun K hK => ?_
      | simp only [T.mv, sm, AO.ev, put, lk, enter, reduceIte, Nat.reduceEqDiff, Nat.reduceAdd, Nat.reduceMul, Nat.reduceSub, Int.reduceNeg, Int.reduceToNat, upto, renB, setAll]
      | (refine T.nil ?_; (first | refine hK _ _ _ (by rfl) ?_ | refine hK _ _ _ ?_); (try simp only [keep, List.map, lk, reduceIte, Nat.reduceEqDiff, enter]); clear hK K)
      | (show WOpsT _ (⟨_, .ld _ _, none⟩ :: _) _ _ _ _; first | refine L.ldn ?_ | refine L.lddn ?_)
      | (show WOpsT _ (⟨_, .idx _ _ _ _, none⟩ :: _) _ _ _ _; first | refine L.idx ?_ | refine L.idxs ?_)
      | (show WOpsT _ (⟨_, .bin _ _ _, none⟩ :: _) _ _ _ _; first | refine L.add ?_ | refine L.bin ?_)
      | (show AKW _ _ _ _ _ _ _; first | refine N.now ?_)
      | (show AK _ _ (.cond _ _ _) _ _ _ _; first | refine N.c1 ?_ | refine N.c2 ?_ | refine N.c3 ?_ | refine N.c4 ?_ | refine N.condD rfl (fun hcd => ?_) (fun hcd => ?_) | refine N.condB rfl (fun hcd => ?_) (fun hcd => ?_) | refine N.condU rfl ?_ ?_)
      | (show AK _ _ _ _ _ _ _; first | refine N.seq ?_ | refine N.block ?_ | refine N.skip ?_ | refine N.exit ?_ | refine N.ret ?_)
      | (show RK _ _ _ _ _ _ _; simp only [rk, rk0, reduceIte, Nat.reduceEqDiff])
      | (show WOpsT _ _ _ _ _ _; first | refine L.len ?_ | refine L.lenS ?_ | refine L.lenN ?_)
      | refine hQ _ _ _ rfl ?_
      | refine hQN _ _ _ rfl ?_)
      refine hC _ _ (i + 1) ⟨by omega, fun j hj hjl => ?_⟩ (by omega) (Weaks.sel (by repeat (first | exact trivial | refine ⟨.rfl, ?_⟩ | refine ⟨.any, ?_⟩)) rfl)
      by_cases hji : j = i
      · subst hji; exact hb
      · exact hn j (by omega) hjl
    · rw [idxI_at p l i hil hn hb] at hQ hQN
      repeat' (first
      | (show WOpsT _ (⟨_, .idx _ _ _ _, none⟩ :: _) _ _ _ _; refine T.idxs rfl rfl rfl (by omega) (mget inC l i hil) ?_)
      | refine T.ofFn rfl (C.read [0, 1] he rfl hv rfl rfl rfl rfl rfl ?_)
      | refine N.regS fun K hK => ?_
      | refine N.dregS fun K hK => ?_
      | refine N.regN fun K hK => ?_
      | refine N.dregN fun K hK => ?_
      | simp only [T.mv, sm, AO.ev, put, lk, enter, reduceIte, Nat.reduceEqDiff, Nat.reduceAdd, Nat.reduceMul, Nat.reduceSub, Int.reduceNeg, Int.reduceToNat, upto, renB, setAll]
      | (refine T.nil ?_; (first | refine hK _ _ _ (by rfl) ?_ | refine hK _ _ _ ?_); (try simp only [keep, List.map, lk, reduceIte, Nat.reduceEqDiff, enter]); clear hK K)
      | (show WOpsT _ (⟨_, .ld _ _, none⟩ :: _) _ _ _ _; first | refine L.ldn ?_ | refine L.lddn ?_)
      | (show WOpsT _ (⟨_, .idx _ _ _ _, none⟩ :: _) _ _ _ _; first | refine L.idx ?_ | refine L.idxs ?_)
      | (show WOpsT _ (⟨_, .bin _ _ _, none⟩ :: _) _ _ _ _; first | refine L.add ?_ | refine L.bin ?_)
      | (show AKW _ _ _ _ _ _ _; first | refine N.now ?_)
      | (show AK _ _ (.cond _ _ _) _ _ _ _; first | refine N.c1 ?_ | refine N.c2 ?_ | refine N.c3 ?_ | refine N.c4 ?_ | refine N.condD rfl (fun hcd => ?_) (fun hcd => ?_) | refine N.condB rfl (fun hcd => ?_) (fun hcd => ?_) | refine N.condU rfl ?_ ?_)
      | (show AK _ _ _ _ _ _ _; first | refine N.seq ?_ | refine N.block ?_ | refine N.skip ?_ | refine N.exit ?_ | refine N.ret ?_)
      | (show RK _ _ _ _ _ _ _; simp only [rk, rk0, reduceIte, Nat.reduceEqDiff])
      | (show WOpsT _ _ _ _ _ _; first | refine L.len ?_ | refine L.lenS ?_ | refine L.lenN ?_)
      | refine hQ _ _ _ rfl ?_
      | refine hQN _ _ _ rfl ?_)
      exact WS.gc [0, 1] 1 rfl (by first | rfl | (symm; unfold outH; simp only [List.map]; (repeat' (first | rfl | exact outB_bytes | exact outB_ints | exact outB_flat | refine consE ?_ ?_)); done)) .rfl
  · obtain rfl : i = l.length := by omega
    rw [idxI_none p l fun j hj => hn j hj hj] at hQ hQN
    repeat' (first
    | refine N.regS fun K hK => ?_
    | refine N.dregS fun K hK => ?_
    | refine N.regN fun K hK => ?_
    | refine N.dregN fun K hK => ?_
    | simp only [T.mv, sm, AO.ev, put, lk, enter, reduceIte, Nat.reduceEqDiff, Nat.reduceAdd, Nat.reduceMul, Nat.reduceSub, Int.reduceNeg, Int.reduceToNat, upto, renB, setAll]
    | (refine T.nil ?_; (first | refine hK _ _ _ (by rfl) ?_ | refine hK _ _ _ ?_); (try simp only [keep, List.map, lk, reduceIte, Nat.reduceEqDiff, enter]); clear hK K)
    | (show WOpsT _ (⟨_, .ld _ _, none⟩ :: _) _ _ _ _; first | refine L.ldn ?_ | refine L.lddn ?_)
    | (show WOpsT _ (⟨_, .idx _ _ _ _, none⟩ :: _) _ _ _ _; first | refine L.idx ?_ | refine L.idxs ?_)
    | (show WOpsT _ (⟨_, .bin _ _ _, none⟩ :: _) _ _ _ _; first | refine L.add ?_ | refine L.bin ?_)
    | (show AKW _ _ _ _ _ _ _; first | refine N.now ?_)
    | (show AK _ _ (.cond _ _ _) _ _ _ _; first | refine N.c1 ?_ | refine N.c2 ?_ | refine N.c3 ?_ | refine N.c4 ?_ | refine N.condD rfl (fun hcd => ?_) (fun hcd => ?_) | refine N.condB rfl (fun hcd => ?_) (fun hcd => ?_) | refine N.condU rfl ?_ ?_)
    | (show AK _ _ _ _ _ _ _; first | refine N.seq ?_ | refine N.block ?_ | refine N.skip ?_ | refine N.exit ?_ | refine N.ret ?_)
    | (show RK _ _ _ _ _ _ _; simp only [rk, rk0, reduceIte, Nat.reduceEqDiff])
    | (show WOpsT _ _ _ _ _ _; first | refine L.len ?_ | refine L.lenS ?_ | refine L.lenN ?_)
    | refine hQ _ _ _ rfl ?_
    | refine hQN _ _ _ rfl ?_)
    exact WS.gc [0, 1] 1 rfl (by first | rfl | (symm; unfold outH; simp only [List.map]; (repeat' (first | rfl | exact outB_bytes | exact outB_ints | exact outB_flat | refine consE ?_ ?_)); done)) .rfl
end Go.Proofs.Ytjmmompbmjhkpaa.Calc

namespace Go.Proofs.Ytjmmompbmjhkpaa.Calc
open Go Code
set_option linter.unusedSimpArgs false
set_option linter.unusedVariables false
set_option maxRecDepth 20000
set_option maxHeartbeats 4000000
attribute [local irreducible] WOpsT AW AK RK AKW UK UC
theorem find1_ok (x : Ins) (o : Int) : FnE Try.prog 121 [.agg (inC x), .ptr 0 1 0 0] [⟨1, 1, [[I o]]⟩] (.c (.bool (decide (x.op = o)))) [⟨1, 1, [[I o]]⟩] := by
  obtain ⟨a, s, m, cy⟩ := x
  refine N.fn Try.func121 k121 lb q121 fun Q hQ hQN => ?_
  rw [c121]
  repeat' (first
  | refine N.regS fun K hK => ?_
  | refine N.dregS fun K hK => ?_
  | refine N.regN fun K hK => ?_
  | refine N.dregN fun K hK => ?_
  | simp only [T.mv, sm, AO.ev, put, lk, enter, reduceIte, Nat.reduceEqDiff, Nat.reduceAdd, Nat.reduceMul, Nat.reduceSub, Int.reduceNeg, Int.reduceToNat, upto, renB, setAll]
  | (refine T.nil ?_; (first | refine hK _ _ _ (by rfl) ?_ | refine hK _ _ _ ?_); (try simp only [keep, List.map, lk, reduceIte, Nat.reduceEqDiff, enter]); clear hK K)
  | (show WOpsT _ (⟨_, .ld _ _, none⟩ :: _) _ _ _ _; first | refine L.ld ?_ | refine L.ldd ?_)
  | (show WOpsT _ (⟨_, .bin _ _ _, none⟩ :: _) _ _ _ _; first | refine L.bin ?_)
  | (show AKW _ _ _ _ _ _ _; first | refine N.now ?_)
  | (show AK _ _ _ _ _ _ _; first | refine N.seq ?_ | refine N.ret ?_)
  | (show RK _ _ _ _ _ _ _; simp only [rk, rk0, reduceIte, Nat.reduceEqDiff])
  | (show WOpsT _ _ _ _ _ _; first | refine L.fad ?_ | refine L.fadd ?_ | refine L.new ?_)
  | refine hQ _ _ _ rfl ?_
  | refine hQN _ _ _ rfl ?_)
  exact WS.gc [0] 1 rfl (by first | rfl | (symm; unfold outH; simp only [List.map]; (repeat' (first | rfl | exact outB_bytes | exact outB_ints | exact outB_flat | refine consE ?_ ?_)); done)) .rfl
theorem named1_ok (x : Ins) (t : ByteArray) (o : Int) : FnE Try.prog 123 [.agg (inC x), .ptr 0 1 0 0, .ptr 1 1 0 0] [⟨1, 1, [[.c (.string t)]]⟩, ⟨1, 1, [[I o]]⟩] (.c (.bool (decide (x.name = t ∧ x.mode = o)))) [⟨1, 1, [[.c (.string t)]]⟩, ⟨1, 1, [[I o]]⟩] := by
  obtain ⟨a, s, m, cy⟩ := x
  refine N.fn Try.func123 k123 lb q123 fun Q hQ hQN => ?_
  rw [c123]
  repeat' (first
  | refine N.regS fun K hK => ?_
  | refine N.dregS fun K hK => ?_
  | refine N.regN fun K hK => ?_
  | refine N.dregN fun K hK => ?_
  | simp only [T.mv, sm, AO.ev, put, lk, enter, reduceIte, Nat.reduceEqDiff, Nat.reduceAdd, Nat.reduceMul, Nat.reduceSub, Int.reduceNeg, Int.reduceToNat, upto, renB, setAll]
  | (refine T.nil ?_; (first | refine hK _ _ _ (by rfl) ?_ | refine hK _ _ _ ?_); (try simp only [keep, List.map, lk, reduceIte, Nat.reduceEqDiff, enter]); clear hK K)
  | (show WOpsT _ (⟨_, .ld _ _, none⟩ :: _) _ _ _ _; first | refine L.ld ?_ | refine L.ldd ?_)
  | (show WOpsT _ (⟨_, .bin _ _ _, none⟩ :: _) _ _ _ _; first | refine L.bin ?_)
  | (show WOpsT _ (⟨_, _, some (_, true)⟩ :: _) _ _ _ _; first | refine L.goT ?_ | refine L.paT ?_ | refine L.go ?_ | refine L.pass ?_ | refine T.pU rfl ?_ | refine T.gT rfl (fun hgd => ?_) (fun hgd => ?_))
  | (show WOpsT _ (⟨_, .pick _ _ _, none⟩ :: _) _ _ _ _; first | refine L.pkT ?_ | refine L.pkF ?_ | refine L.pickT ?_ | refine L.pickF ?_ | refine L.pickB ?_ | refine T.pkD rfl (fun hgd => ?_) (fun hgd => ?_))
  | (show AKW _ _ _ _ _ _ _; first | refine N.now ?_)
  | (show AK _ _ _ _ _ _ _; first | refine N.seq ?_ | refine N.ret ?_)
  | (show RK _ _ _ _ _ _ _; simp only [rk, rk0, reduceIte, Nat.reduceEqDiff])
  | (show WOpsT _ _ _ _ _ _; first | refine L.fad ?_ | refine L.fadd ?_ | refine L.new ?_)
  | refine hQ _ _ _ rfl ?_
  | refine hQN _ _ _ rfl ?_)
  · show WeakS _ _ _ (.c (.bool (decide (s = t ∧ m = o)))) _
    rw [show decide (s = t ∧ m = o) = decide (m = o) from by simp [*]]
    exact WS.gc [0, 1] 1 rfl (by first | rfl | (symm; unfold outH; simp only [List.map]; (repeat' (first | rfl | exact outB_bytes | exact outB_ints | exact outB_flat | refine consE ?_ ?_)); done)) .rfl
  · show WeakS _ _ _ (.c (.bool (decide (s = t ∧ m = o)))) _
    rw [show decide (s = t ∧ m = o) = false from by simp [*]]
    exact WS.gc [0, 1] 1 rfl (by first | rfl | (symm; unfold outH; simp only [List.map]; (repeat' (first | rfl | exact outB_bytes | exact outB_ints | exact outB_flat | refine consE ?_ ?_)); done)) .rfl
theorem check1_ok (x y : Ins) : FnE Try.prog 114 [.agg (inC x), .ptr 0 1 0 0] [⟨1, 4, [inC y]⟩] (.c (.bool (decide (x.name = y.name ∧ x.mode = y.mode)))) [⟨1, 4, [inC y]⟩] := by
  obtain ⟨a, s, m, cy⟩ := x
  obtain ⟨b, t, o, dy⟩ := y
  refine N.fn Try.func114 k114 lb q114 fun Q hQ hQN => ?_
  rw [c114]
  repeat' (first
  | refine N.regS fun K hK => ?_
  | refine N.dregS fun K hK => ?_
  | refine N.regN fun K hK => ?_
  | refine N.dregN fun K hK => ?_
  | simp only [T.mv, sm, AO.ev, put, lk, enter, reduceIte, Nat.reduceEqDiff, Nat.reduceAdd, Nat.reduceMul, Nat.reduceSub, Int.reduceNeg, Int.reduceToNat, upto, renB, setAll]
  | (refine T.nil ?_; (first | refine hK _ _ _ (by rfl) ?_ | refine hK _ _ _ ?_); (try simp only [keep, List.map, lk, reduceIte, Nat.reduceEqDiff, enter]); clear hK K)
  | (show WOpsT _ (⟨_, .ld _ _, none⟩ :: _) _ _ _ _; first | refine L.ld ?_ | refine L.ldd ?_)
  | (show WOpsT _ (⟨_, .bin _ _ _, none⟩ :: _) _ _ _ _; first | refine L.bin ?_)
  | (show WOpsT _ (⟨_, _, some (_, true)⟩ :: _) _ _ _ _; first | refine L.goT ?_ | refine L.paT ?_ | refine L.go ?_ | refine L.pass ?_ | refine T.pU rfl ?_ | refine T.gT rfl (fun hgd => ?_) (fun hgd => ?_))
  | (show WOpsT _ (⟨_, .pick _ _ _, none⟩ :: _) _ _ _ _; first | refine L.pkT ?_ | refine L.pkF ?_ | refine L.pickT ?_ | refine L.pickF ?_ | refine L.pickB ?_ | refine T.pkD rfl (fun hgd => ?_) (fun hgd => ?_))
  | (show AKW _ _ _ _ _ _ _; first | refine N.now ?_)
  | (show AK _ _ _ _ _ _ _; first | refine N.seq ?_ | refine N.ret ?_)
  | (show RK _ _ _ _ _ _ _; simp only [rk, rk0, reduceIte, Nat.reduceEqDiff])
  | (show WOpsT _ _ _ _ _ _; first | refine L.fad ?_ | refine L.fadd ?_ | refine L.new ?_)
  | refine hQ _ _ _ rfl ?_
  | refine hQN _ _ _ rfl ?_)
  · show WeakS _ _ _ (.c (.bool (decide (s = t ∧ m = o)))) _
    rw [show decide (s = t ∧ m = o) = decide (m = o) from by simp [*]]
    exact WS.gc [0] 1 rfl (by first | rfl | (symm; unfold outH; simp only [List.map]; (repeat' (first | rfl | exact outB_bytes | exact outB_ints | exact outB_flat | refine consE ?_ ?_)); done)) .rfl
  · show WeakS _ _ _ (.c (.bool (decide (s = t ∧ m = o)))) _
    rw [show decide (s = t ∧ m = o) = false from by simp [*]]
    exact WS.gc [0] 1 rfl (by first | rfl | (symm; unfold outH; simp only [List.map]; (repeat' (first | rfl | exact outB_bytes | exact outB_ints | exact outB_flat | refine consE ?_ ?_)); done)) .rfl
theorem containsI (f : Nat) (he : enters Try.prog f = true) (y : Ins) (l : List Ins) (p : Ins → Bool) (hl : l.length ≤ 256) (hp : ∀ x ∈ l, FnE Try.prog f [.agg (inC x), .ptr 0 1 0 0] [⟨1, 4, [inC y]⟩] (.c (.bool (p x))) [⟨1, 4, [inC y]⟩]) : FnE Try.prog 64 [.sl 4 (l.map inC), .fn f [.ptr 0 1 0 0]] [⟨1, 4, [inC y]⟩] (.c (.bool (decide (0 ≤ idxI p l)))) [⟨1, 4, [inC y]⟩] := by
  have hi := indexI f he y l p hl hp
  refine N.fn Try.func64 k64 lb q64 fun Q hQ hQN => ?_
  rw [c64]
  repeat' (first
  | refine N.regS fun K hK => ?_
  | refine N.dregS fun K hK => ?_
  | refine N.regN fun K hK => ?_
  | refine N.dregN fun K hK => ?_
  | simp only [T.mv, sm, AO.ev, put, lk, enter, reduceIte, Nat.reduceEqDiff, Nat.reduceAdd, Nat.reduceMul, Nat.reduceSub, Int.reduceNeg, Int.reduceToNat, upto, renB, setAll]
  | (refine T.nil ?_; (first | refine hK _ _ _ (by rfl) ?_ | refine hK _ _ _ ?_); (try simp only [keep, List.map, lk, reduceIte, Nat.reduceEqDiff, enter]); clear hK K)
  | (show WOpsT _ (⟨_, .call _ _, none⟩ :: _) _ _ _ _; first | refine T.callQ [0] e120 rfl (hi) (by first | rfl | exact pasH_nil | (unfold pasH; simp only [List.map]; (repeat' (first | rfl | exact pasB_bytes | exact pasB_ints | exact pasB_flat | refine consE ?_ ?_)); done) | simp [pasH, pasB, cells_pas, bcells_pas]) rfl rfl rfl (by first | rfl | ((repeat' (first | rfl | exact renB_bytes | exact renB_ints | exact renB_flat | refine consE ?_ ?_)); done) | simp [renB, cells_ren, bcells_ren]) ?_)
  | (show WOpsT _ (⟨_, .bin _ _ _, none⟩ :: _) _ _ _ _; first | refine L.bin ?_)
  | (show AKW _ _ _ _ _ _ _; first | refine N.now ?_)
  | (show AK _ _ _ _ _ _ _; first | refine N.seq ?_ | refine N.ret ?_)
  | (show RK _ _ _ _ _ _ _; simp only [rk, rk0, reduceIte, Nat.reduceEqDiff])
  | refine hQ _ _ _ rfl ?_
  | refine hQN _ _ _ rfl ?_)
  exact WS.gc [0] 1 rfl (by first | rfl | (symm; unfold outH; simp only [List.map]; (repeat' (first | rfl | exact outB_bytes | exact outB_ints | exact outB_flat | refine consE ?_ ?_)); done)) .rfl
theorem containsO (f : Nat) (he : enters Try.prog f = true) (o : Int) (l : List Ins) (p : Ins → Bool) (hl : l.length ≤ 256) (hp : ∀ x ∈ l, FnE Try.prog f [.agg (inC x), .ptr 0 1 0 0] [⟨1, 1, [[I o]]⟩] (.c (.bool (p x))) [⟨1, 1, [[I o]]⟩]) : FnE Try.prog 64 [.sl 4 (l.map inC), .fn f [.ptr 0 1 0 0]] [⟨1, 1, [[I o]]⟩] (.c (.bool (decide (0 ≤ idxI p l)))) [⟨1, 1, [[I o]]⟩] := by
  have hi := indexO f he o l p hl hp
  refine N.fn Try.func64 k64 lb q64 fun Q hQ hQN => ?_
  rw [c64]
  repeat' (first
  | refine N.regS fun K hK => ?_
  | refine N.dregS fun K hK => ?_
  | refine N.regN fun K hK => ?_
  | refine N.dregN fun K hK => ?_
  | simp only [T.mv, sm, AO.ev, put, lk, enter, reduceIte, Nat.reduceEqDiff, Nat.reduceAdd, Nat.reduceMul, Nat.reduceSub, Int.reduceNeg, Int.reduceToNat, upto, renB, setAll]
  | (refine T.nil ?_; (first | refine hK _ _ _ (by rfl) ?_ | refine hK _ _ _ ?_); (try simp only [keep, List.map, lk, reduceIte, Nat.reduceEqDiff, enter]); clear hK K)
  | (show WOpsT _ (⟨_, .call _ _, none⟩ :: _) _ _ _ _; first | refine T.callQ [0] e120 rfl (hi) (by first | rfl | exact pasH_nil | (unfold pasH; simp only [List.map]; (repeat' (first | rfl | exact pasB_bytes | exact pasB_ints | exact pasB_flat | refine consE ?_ ?_)); done) | simp [pasH, pasB, cells_pas, bcells_pas]) rfl rfl rfl (by first | rfl | ((repeat' (first | rfl | exact renB_bytes | exact renB_ints | exact renB_flat | refine consE ?_ ?_)); done) | simp [renB, cells_ren, bcells_ren]) ?_)
  | (show WOpsT _ (⟨_, .bin _ _ _, none⟩ :: _) _ _ _ _; first | refine L.bin ?_)
  | (show AKW _ _ _ _ _ _ _; first | refine N.now ?_)
  | (show AK _ _ _ _ _ _ _; first | refine N.seq ?_ | refine N.ret ?_)
  | (show RK _ _ _ _ _ _ _; simp only [rk, rk0, reduceIte, Nat.reduceEqDiff])
  | refine hQ _ _ _ rfl ?_
  | refine hQN _ _ _ rfl ?_)
  exact WS.gc [0] 1 rfl (by first | rfl | (symm; unfold outH; simp only [List.map]; (repeat' (first | rfl | exact outB_bytes | exact outB_ints | exact outB_flat | refine consE ?_ ?_)); done)) .rfl
end Go.Proofs.Ytjmmompbmjhkpaa.Calc

namespace Go.Proofs.Ytjmmompbmjhkpaa.Calc
open Go Code
set_option linter.unusedSimpArgs false
set_option linter.unusedVariables false
set_option maxRecDepth 20000
set_option maxHeartbeats 4000000
attribute [local irreducible] WOpsT AW AK RK AKW UK UC
structure Cpu where
  name : ByteArray
  ins : List Ins
  res : List Cyc
  irq : List Cyc
  nmi : List Cyc
def cpC (c : Cpu) : List V := [.c (.string c.name), .sl 4 (c.ins.map inC), .sl 4 (c.res.map cyC), .sl 4 (c.irq.map cyC), .sl 4 (c.nmi.map cyC)]
def SmlC (l : List Cyc) : Prop := l.length ≤ 8 ∧ ∀ c ∈ l, c.steps.length ≤ 6
def SmlP (c : Cpu) : Prop := c.ins.length ≤ 256 ∧ (∀ x ∈ c.ins, SmlC x.cy) ∧ SmlC c.res ∧ SmlC c.irq ∧ SmlC c.nmi
instance : Flat stC := ⟨fun a x hx => by simp [stC] at hx; rcases hx with rfl | rfl | rfl | rfl <;> exact .inl ⟨_, rfl⟩⟩
instance : Flat cyC := ⟨fun a x hx => by simp [cyC] at hx; rcases hx with rfl | rfl | rfl | rfl <;> first | exact .inl ⟨_, rfl⟩ | exact .inr ⟨_, _, rfl⟩⟩
instance : Flat inC := ⟨fun a x hx => by simp [inC] at hx; rcases hx with rfl | rfl | rfl | rfl <;> first | exact .inl ⟨_, rfl⟩ | exact .inr ⟨_, _, rfl⟩⟩
theorem out_rowsK {α : Type} {f : α → List V} [Flat f] {h : List Blk} {ids : List Nat} {n b v e len : Nat} {l : List α} (hp : pos ids b = none) (hb : h[b]? = some ⟨v, e, l.map f⟩) (hl : l.length ≤ len) : out h ids (n + 1) (.psl b v 0 len) = .sl e (l.map f) := by
  rw [out_pslK hp hb rfl, List.drop_zero, List.take_of_length_le (by simpa using hl), rows_frz]
theorem WS.rows {α : Type} {f : α → List V} [Flat f] {h : List Blk} {b v e len : Nat} {l : List α} (hb : h[b]? = some ⟨v, e, l.map f⟩) (hl : l.length ≤ len) : WeakS 0 (.psl b v 0 len) h (.sl e (l.map f)) [] :=
  WS.gc [] 1 rfl rfl (by rw [out_rowsK rfl hb hl]; exact .rfl)
theorem WS.nil {h : List Blk} {e : Nat} : WeakS 0 (.c (.slice none 0 0)) h (.sl e []) [] := WS.gc [] 1 rfl rfl .nil
theorem cloneS_ok (l : List Stp) (hl : l.length ≤ 6) : FnE Try.prog 191 [.sl 4 (l.map stC)] [] (.sl 4 (l.map stC)) [] := by
  refine N.fn Try.func191 k191 lb q191 fun Q hQ hQN => ?_
  rw [c191]
  cases l with
  | nil =>
    repeat' (first
    | refine T.eqnU rfl ?_
    | (show WOpsT _ (⟨_, .app _ _ _ _, none⟩ :: _) _ _ _ _; refine T.app rfl rfl rfl ⟨by decide, by decide⟩ ⟨rfl, rfl, rfl, by decide⟩ ?_)
    | refine N.regS fun K hK => ?_
    | refine N.dregS fun K hK => ?_
    | refine N.regN fun K hK => ?_
    | refine N.dregN fun K hK => ?_
    | simp only [T.mv, sm, AO.ev, put, lk, enter, reduceIte, Nat.reduceEqDiff, Nat.reduceAdd, Nat.reduceMul, Nat.reduceSub, Int.reduceNeg, Int.reduceToNat, upto, renB, setAll]
    | (refine T.nil ?_; (first | refine hK _ _ _ (by rfl) ?_ | refine hK _ _ _ ?_); (try simp only [keep, List.map, lk, reduceIte, Nat.reduceEqDiff, enter]); clear hK K)
    | (show AKW _ _ _ _ _ _ _; first | refine N.now ?_)
    | (show AK _ _ (.cond _ _ _) _ _ _ _; first | refine N.c1 ?_ | refine N.c2 ?_ | refine N.c3 ?_ | refine N.c4 ?_ | refine N.condD rfl (fun hcd => ?_) (fun hcd => ?_) | refine N.condB rfl (fun hcd => ?_) (fun hcd => ?_) | refine N.condU rfl ?_ ?_)
    | (show AK _ _ _ _ _ _ _; first | refine N.seq ?_ | refine N.skip ?_ | refine N.ret ?_)
    | (show RK _ _ _ _ _ _ _; simp only [rk, rk0, reduceIte, Nat.reduceEqDiff])
    | (show WOpsT _ _ _ _ _ _; first | refine T.eqnP rfl rfl ⟨rfl, by decide⟩ ?_ | refine T.eqnN rfl ?_ | refine T.eqnU rfl ?_ | refine L.bsl ?_)
    | refine hQ _ _ _ rfl ?_
    | refine hQN _ _ _ rfl ?_)
    all_goals first
      | exact WS.nil
      | exact WS.rows (f := stC) (l := []) rfl (by simp)
  | cons a l =>
    have hl2 : (List.map stC (a :: l)).length ≤ 6 := by rw [List.length_map]; exact hl
    repeat' (first
    | refine T.eqnS rfl (Nat.succ_pos _) ?_
    | (show WOpsT _ (⟨_, .app _ _ _ _, none⟩ :: _) _ _ _ _; refine T.app rfl rfl rfl ⟨by decide, by decide⟩ ⟨rfl, rfl, rfl, by simp at hl ⊢; omega⟩ ?_)
    | refine N.regS fun K hK => ?_
    | refine N.dregS fun K hK => ?_
    | refine N.regN fun K hK => ?_
    | refine N.dregN fun K hK => ?_
    | simp only [T.mv, sm, AO.ev, put, lk, enter, reduceIte, Nat.reduceEqDiff, Nat.reduceAdd, Nat.reduceMul, Nat.reduceSub, Int.reduceNeg, Int.reduceToNat, upto, renB, setAll]
    | (refine T.nil ?_; (first | refine hK _ _ _ (by rfl) ?_ | refine hK _ _ _ ?_); (try simp only [keep, List.map, lk, reduceIte, Nat.reduceEqDiff, enter]); clear hK K)
    | (show AKW _ _ _ _ _ _ _; first | refine N.now ?_)
    | (show AK _ _ (.cond _ _ _) _ _ _ _; first | refine N.c1 ?_ | refine N.c2 ?_ | refine N.c3 ?_ | refine N.c4 ?_ | refine N.condD rfl (fun hcd => ?_) (fun hcd => ?_) | refine N.condB rfl (fun hcd => ?_) (fun hcd => ?_) | refine N.condU rfl ?_ ?_)
    | (show AK _ _ _ _ _ _ _; first | refine N.seq ?_ | refine N.skip ?_ | refine N.ret ?_)
    | (show RK _ _ _ _ _ _ _; simp only [rk, rk0, reduceIte, Nat.reduceEqDiff])
    | (show WOpsT _ _ _ _ _ _; first | refine T.eqnP rfl rfl ⟨rfl, by decide⟩ ?_ | refine T.eqnN rfl ?_ | refine T.eqnU rfl ?_ | refine L.bsl ?_)
    | refine hQ _ _ _ rfl ?_
    | refine hQN _ _ _ rfl ?_)
    exact WS.rows (f := stC) (l := a :: l) rfl (by simp)
theorem cloneC_ok (a : Cyc) (l : List Cyc) (hl : (a :: l).length ≤ 8) : FnE Try.prog 190 [.sl 4 ((a :: l).map cyC)] [] (.psl 0 2 0 (a :: l).length) [⟨2, 4, (a :: l).map cyC⟩] := by
  refine N.fn Try.func190 k190 lb q190 fun Q hQ hQN => ?_
  rw [c190]
  have hl2 : (List.map cyC (a :: l)).length ≤ 8 := by rw [List.length_map]; exact hl
  repeat' (first
  | refine T.eqnS rfl (Nat.succ_pos _) ?_
  | (show WOpsT _ (⟨_, .app _ _ _ _, none⟩ :: _) _ _ _ _; refine T.app rfl rfl rfl ⟨by decide, by decide⟩ ⟨rfl, rfl, rfl, by simp at hl ⊢; omega⟩ ?_)
  | refine N.regS fun K hK => ?_
  | refine N.dregS fun K hK => ?_
  | refine N.regN fun K hK => ?_
  | refine N.dregN fun K hK => ?_
  | simp only [T.mv, sm, AO.ev, put, lk, enter, reduceIte, Nat.reduceEqDiff, Nat.reduceAdd, Nat.reduceMul, Nat.reduceSub, Int.reduceNeg, Int.reduceToNat, upto, renB, setAll]
  | (refine T.nil ?_; (first | refine hK _ _ _ (by rfl) ?_ | refine hK _ _ _ ?_); (try simp only [keep, List.map, lk, reduceIte, Nat.reduceEqDiff, enter]); clear hK K)
  | (show AKW _ _ _ _ _ _ _; first | refine N.now ?_)
  | (show AK _ _ (.cond _ _ _) _ _ _ _; first | refine N.c1 ?_ | refine N.c2 ?_ | refine N.c3 ?_ | refine N.c4 ?_ | refine N.condD rfl (fun hcd => ?_) (fun hcd => ?_) | refine N.condB rfl (fun hcd => ?_) (fun hcd => ?_) | refine N.condU rfl ?_ ?_)
  | (show AK _ _ _ _ _ _ _; first | refine N.seq ?_ | refine N.skip ?_ | refine N.ret ?_)
  | (show RK _ _ _ _ _ _ _; simp only [rk, rk0, reduceIte, Nat.reduceEqDiff])
  | (show WOpsT _ _ _ _ _ _; first | refine T.eqnP rfl rfl ⟨rfl, by decide⟩ ?_ | refine T.eqnN rfl ?_ | refine T.eqnU rfl ?_ | refine L.bsl ?_)
  | refine hQ _ _ _ rfl ?_
  | refine hQN _ _ _ rfl ?_)
  exact WS.gc [0] 1 rfl (by show [(⟨2, 4, (a :: l).map cyC⟩ : Blk)] = [outB _ [0] 1 ⟨2, 4, (a :: l).map cyC⟩]; rw [outB_flat]) (by show Sub (.psl 0 2 0 ((List.map cyC l).length + 1)) _; rw [List.length_map]; exact .rfl)
theorem cloneC_nil : FnE Try.prog 190 [.sl 4 []] [] (.sl 4 []) [] := by
  refine N.fn Try.func190 k190 lb q190 fun Q hQ hQN => ?_
  rw [c190]
  repeat' (first
  | refine T.eqnU rfl ?_
  | (show WOpsT _ (⟨_, .app _ _ _ _, none⟩ :: _) _ _ _ _; refine T.app rfl rfl rfl ⟨by decide, by decide⟩ ⟨rfl, rfl, rfl, by decide⟩ ?_)
  | refine N.regS fun K hK => ?_
  | refine N.dregS fun K hK => ?_
  | refine N.regN fun K hK => ?_
  | refine N.dregN fun K hK => ?_
  | simp only [T.mv, sm, AO.ev, put, lk, enter, reduceIte, Nat.reduceEqDiff, Nat.reduceAdd, Nat.reduceMul, Nat.reduceSub, Int.reduceNeg, Int.reduceToNat, upto, renB, setAll]
  | (refine T.nil ?_; (first | refine hK _ _ _ (by rfl) ?_ | refine hK _ _ _ ?_); (try simp only [keep, List.map, lk, reduceIte, Nat.reduceEqDiff, enter]); clear hK K)
  | (show AKW _ _ _ _ _ _ _; first | refine N.now ?_)
  | (show AK _ _ (.cond _ _ _) _ _ _ _; first | refine N.c1 ?_ | refine N.c2 ?_ | refine N.c3 ?_ | refine N.c4 ?_ | refine N.condD rfl (fun hcd => ?_) (fun hcd => ?_) | refine N.condB rfl (fun hcd => ?_) (fun hcd => ?_) | refine N.condU rfl ?_ ?_)
  | (show AK _ _ _ _ _ _ _; first | refine N.seq ?_ | refine N.skip ?_ | refine N.ret ?_)
  | (show RK _ _ _ _ _ _ _; simp only [rk, rk0, reduceIte, Nat.reduceEqDiff])
  | (show WOpsT _ _ _ _ _ _; first | refine T.eqnP rfl rfl ⟨rfl, by decide⟩ ?_ | refine T.eqnN rfl ?_ | refine T.eqnU rfl ?_ | refine L.bsl ?_)
  | refine hQ _ _ _ rfl ?_
  | refine hQN _ _ _ rfl ?_)
  all_goals first
    | exact WS.nil
    | exact WS.rows (f := cyC) (l := []) rfl (by simp)
end Go.Proofs.Ytjmmompbmjhkpaa.Calc

namespace Go.Proofs.Ytjmmompbmjhkpaa.Calc
open Go Code
set_option linter.unusedSimpArgs false
set_option linter.unusedVariables false
set_option maxRecDepth 20000
set_option maxHeartbeats 4000000
attribute [local irreducible] WOpsT AW AK RK AKW UK UC
theorem set_cyc (l : List Cyc) (i : Nat) (hi : i < l.length) : (l.map cyC).set i (spl (cyC l[i]) 3 [.sl 4 (l[i].steps.map stC)]) = l.map cyC := by
  apply List.ext_getElem?
  intro j
  rw [List.getElem?_set, List.length_map]
  by_cases h : i = j
  · subst h
    rw [if_pos rfl, if_pos hi, List.getElem?_map, List.getElem?_eq_getElem hi]; rfl
  · rw [if_neg h]
theorem copies_ok (l : List Cyc) (hl : SmlC l) : FnE Try.prog 168 [.sl 4 (l.map cyC)] [] (.sl 4 (l.map cyC)) [] := by
  obtain ⟨h1, h2⟩ := hl
  refine N.fn Try.func168 k168 lb q168 fun Q hQ hQN => ?_
  rw [c168]
  cases l with
  | nil =>
    repeat' (first
    | (show AK _ _ (.loop _) _ _ _ _; refine N.unroll 1 ?_)
    | refine N.regS fun K hK => ?_
    | refine N.dregS fun K hK => ?_
    | refine N.regN fun K hK => ?_
    | refine N.dregN fun K hK => ?_
    | simp only [T.mv, sm, AO.ev, put, lk, enter, reduceIte, Nat.reduceEqDiff, Nat.reduceAdd, Nat.reduceMul, Nat.reduceSub, Int.reduceNeg, Int.reduceToNat, upto, renB, setAll]
    | (refine T.nil ?_; (first | refine hK _ _ _ (by rfl) ?_ | refine hK _ _ _ ?_); (try simp only [keep, List.map, lk, reduceIte, Nat.reduceEqDiff, enter]); clear hK K)
    | (show WOpsT _ (⟨_, .call _ _, none⟩ :: _) _ _ _ _; first | refine T.call0 e190 rfl (cloneC_nil) ?_)
    | (show WOpsT _ (⟨_, .ld _ _, none⟩ :: _) _ _ _ _; first | refine L.ld ?_ | refine L.ldd ?_)
    | (show WOpsT _ (⟨_, .idx _ _ _ _, none⟩ :: _) _ _ _ _; first | refine L.idx ?_ | refine L.idxs ?_)
    | (show WOpsT _ (⟨_, .bin _ _ _, none⟩ :: _) _ _ _ _; first | refine L.add ?_ | refine L.bin ?_)
    | (show AKW _ _ _ _ _ _ _; first | refine N.now ?_)
    | (show UK _ _ _ _ _ _ _ _; first | refine N.round ?_)
    | (show UC _ _ _ _ _ _ _ _; first | refine N.ucN ?_)
    | (show AK _ _ (.cond _ _ _) _ _ _ _; first | refine N.c1 ?_ | refine N.c2 ?_ | refine N.c3 ?_ | refine N.c4 ?_ | refine N.condD rfl (fun hcd => ?_) (fun hcd => ?_) | refine N.condB rfl (fun hcd => ?_) (fun hcd => ?_) | refine N.condU rfl ?_ ?_)
    | (show AK _ _ _ _ _ _ _; first | refine N.seq ?_ | refine N.block ?_ | refine N.skip ?_ | refine N.exit ?_ | refine N.ret ?_)
    | (show RK _ _ _ _ _ _ _; simp only [rk, rk0, reduceIte, Nat.reduceEqDiff])
    | (show WOpsT _ _ _ _ _ _; first | refine L.fad ?_ | refine L.fadd ?_ | refine L.st ?_ | refine L.len ?_ | refine L.lenS ?_ | refine L.lenN ?_)
    | refine hQ _ _ _ rfl ?_
    | refine hQN _ _ _ rfl ?_)
    exact WS.drop (n := 0) rfl rfl
  | cons a l =>
    obtain ⟨m, hm⟩ : ∃ m, a :: l = m := ⟨_, rfl⟩
    have hc := cloneC_ok a l h1
    rw [hm] at hc h1 h2 hQ hQN ⊢
    clear hm
    repeat' (first
    | rw [rows_ren]
    | refine N.regS fun K hK => ?_
    | refine N.dregS fun K hK => ?_
    | refine N.regN fun K hK => ?_
    | refine N.dregN fun K hK => ?_
    | simp only [T.mv, sm, AO.ev, put, lk, enter, reduceIte, Nat.reduceEqDiff, Nat.reduceAdd, Nat.reduceMul, Nat.reduceSub, Int.reduceNeg, Int.reduceToNat, upto, renB, setAll]
    | (refine T.nil ?_; (first | refine hK _ _ _ (by rfl) ?_ | refine hK _ _ _ ?_); (try simp only [keep, List.map, lk, reduceIte, Nat.reduceEqDiff, enter]); clear hK K)
    | (show WOpsT _ (⟨_, .call _ _, none⟩ :: _) _ _ _ _; first | refine T.callN e190 rfl (hc) (by simp) ?_)
    | (show WOpsT _ (⟨_, .ld _ _, none⟩ :: _) _ _ _ _; first | refine L.ld ?_ | refine L.ldd ?_)
    | (show WOpsT _ (⟨_, .idx _ _ _ _, none⟩ :: _) _ _ _ _; first | refine L.idx ?_ | refine L.idxs ?_)
    | (show WOpsT _ (⟨_, .bin _ _ _, none⟩ :: _) _ _ _ _; first | refine L.add ?_ | refine L.bin ?_)
    | (show AKW _ _ _ _ _ _ _; first | refine N.now ?_)
    | (show UK _ _ _ _ _ _ _ _; first | refine N.round ?_)
    | (show UC _ _ _ _ _ _ _ _; first | refine N.ucN ?_)
    | (show AK _ _ (.cond _ _ _) _ _ _ _; first | refine N.c1 ?_ | refine N.c2 ?_ | refine N.c3 ?_ | refine N.c4 ?_ | refine N.condD rfl (fun hcd => ?_) (fun hcd => ?_) | refine N.condB rfl (fun hcd => ?_) (fun hcd => ?_) | refine N.condU rfl ?_ ?_)
    | (show AK _ _ _ _ _ _ _; first | refine N.seq ?_ | refine N.block ?_ | refine N.skip ?_ | refine N.exit ?_ | refine N.ret ?_)
    | (show RK _ _ _ _ _ _ _; simp only [rk, rk0, reduceIte, Nat.reduceEqDiff])
    | (show WOpsT _ _ _ _ _ _; first | refine L.fad ?_ | refine L.fadd ?_ | refine L.st ?_ | refine L.len ?_ | refine L.lenS ?_ | refine L.lenN ?_)
    | refine hQ _ _ _ rfl ?_
    | refine hQN _ _ _ rfl ?_)
    refine N.loop (σ := Nat) (fun i => [(3, .psl 0 2 0 m.length), (8, I m.length), (9, I i)]) (fun i => [⟨2, 4, m.map cyC⟩]) (fun i => i ≤ m.length) (fun i => m.length - i) 0 (by omega) (Weaks.sel (by repeat (first | exact trivial | refine ⟨.rfl, ?_⟩ | refine ⟨.any, ?_⟩)) rfl) fun i hi R hC => ?_
    by_cases hil : i < m.length
    · have hs := cloneS_ok m[i].steps (h2 _ (List.getElem_mem hil))
      have e3 : 0 + (i : Int).toNat = i := by omega
      have hg : (m.map cyC)[i]? = some (cyC m[i]) := by rw [List.getElem?_map, List.getElem?_eq_getElem hil]; rfl
      repeat' (first
      | rw [e3]
      | (show WOpsT _ (⟨_, .ld _ _, none⟩ :: _) _ _ _ _; refine T.ld rfl rfl rfl hg rfl ?_)
      | (show WOpsT _ (⟨_, .st _ _ _, none⟩ :: _) _ _ _ _; refine T.st rfl rfl rfl ⟨rfl, rfl⟩ hg (Nat.le_of_ble_eq_true rfl) ?_)
      | rw [set_cyc m i hil]
      | refine N.regS fun K hK => ?_
      | refine N.dregS fun K hK => ?_
      | refine N.regN fun K hK => ?_
      | refine N.dregN fun K hK => ?_
      | simp only [T.mv, sm, AO.ev, put, lk, enter, reduceIte, Nat.reduceEqDiff, Nat.reduceAdd, Nat.reduceMul, Nat.reduceSub, Int.reduceNeg, Int.reduceToNat, upto, renB, setAll]
      | (refine T.nil ?_; (first | refine hK _ _ _ (by rfl) ?_ | refine hK _ _ _ ?_); (try simp only [keep, List.map, lk, reduceIte, Nat.reduceEqDiff, enter]); clear hK K)
      | (show WOpsT _ (⟨_, .call _ _, none⟩ :: _) _ _ _ _; first | refine T.call0 e191 rfl (hs) ?_)
      | (show WOpsT _ (⟨_, .ld _ _, none⟩ :: _) _ _ _ _; first | refine L.ld ?_ | refine L.ldd ?_)
      | (show WOpsT _ (⟨_, .idx _ _ _ _, none⟩ :: _) _ _ _ _; first | refine L.idx ?_ | refine L.idxs ?_)
      | (show WOpsT _ (⟨_, .bin _ _ _, none⟩ :: _) _ _ _ _; first | refine L.add ?_ | refine L.bin ?_)
      | (show AKW _ _ _ _ _ _ _; first | refine N.now ?_)
      | (show UK _ _ _ _ _ _ _ _; first | refine N.round ?_)
      | (show UC _ _ _ _ _ _ _ _; first | refine N.ucN ?_)
      | (show AK _ _ (.cond _ _ _) _ _ _ _; first | refine N.c1 ?_ | refine N.c2 ?_ | refine N.c3 ?_ | refine N.c4 ?_ | refine N.condD rfl (fun hcd => ?_) (fun hcd => ?_) | refine N.condB rfl (fun hcd => ?_) (fun hcd => ?_) | refine N.condU rfl ?_ ?_)
      | (show AK _ _ _ _ _ _ _; first | refine N.seq ?_ | refine N.block ?_ | refine N.skip ?_ | refine N.exit ?_ | refine N.ret ?_)
      | (show RK _ _ _ _ _ _ _; simp only [rk, rk0, reduceIte, Nat.reduceEqDiff])
      | (show WOpsT _ _ _ _ _ _; first | refine L.fad ?_ | refine L.fadd ?_ | refine L.st ?_ | refine L.len ?_ | refine L.lenS ?_ | refine L.lenN ?_)
      | refine hQ _ _ _ rfl ?_
      | refine hQN _ _ _ rfl ?_)
      exact hC _ _ (i + 1) (by omega) (by omega) (Weaks.sel (by repeat (first | exact trivial | refine ⟨.rfl, ?_⟩ | refine ⟨.any, ?_⟩)) rfl)
    · obtain rfl : i = m.length := by omega
      repeat' (first
      | refine N.regS fun K hK => ?_
      | refine N.dregS fun K hK => ?_
      | refine N.regN fun K hK => ?_
      | refine N.dregN fun K hK => ?_
      | simp only [T.mv, sm, AO.ev, put, lk, enter, reduceIte, Nat.reduceEqDiff, Nat.reduceAdd, Nat.reduceMul, Nat.reduceSub, Int.reduceNeg, Int.reduceToNat, upto, renB, setAll]
      | (refine T.nil ?_; (first | refine hK _ _ _ (by rfl) ?_ | refine hK _ _ _ ?_); (try simp only [keep, List.map, lk, reduceIte, Nat.reduceEqDiff, enter]); clear hK K)
      | (show WOpsT _ (⟨_, .ld _ _, none⟩ :: _) _ _ _ _; first | refine L.ld ?_ | refine L.ldd ?_)
      | (show WOpsT _ (⟨_, .idx _ _ _ _, none⟩ :: _) _ _ _ _; first | refine L.idx ?_ | refine L.idxs ?_)
      | (show WOpsT _ (⟨_, .bin _ _ _, none⟩ :: _) _ _ _ _; first | refine L.add ?_ | refine L.bin ?_)
      | (show AKW _ _ _ _ _ _ _; first | refine N.now ?_)
      | (show UK _ _ _ _ _ _ _ _; first | refine N.round ?_)
      | (show UC _ _ _ _ _ _ _ _; first | refine N.ucN ?_)
      | (show AK _ _ (.cond _ _ _) _ _ _ _; first | refine N.c1 ?_ | refine N.c2 ?_ | refine N.c3 ?_ | refine N.c4 ?_ | refine N.condD rfl (fun hcd => ?_) (fun hcd => ?_) | refine N.condB rfl (fun hcd => ?_) (fun hcd => ?_) | refine N.condU rfl ?_ ?_)
      | (show AK _ _ _ _ _ _ _; first | refine N.seq ?_ | refine N.block ?_ | refine N.skip ?_ | refine N.exit ?_ | refine N.ret ?_)
      | (show RK _ _ _ _ _ _ _; simp only [rk, rk0, reduceIte, Nat.reduceEqDiff])
      | (show WOpsT _ _ _ _ _ _; first | refine L.fad ?_ | refine L.fadd ?_ | refine L.st ?_ | refine L.len ?_ | refine L.lenS ?_ | refine L.lenN ?_)
      | refine hQ _ _ _ rfl ?_
      | refine hQN _ _ _ rfl ?_)
      exact WS.rows (f := cyC) rfl (Nat.le_refl _)
theorem copy_ok (x : Ins) (hx : SmlC x.cy) : FnE Try.prog 122 [.agg (inC x)] [] (.agg (inC x)) [] := by
  have hc := copies_ok _ hx
  refine N.fn Try.func122 k122 lb q122 fun Q hQ hQN => ?_
  rw [c122]
  repeat' (first
  | refine N.regS fun K hK => ?_
  | refine N.dregS fun K hK => ?_
  | refine N.regN fun K hK => ?_
  | refine N.dregN fun K hK => ?_
  | simp only [T.mv, sm, AO.ev, put, lk, enter, reduceIte, Nat.reduceEqDiff, Nat.reduceAdd, Nat.reduceMul, Nat.reduceSub, Int.reduceNeg, Int.reduceToNat, upto, renB, setAll]
  | (refine T.nil ?_; (first | refine hK _ _ _ (by rfl) ?_ | refine hK _ _ _ ?_); (try simp only [keep, List.map, lk, reduceIte, Nat.reduceEqDiff, enter]); clear hK K)
  | (show WOpsT _ (⟨_, .call _ _, none⟩ :: _) _ _ _ _; first | refine T.call0 e168 rfl (hc) ?_)
  | (show WOpsT _ (⟨_, .ld _ _, none⟩ :: _) _ _ _ _; first | refine L.ld ?_ | refine L.ldd ?_ | refine L.ldn ?_ | refine L.lddn ?_)
  | (show AKW _ _ _ _ _ _ _; first | refine N.now ?_)
  | (show UK _ _ _ _ _ _ _ _; first | refine N.round ?_)
  | (show UC _ _ _ _ _ _ _ _; first | refine N.ucN ?_)
  | (show AK _ _ _ _ _ _ _; first | refine N.seq ?_ | refine N.ret ?_)
  | (show RK _ _ _ _ _ _ _; simp only [rk, rk0, reduceIte, Nat.reduceEqDiff])
  | (show WOpsT _ _ _ _ _ _; first | refine L.fad ?_ | refine L.fadd ?_ | refine L.st ?_ | refine L.new ?_ | refine L.zero ?_)
  | refine hQ _ _ _ rfl ?_
  | refine hQN _ _ _ rfl ?_)
  exact WS.drop (n := 0) rfl rfl
def insZ : Ins := ⟨0, ⟨#[]⟩, 0, []⟩
def gotM (p : Ins → Bool) (l : List Ins) : Ins × Bool := match l.findIdx? p with
  | some i => (l.getD i insZ, true)
  | none => (insZ, false)
theorem Sub.insZ : Sub (.agg [I 0, .c (.string ⟨#[]⟩), I 0, .c (.slice none 0 0)]) (.agg (inC insZ)) := by
  refine .agg (Eq.refl _) fun i a b ha hb => ?_
  match i with
  | 0 => cases ha; cases hb; exact .rfl
  | 1 => cases ha; cases hb; exact .rfl
  | 2 => cases ha; cases hb; exact .rfl
  | 3 => cases ha; cases hb; exact .nil
  | i + 4 => cases ha
theorem find_ok (c : Cpu) (hc : SmlP c) (o : Int) : FnE Try.prog 62 [.agg (cpC c), I o] [] (.tup [.agg (inC (gotM (fun x => decide (x.op = o)) c.ins).1), .c (.bool (gotM (fun x => decide (x.op = o)) c.ins).2)]) [] := by
  have hi := indexO 121 e121 o c.ins (fun x => decide (x.op = o)) hc.1 (fun x _ => find1_ok x o)
  have hs := hc.2.1
  refine N.fn Try.func62 k62 lb q62 fun Q hQ hQN => ?_
  rw [c62]
  cases hf : c.ins.findIdx? (fun x => decide (x.op = o)) with
  | none =>
    have e1 : idxI (fun x => decide (x.op = o)) c.ins = -1 := by unfold idxI; rw [hf]
    have e2 : gotM (fun x => decide (x.op = o)) c.ins = (insZ, false) := by unfold gotM; rw [hf]
    rw [e1] at hi
    rw [e2] at hQ hQN
    repeat' (first
    | refine N.regS fun K hK => ?_
    | refine N.dregS fun K hK => ?_
    | refine N.regN fun K hK => ?_
    | refine N.dregN fun K hK => ?_
    | simp only [T.mv, sm, AO.ev, put, lk, enter, reduceIte, Nat.reduceEqDiff, Nat.reduceAdd, Nat.reduceMul, Nat.reduceSub, Int.reduceNeg, Int.reduceToNat, upto, renB, setAll]
    | (refine T.nil ?_; (first | refine hK _ _ _ (by rfl) ?_ | refine hK _ _ _ ?_); (try simp only [keep, List.map, lk, reduceIte, Nat.reduceEqDiff, enter]); clear hK K)
    | (show WOpsT _ (⟨_, .call _ _, none⟩ :: _) _ _ _ _; first | refine T.callQ [1] e120 rfl (hi) (by first | rfl | exact pasH_nil | (unfold pasH; simp only [List.map]; (repeat' (first | rfl | exact pasB_bytes | exact pasB_ints | exact pasB_flat | refine consE ?_ ?_)); done) | simp [pasH, pasB, cells_pas, bcells_pas]) rfl rfl rfl (by first | rfl | ((repeat' (first | rfl | exact renB_bytes | exact renB_ints | exact renB_flat | refine consE ?_ ?_)); done) | simp [renB, cells_ren, bcells_ren]) ?_)
    | (show WOpsT _ (⟨_, .ld _ _, none⟩ :: _) _ _ _ _; first | refine L.ld ?_ | refine L.ldd ?_ | refine L.ldn ?_ | refine L.lddn ?_)
    | (show WOpsT _ (⟨_, .idx _ _ _ _, none⟩ :: _) _ _ _ _; first | refine L.idx ?_ | refine L.idxs ?_)
    | (show WOpsT _ (⟨_, .bin _ _ _, none⟩ :: _) _ _ _ _; first | refine L.bin ?_)
    | (show AKW _ _ _ _ _ _ _; first | refine N.now ?_)
    | (show UK _ _ _ _ _ _ _ _; first | refine N.round ?_)
    | (show UC _ _ _ _ _ _ _ _; first | refine N.ucN ?_)
    | (show AK _ _ (.cond _ _ _) _ _ _ _; first | refine N.c1 ?_ | refine N.c2 ?_ | refine N.c3 ?_ | refine N.c4 ?_ | refine N.condD rfl (fun hcd => ?_) (fun hcd => ?_) | refine N.condB rfl (fun hcd => ?_) (fun hcd => ?_) | refine N.condU rfl ?_ ?_)
    | (show AK _ _ _ _ _ _ _; first | refine N.seq ?_ | refine N.skip ?_ | refine N.ret ?_)
    | (show RK _ _ _ _ _ _ _; simp only [rk, rk0, reduceIte, Nat.reduceEqDiff])
    | (show WOpsT _ _ _ _ _ _; first | refine L.fad ?_ | refine L.fadd ?_ | refine L.st ?_ | refine L.new ?_ | refine L.zero ?_ | refine L.build ?_ | refine T.mkf ?_)
    | refine hQ _ _ _ rfl ?_
    | refine hQN _ _ _ rfl ?_)
    exact WS.gc [] 1 rfl rfl (Sub.tup2 Sub.insZ .rfl)
  | some i =>
    have e1 : idxI (fun x => decide (x.op = o)) c.ins = i := by unfold idxI; rw [hf]
    have hil : i < c.ins.length := (List.findIdx?_eq_some_iff_getElem.1 hf).1
    have e2 : gotM (fun x => decide (x.op = o)) c.ins = (c.ins[i], true) := by unfold gotM; rw [hf]; simp [hil]
    have hy := copy_ok c.ins[i] (hs _ (List.getElem_mem hil))
    rw [e1] at hi
    rw [e2] at hQ hQN
    repeat' (first
    | (show WOpsT _ (⟨_, .idx _ _ _ _, none⟩ :: _) _ _ _ _; refine T.idxs rfl rfl rfl (by omega) (mget inC c.ins i hil) ?_)
    | refine N.regS fun K hK => ?_
    | refine N.dregS fun K hK => ?_
    | refine N.regN fun K hK => ?_
    | refine N.dregN fun K hK => ?_
    | simp only [T.mv, sm, AO.ev, put, lk, enter, reduceIte, Nat.reduceEqDiff, Nat.reduceAdd, Nat.reduceMul, Nat.reduceSub, Int.reduceNeg, Int.reduceToNat, upto, renB, setAll]
    | (refine T.nil ?_; (first | refine hK _ _ _ (by rfl) ?_ | refine hK _ _ _ ?_); (try simp only [keep, List.map, lk, reduceIte, Nat.reduceEqDiff, enter]); clear hK K)
    | (show WOpsT _ (⟨_, .call _ _, none⟩ :: _) _ _ _ _; first | refine T.callQ [1] e120 rfl (hi) (by first | rfl | exact pasH_nil | (unfold pasH; simp only [List.map]; (repeat' (first | rfl | exact pasB_bytes | exact pasB_ints | exact pasB_flat | refine consE ?_ ?_)); done) | simp [pasH, pasB, cells_pas, bcells_pas]) rfl rfl rfl (by first | rfl | ((repeat' (first | rfl | exact renB_bytes | exact renB_ints | exact renB_flat | refine consE ?_ ?_)); done) | simp [renB, cells_ren, bcells_ren]) ?_ | refine T.call0 e122 rfl (hy) ?_)
    | (show WOpsT _ (⟨_, .ld _ _, none⟩ :: _) _ _ _ _; first | refine L.ld ?_ | refine L.ldd ?_ | refine L.ldn ?_ | refine L.lddn ?_)
    | (show WOpsT _ (⟨_, .idx _ _ _ _, none⟩ :: _) _ _ _ _; first | refine L.idx ?_ | refine L.idxs ?_)
    | (show WOpsT _ (⟨_, .bin _ _ _, none⟩ :: _) _ _ _ _; first | refine L.bin ?_)
    | (show AKW _ _ _ _ _ _ _; first | refine N.now ?_)
    | (show UK _ _ _ _ _ _ _ _; first | refine N.round ?_)
    | (show UC _ _ _ _ _ _ _ _; first | refine N.ucN ?_)
    | (show AK _ _ (.cond _ _ _) _ _ _ _; first | refine N.c1 ?_ | refine N.c2 ?_ | refine N.c3 ?_ | refine N.c4 ?_ | refine N.condD rfl (fun hcd => ?_) (fun hcd => ?_) | refine N.condB rfl (fun hcd => ?_) (fun hcd => ?_) | refine N.condU rfl ?_ ?_)
    | (show AK _ _ _ _ _ _ _; first | refine N.seq ?_ | refine N.skip ?_ | refine N.ret ?_)
    | (show RK _ _ _ _ _ _ _; simp only [rk, rk0, reduceIte, Nat.reduceEqDiff])
    | (show WOpsT _ _ _ _ _ _; first | refine L.fad ?_ | refine L.fadd ?_ | refine L.st ?_ | refine L.new ?_ | refine L.zero ?_ | refine L.build ?_ | refine T.mkf ?_)
    | refine hQ _ _ _ rfl ?_
    | refine hQN _ _ _ rfl ?_)
    exact WS.drop (n := 0) rfl rfl
theorem named_ok (c : Cpu) (hc : SmlP c) (s : ByteArray) (o : Int) : FnE Try.prog 63 [.agg (cpC c), .c (.string s), I o] [] (.tup [.agg (inC (gotM (fun x => decide (x.name = s ∧ x.mode = o)) c.ins).1), .c (.bool (gotM (fun x => decide (x.name = s ∧ x.mode = o)) c.ins).2)]) [] := by
  have hi := indexN 123 e123 s o c.ins (fun x => decide (x.name = s ∧ x.mode = o)) hc.1 (fun x _ => named1_ok x s o)
  have hs := hc.2.1
  refine N.fn Try.func63 k63 lb q63 fun Q hQ hQN => ?_
  rw [c63]
  cases hf : c.ins.findIdx? (fun x => decide (x.name = s ∧ x.mode = o)) with
  | none =>
    have e1 : idxI (fun x => decide (x.name = s ∧ x.mode = o)) c.ins = -1 := by unfold idxI; rw [hf]
    have e2 : gotM (fun x => decide (x.name = s ∧ x.mode = o)) c.ins = (insZ, false) := by unfold gotM; rw [hf]
    rw [e1] at hi
    rw [e2] at hQ hQN
    repeat' (first
    | refine N.regS fun K hK => ?_
    | refine N.dregS fun K hK => ?_
    | refine N.regN fun K hK => ?_
    | refine N.dregN fun K hK => ?_
    | simp only [T.mv, sm, AO.ev, put, lk, enter, reduceIte, Nat.reduceEqDiff, Nat.reduceAdd, Nat.reduceMul, Nat.reduceSub, Int.reduceNeg, Int.reduceToNat, upto, renB, setAll]
    | (refine T.nil ?_; (first | refine hK _ _ _ (by rfl) ?_ | refine hK _ _ _ ?_); (try simp only [keep, List.map, lk, reduceIte, Nat.reduceEqDiff, enter]); clear hK K)
    | (show WOpsT _ (⟨_, .call _ _, none⟩ :: _) _ _ _ _; first | refine T.callQ [1, 2] e120 rfl (hi) (by first | rfl | exact pasH_nil | (unfold pasH; simp only [List.map]; (repeat' (first | rfl | exact pasB_bytes | exact pasB_ints | exact pasB_flat | refine consE ?_ ?_)); done) | simp [pasH, pasB, cells_pas, bcells_pas]) rfl rfl rfl (by first | rfl | ((repeat' (first | rfl | exact renB_bytes | exact renB_ints | exact renB_flat | refine consE ?_ ?_)); done) | simp [renB, cells_ren, bcells_ren]) ?_)
    | (show WOpsT _ (⟨_, .ld _ _, none⟩ :: _) _ _ _ _; first | refine L.ld ?_ | refine L.ldd ?_ | refine L.ldn ?_ | refine L.lddn ?_)
    | (show WOpsT _ (⟨_, .idx _ _ _ _, none⟩ :: _) _ _ _ _; first | refine L.idx ?_ | refine L.idxs ?_)
    | (show WOpsT _ (⟨_, .bin _ _ _, none⟩ :: _) _ _ _ _; first | refine L.bin ?_)
    | (show AKW _ _ _ _ _ _ _; first | refine N.now ?_)
    | (show UK _ _ _ _ _ _ _ _; first | refine N.round ?_)
    | (show UC _ _ _ _ _ _ _ _; first | refine N.ucN ?_)
    | (show AK _ _ (.cond _ _ _) _ _ _ _; first | refine N.c1 ?_ | refine N.c2 ?_ | refine N.c3 ?_ | refine N.c4 ?_ | refine N.condD rfl (fun hcd => ?_) (fun hcd => ?_) | refine N.condB rfl (fun hcd => ?_) (fun hcd => ?_) | refine N.condU rfl ?_ ?_)
    | (show AK _ _ _ _ _ _ _; first | refine N.seq ?_ | refine N.skip ?_ | refine N.ret ?_)
    | (show RK _ _ _ _ _ _ _; simp only [rk, rk0, reduceIte, Nat.reduceEqDiff])
    | (show WOpsT _ _ _ _ _ _; first | refine L.fad ?_ | refine L.fadd ?_ | refine L.st ?_ | refine L.new ?_ | refine L.zero ?_ | refine L.build ?_ | refine T.mkf ?_)
    | refine hQ _ _ _ rfl ?_
    | refine hQN _ _ _ rfl ?_)
    exact WS.gc [] 1 rfl rfl (Sub.tup2 Sub.insZ .rfl)
  | some i =>
    have e1 : idxI (fun x => decide (x.name = s ∧ x.mode = o)) c.ins = i := by unfold idxI; rw [hf]
    have hil : i < c.ins.length := (List.findIdx?_eq_some_iff_getElem.1 hf).1
    have e2 : gotM (fun x => decide (x.name = s ∧ x.mode = o)) c.ins = (c.ins[i], true) := by unfold gotM; rw [hf]; simp [hil]
    have hy := copy_ok c.ins[i] (hs _ (List.getElem_mem hil))
    rw [e1] at hi
    rw [e2] at hQ hQN
    repeat' (first
    | (show WOpsT _ (⟨_, .idx _ _ _ _, none⟩ :: _) _ _ _ _; refine T.idxs rfl rfl rfl (by omega) (mget inC c.ins i hil) ?_)
    | refine N.regS fun K hK => ?_
    | refine N.dregS fun K hK => ?_
    | refine N.regN fun K hK => ?_
    | refine N.dregN fun K hK => ?_
    | simp only [T.mv, sm, AO.ev, put, lk, enter, reduceIte, Nat.reduceEqDiff, Nat.reduceAdd, Nat.reduceMul, Nat.reduceSub, Int.reduceNeg, Int.reduceToNat, upto, renB, setAll]
    | (refine T.nil ?_; (first | refine hK _ _ _ (by rfl) ?_ | refine hK _ _ _ ?_); (try simp only [keep, List.map, lk, reduceIte, Nat.reduceEqDiff, enter]); clear hK K)
    | (show WOpsT _ (⟨_, .call _ _, none⟩ :: _) _ _ _ _; first | refine T.callQ [1, 2] e120 rfl (hi) (by first | rfl | exact pasH_nil | (unfold pasH; simp only [List.map]; (repeat' (first | rfl | exact pasB_bytes | exact pasB_ints | exact pasB_flat | refine consE ?_ ?_)); done) | simp [pasH, pasB, cells_pas, bcells_pas]) rfl rfl rfl (by first | rfl | ((repeat' (first | rfl | exact renB_bytes | exact renB_ints | exact renB_flat | refine consE ?_ ?_)); done) | simp [renB, cells_ren, bcells_ren]) ?_ | refine T.call0 e122 rfl (hy) ?_)
    | (show WOpsT _ (⟨_, .ld _ _, none⟩ :: _) _ _ _ _; first | refine L.ld ?_ | refine L.ldd ?_ | refine L.ldn ?_ | refine L.lddn ?_)
    | (show WOpsT _ (⟨_, .idx _ _ _ _, none⟩ :: _) _ _ _ _; first | refine L.idx ?_ | refine L.idxs ?_)
    | (show WOpsT _ (⟨_, .bin _ _ _, none⟩ :: _) _ _ _ _; first | refine L.bin ?_)
    | (show AKW _ _ _ _ _ _ _; first | refine N.now ?_)
    | (show UK _ _ _ _ _ _ _ _; first | refine N.round ?_)
    | (show UC _ _ _ _ _ _ _ _; first | refine N.ucN ?_)
    | (show AK _ _ (.cond _ _ _) _ _ _ _; first | refine N.c1 ?_ | refine N.c2 ?_ | refine N.c3 ?_ | refine N.c4 ?_ | refine N.condD rfl (fun hcd => ?_) (fun hcd => ?_) | refine N.condB rfl (fun hcd => ?_) (fun hcd => ?_) | refine N.condU rfl ?_ ?_)
    | (show AK _ _ _ _ _ _ _; first | refine N.seq ?_ | refine N.skip ?_ | refine N.ret ?_)
    | (show RK _ _ _ _ _ _ _; simp only [rk, rk0, reduceIte, Nat.reduceEqDiff])
    | (show WOpsT _ _ _ _ _ _; first | refine L.fad ?_ | refine L.fadd ?_ | refine L.st ?_ | refine L.new ?_ | refine L.zero ?_ | refine L.build ?_ | refine T.mkf ?_)
    | refine hQ _ _ _ rfl ?_
    | refine hQN _ _ _ rfl ?_)
    exact WS.drop (n := 0) rfl rfl
end Go.Proofs.Ytjmmompbmjhkpaa.Calc

namespace Go.Proofs.Ytjmmompbmjhkpaa.Calc
open Go Code
set_option linter.unusedSimpArgs false
set_option linter.unusedVariables false
set_option maxRecDepth 20000
set_option maxHeartbeats 2000000
attribute [local irreducible] WOpsT AW AK RK AKW
abbrev strB (l : List Int) : Blk := ⟨1, 1, [[.sl 1 (cells l)]]⟩
def sval (l : List Int) (n : Int) : Int := if n < 1 then 0 else match l with
  | [] => 0
  | x :: _ => x % n
def srest (l : List Int) (n : Int) : List Int := if n < 1 then l else l.tail
theorem next_ok (l : List Int) (n : Int) (hn : n < 4611686018427387904) : FnE Try.prog 56 [.ptr 0 1 0 0, I n] [strB l] (I (sval l n)) [strB (srest l n)] := by
  by_cases h : n < 1
  · skip
    refine N.fn Try.func56 k56 lb q56 fun Q hQ hQN => ?_
    rw [c56]
    repeat' (first
    | refine N.regS fun K hK => ?_
    | refine N.dregS fun K hK => ?_
    | refine N.regN fun K hK => ?_
    | refine N.dregN fun K hK => ?_
    | simp only [T.mv, sm, AO.ev, put, lk, enter, reduceIte, Nat.reduceEqDiff, Nat.reduceAdd, Nat.reduceMul, Nat.reduceSub, Int.reduceNeg, Int.reduceToNat, upto, renB, setAll]
    | (refine T.nil ?_; (first | refine hK _ _ _ (by rfl) ?_ | refine hK _ _ _ ?_); (try simp only [keep, List.map, lk, reduceIte, Nat.reduceEqDiff, enter]); clear hK K)
    | (show WOpsT _ (⟨_, .ld _ _, none⟩ :: _) _ _ _ _; first | refine L.ld ?_ | refine L.ldd ?_)
    | (show WOpsT _ (⟨_, .idx _ _ _ _, none⟩ :: _) _ _ _ _; first | refine L.idx ?_ | refine L.idxs ?_)
    | (show WOpsT _ (⟨_, .bin _ _ _, none⟩ :: _) _ _ _ _; first | refine L.bin ?_)
    | (show WOpsT _ (⟨_, _, some (_, false)⟩ :: _) _ _ _ _; first | refine L.goF ?_ | refine L.paF ?_ | refine L.go ?_ | refine L.pass ?_ | refine T.pU rfl ?_ | refine T.gF rfl (fun hgd => ?_) (fun hgd => ?_))
    | (show WOpsT _ (⟨_, .pick _ _ _, none⟩ :: _) _ _ _ _; first | refine L.pkT ?_ | refine L.pkF ?_ | refine L.pickT ?_ | refine L.pickF ?_ | refine L.pickB ?_ | refine T.pkD rfl (fun hgd => ?_) (fun hgd => ?_))
    | (show AKW _ _ _ _ _ _ _; first | refine N.now ?_)
    | (show AK _ _ (.cond _ _ _) _ _ _ _; first | refine N.c1 ?_ | refine N.c2 ?_ | refine N.c3 ?_ | refine N.c4 ?_ | refine N.condD rfl (fun hcd => ?_) (fun hcd => ?_) | refine N.condB rfl (fun hcd => ?_) (fun hcd => ?_) | refine N.condU rfl ?_ ?_)
    | (show AK _ _ _ _ _ _ _; first | refine N.seq ?_ | refine N.skip ?_ | refine N.ret ?_)
    | (show RK _ _ _ _ _ _ _; simp only [rk, rk0, reduceIte, Nat.reduceEqDiff])
    | (show WOpsT _ _ _ _ _ _; first | refine T.slcN rfl rfl rfl ?_ | refine L.fad ?_ | refine L.fadd ?_ | refine L.nilc ?_ | refine L.nilcd ?_ | refine T.nilcf rfl ?_ | refine T.nilci rfl ?_ | refine L.st ?_ | refine L.len ?_ | refine L.lenS ?_ | refine L.lenN ?_ | refine T.slc rfl rfl rfl rfl ⟨rfl, rfl⟩ (by omega) ?_ | refine T.slcS rfl rfl rfl rfl (by omega) ?_)
    | refine hQ _ _ _ rfl ?_
    | refine hQN _ _ _ rfl ?_)
    exact WS.gc [0] 1 rfl (by rw [srest, if_pos h]; rfl) (by unfold sval; rw [if_pos h]; exact .rfl)
  · cases l with
    | nil =>
      refine N.fn Try.func56 k56 lb q56 fun Q hQ hQN => ?_
      rw [c56]
      repeat' (first
      | refine N.regS fun K hK => ?_
      | refine N.dregS fun K hK => ?_
      | refine N.regN fun K hK => ?_
      | refine N.dregN fun K hK => ?_
      | simp only [T.mv, sm, AO.ev, put, lk, enter, reduceIte, Nat.reduceEqDiff, Nat.reduceAdd, Nat.reduceMul, Nat.reduceSub, Int.reduceNeg, Int.reduceToNat, upto, renB, setAll]
      | (refine T.nil ?_; (first | refine hK _ _ _ (by rfl) ?_ | refine hK _ _ _ ?_); (try simp only [keep, List.map, lk, reduceIte, Nat.reduceEqDiff, enter]); clear hK K)
      | (show WOpsT _ (⟨_, .ld _ _, none⟩ :: _) _ _ _ _; first | refine L.ld ?_ | refine L.ldd ?_)
      | (show WOpsT _ (⟨_, .idx _ _ _ _, none⟩ :: _) _ _ _ _; first | refine L.idx ?_ | refine L.idxs ?_)
      | (show WOpsT _ (⟨_, .bin _ _ _, none⟩ :: _) _ _ _ _; first | refine L.bin ?_)
      | (show WOpsT _ (⟨_, _, some (_, false)⟩ :: _) _ _ _ _; first | refine L.goF ?_ | refine L.paF ?_ | refine L.go ?_ | refine L.pass ?_ | refine T.pU rfl ?_ | refine T.gF rfl (fun hgd => ?_) (fun hgd => ?_))
      | (show WOpsT _ (⟨_, .pick _ _ _, none⟩ :: _) _ _ _ _; first | refine L.pkT ?_ | refine L.pkF ?_ | refine L.pickT ?_ | refine L.pickF ?_ | refine L.pickB ?_ | refine T.pkD rfl (fun hgd => ?_) (fun hgd => ?_))
      | (show AKW _ _ _ _ _ _ _; first | refine N.now ?_)
      | (show AK _ _ (.cond _ _ _) _ _ _ _; first | refine N.c1 ?_ | refine N.c2 ?_ | refine N.c3 ?_ | refine N.c4 ?_ | refine N.condD rfl (fun hcd => ?_) (fun hcd => ?_) | refine N.condB rfl (fun hcd => ?_) (fun hcd => ?_) | refine N.condU rfl ?_ ?_)
      | (show AK _ _ _ _ _ _ _; first | refine N.seq ?_ | refine N.skip ?_ | refine N.ret ?_)
      | (show RK _ _ _ _ _ _ _; simp only [rk, rk0, reduceIte, Nat.reduceEqDiff])
      | (show WOpsT _ _ _ _ _ _; first | refine T.slcN rfl rfl rfl ?_ | refine L.fad ?_ | refine L.fadd ?_ | refine L.nilc ?_ | refine L.nilcd ?_ | refine T.nilcf rfl ?_ | refine T.nilci rfl ?_ | refine L.st ?_ | refine L.len ?_ | refine L.lenS ?_ | refine L.lenN ?_ | refine T.slc rfl rfl rfl rfl ⟨rfl, rfl⟩ (by omega) ?_ | refine T.slcS rfl rfl rfl rfl (by omega) ?_)
      | refine hQ _ _ _ rfl ?_
      | refine hQN _ _ _ rfl ?_)
      exact WS.gc [0] 1 rfl (by rw [srest, if_neg h]; rfl) (by unfold sval; rw [if_neg h]; exact .rfl)
    | cons x t =>
      refine N.fn Try.func56 k56 lb q56 fun Q hQ hQN => ?_
      rw [c56]
      have e1 : ¬ ((cells (x :: t)).length : Int) = 0 := by rw [cells_len, List.length_cons]; omega
      have e3 : (1 : Int) ≤ ((cells (x :: t)).length : Int) := by rw [cells_len, List.length_cons]; omega
      have e2 : (List.drop 1 (cells (x :: t))).take (((cells (x :: t)).length : Int).toNat - 1) = cells t := by
        rw [cells_len, Int.toNat_natCast, List.length_cons, cells_drop, List.drop_one, List.tail_cons, cells_take, List.take_of_length_le (by omega)]
      repeat' (first
      | rw [e2]
      | refine N.regS fun K hK => ?_
      | refine N.dregS fun K hK => ?_
      | refine N.regN fun K hK => ?_
      | refine N.dregN fun K hK => ?_
      | simp only [T.mv, sm, AO.ev, put, lk, enter, reduceIte, Nat.reduceEqDiff, Nat.reduceAdd, Nat.reduceMul, Nat.reduceSub, Int.reduceNeg, Int.reduceToNat, upto, renB, setAll]
      | (refine T.nil ?_; (first | refine hK _ _ _ (by rfl) ?_ | refine hK _ _ _ ?_); (try simp only [keep, List.map, lk, reduceIte, Nat.reduceEqDiff, enter]); clear hK K)
      | (show WOpsT _ (⟨_, .call _ _, none⟩ :: _) _ _ _ _; first | refine T.call0 e29 rfl (below_ok x n (by omega) hn) ?_)
      | (show WOpsT _ (⟨_, .ld _ _, none⟩ :: _) _ _ _ _; first | refine L.ld ?_ | refine L.ldd ?_)
      | (show WOpsT _ (⟨_, .idx _ _ _ _, none⟩ :: _) _ _ _ _; first | refine L.idx ?_ | refine L.idxs ?_)
      | (show WOpsT _ (⟨_, .bin _ _ _, none⟩ :: _) _ _ _ _; first | refine L.bin ?_)
      | (show WOpsT _ (⟨_, _, some (_, false)⟩ :: _) _ _ _ _; first | refine L.goF ?_ | refine L.paF ?_ | refine L.go ?_ | refine L.pass ?_ | refine T.pU rfl ?_ | refine T.gF rfl (fun hgd => ?_) (fun hgd => ?_))
      | (show WOpsT _ (⟨_, .pick _ _ _, none⟩ :: _) _ _ _ _; first | refine L.pkT ?_ | refine L.pkF ?_ | refine L.pickT ?_ | refine L.pickF ?_ | refine L.pickB ?_ | refine T.pkD rfl (fun hgd => ?_) (fun hgd => ?_))
      | (show AKW _ _ _ _ _ _ _; first | refine N.now ?_)
      | (show AK _ _ (.cond _ _ _) _ _ _ _; first | refine N.c1 ?_ | refine N.c2 ?_ | refine N.c3 ?_ | refine N.c4 ?_ | refine N.condD rfl (fun hcd => ?_) (fun hcd => ?_) | refine N.condB rfl (fun hcd => ?_) (fun hcd => ?_) | refine N.condU rfl ?_ ?_)
      | (show AK _ _ _ _ _ _ _; first | refine N.seq ?_ | refine N.skip ?_ | refine N.ret ?_)
      | (show RK _ _ _ _ _ _ _; simp only [rk, rk0, reduceIte, Nat.reduceEqDiff])
      | (show WOpsT _ _ _ _ _ _; first | refine T.slcN rfl rfl rfl ?_ | refine L.fad ?_ | refine L.fadd ?_ | refine L.nilc ?_ | refine L.nilcd ?_ | refine T.nilcf rfl ?_ | refine T.nilci rfl ?_ | refine L.st ?_ | refine L.len ?_ | refine L.lenS ?_ | refine L.lenN ?_ | refine T.slc rfl rfl rfl rfl ⟨rfl, rfl⟩ (by omega) ?_ | refine T.slcS rfl rfl rfl rfl (by omega) ?_)
      | refine hQ _ _ _ rfl ?_
      | refine hQN _ _ _ rfl ?_)
      exact WS.gc [0] 1 rfl (by rw [srest, if_neg h]; rfl) (by unfold sval; rw [if_neg h]; exact .rfl)
theorem sval_range (l : List Int) (n : Int) (hn : 0 < n) : 0 ≤ sval l n ∧ sval l n < n := by
  unfold sval
  rw [if_neg (by omega)]
  cases l with
  | nil => exact ⟨Int.le_refl 0, hn⟩
  | cons x t => exact ⟨Int.emod_nonneg _ (by omega), Int.emod_lt_of_pos _ hn⟩
end Go.Proofs.Ytjmmompbmjhkpaa.Calc

namespace Go.Proofs.Ytjmmompbmjhkpaa.Calc
open Go Code
set_option linter.unusedSimpArgs false
set_option linter.unusedVariables false
set_option maxRecDepth 20000
set_option maxHeartbeats 4000000
attribute [local irreducible] WOpsT AW AK RK AKW UK UC
def mkStepD (b w d : Int) (l : List Int) : Stp × List Int :=
  if d = 0 then (⟨0, 0, 0, 0⟩, l)
  else if d = 1 ∨ (4 ≤ d ∧ d ≤ 9) then (⟨d, b, sval l 7, 0⟩, srest l 7)
  else if d = 2 then (⟨2, b, 0, sval l 256⟩, srest l 256)
  else if d = 16 ∨ d = 17 then (⟨d, 0, 0, sval l 256⟩, srest l 256)
  else if d = 18 ∨ d = 19 ∨ d = 22 ∨ d = 23 then (⟨d, w, b, 0⟩, l)
  else if d = 20 ∨ d = 21 then (⟨d, b, w, 0⟩, l)
  else if d = 24 then (⟨24, 0, sval l 2, sval (srest l 2) 256⟩, srest (srest l 2) 256)
  else (⟨d, b, 0, 0⟩, l)
def mkStep (l : List Int) : Stp × List Int := mkStepD (sval l 7) (7 + sval (srest l 7) 2) (sval (srest (srest l 7) 2) 25) (srest (srest (srest l 7) 2) 25)
theorem mkStep_ok (l : List Int) : FnE Try.prog 163 [.ptr 0 1 0 0] [strB l] (.agg (stC (mkStep l).1)) [strB (mkStep l).2] := by
  have n1 := next_ok l 7 (by decide)
  have n2 := next_ok (srest l 7) 2 (by decide)
  have n3 := next_ok (srest (srest l 7) 2) 25 (by decide)
  have r1 := sval_range l 7 (by decide)
  have r2 := sval_range (srest l 7) 2 (by decide)
  have r3 := sval_range (srest (srest l 7) 2) 25 (by decide)
  unfold mkStep
  generalize srest (srest (srest l 7) 2) 25 = l3 at *
  generalize sval (srest (srest l 7) 2) 25 = d at *
  generalize sval l 7 = b at *
  generalize sval (srest l 7) 2 = w at *
  generalize hM : mkStepD b (7 + w) d l3 = M
  have n4 := next_ok l3 7 (by decide)
  have n5 := next_ok l3 256 (by decide)
  have n6 := next_ok l3 2 (by decide)
  have n7 := next_ok (srest l3 2) 256 (by decide)
  unfold mkStepD at hM
  refine N.fn Try.func163 k163 lb q163 fun Q hQ hQN => ?_
  rw [c163]
  repeat' (first
  | refine N.regS fun K hK => ?_
  | refine N.dregS fun K hK => ?_
  | refine N.regN fun K hK => ?_
  | refine N.dregN fun K hK => ?_
  | simp only [T.mv, sm, AO.ev, put, lk, enter, reduceIte, Nat.reduceEqDiff, Nat.reduceAdd, Nat.reduceMul, Nat.reduceSub, Int.reduceNeg, Int.reduceToNat, upto, renB, setAll]
  | (refine T.nil ?_; (first | refine hK _ _ _ (by rfl) ?_ | refine hK _ _ _ ?_); (try simp only [keep, List.map, lk, reduceIte, Nat.reduceEqDiff, enter]); clear hK K)
  | (show WOpsT _ (⟨_, .call _ _, none⟩ :: _) _ _ _ _; first | refine T.call1 0 e56 rfl rfl (n1) ?_ | refine T.call1 0 e56 rfl rfl (n2) ?_ | refine T.call1 0 e56 rfl rfl (n3) ?_ | refine T.call1 0 e56 rfl rfl (n4) ?_ | refine T.call1 0 e56 rfl rfl (n5) ?_ | refine T.call1 0 e56 rfl rfl (n6) ?_ | refine T.call1 0 e56 rfl rfl (n7) ?_)
  | (show WOpsT _ (⟨_, .bin _ _ _, none⟩ :: _) _ _ _ _; first | refine L.add ?_ | refine L.bin ?_)
  | (show AKW _ _ _ _ _ _ _; first | refine N.now ?_)
  | (show AK _ _ (.cond _ _ _) _ _ _ _; first | refine N.c1 ?_ | refine N.c2 ?_ | refine N.c3 ?_ | refine N.c4 ?_ | refine N.condD rfl (fun hcd => ?_) (fun hcd => ?_) | refine N.condB rfl (fun hcd => ?_) (fun hcd => ?_) | refine N.condU rfl ?_ ?_)
  | (show AK _ _ _ _ _ _ _; first | refine N.seq ?_ | refine N.block ?_ | refine N.skip ?_ | refine N.ret ?_)
  | (show RK _ _ _ _ _ _ _; simp only [rk, rk0, reduceIte, Nat.reduceEqDiff])
  | (show WOpsT _ _ _ _ _ _; first | refine L.st ?_ | refine L.zero ?_ | refine L.build ?_)
  | refine hQ _ _ _ rfl ?_
  | refine hQN _ _ _ rfl ?_)
  all_goals (repeat' (first | rw [if_pos (by omega)] at hM | rw [if_neg (by omega)] at hM))
  all_goals first
    | (exfalso; omega)
    | (subst hM; exact WS.gc [0] 0 rfl rfl .rfl)
    | (subst hM; subst hcd; exact WS.gc [0] 0 rfl rfl .rfl)
    | trace_state
end Go.Proofs.Ytjmmompbmjhkpaa.Calc

namespace Go.Proofs.Ytjmmompbmjhkpaa.Calc
open Go
def rdM (a r : Int) (ss : List Stp) : Cyc := ⟨1, a, r, ss⟩
def wrM (a r : Int) (ss : List Stp) : Cyc := ⟨2, a, r, ss⟩
def noM (ss : List Stp) : Cyc := ⟨0, 0, 0, ss⟩
def oneM (d t : Int) : Stp := ⟨d, t, 0, 0⟩
def twoM (d t f : Int) : Stp := ⟨d, t, f, 0⟩
def zeroM : Stp := ⟨2, 8, 0, 0⟩
def jumpM (t : Int) : List Stp := [twoM 18 t 5, twoM 19 t 6]
def pageM : Cyc := rdM 0 5 [zeroM, twoM 18 8 5]
def lowM : Cyc := rdM 0 5 [twoM 18 8 5]
def highM : Cyc := rdM 0 5 [twoM 19 8 5]
def leadM (m : Int) : List Cyc :=
  if m = 2 then [pageM]
  else if m = 3 then [rdM 0 5 [zeroM, twoM 18 8 5, twoM 22 8 1], noM [twoM 20 5 8, zeroM, twoM 18 8 5]]
  else if m = 4 then [lowM, highM]
  else if m = 5 then [lowM, highM, noM [twoM 22 8 1]]
  else if m = 6 then [lowM, highM, noM [twoM 22 8 2]]
  else if m = 8 then [pageM, rdM 2 5 [], rdM 3 6 [twoM 18 8 5, twoM 19 8 6, twoM 22 8 2]]
  else []
def readsM (m : Int) (ss : List Stp) : List Cyc := leadM m ++ [rdM (if m = 1 then 0 else 2) 5 ss]
abbrev Row := ByteArray × Int × List Cyc
def loadsM (n : ByteArray) (r : Int) (ms : List Int) : List Row := ms.map fun m => (n, m, readsM m [twoM 1 r 5, oneM 3 r])
def storesM (n : ByteArray) (r : Int) (ms : List Int) : List Row := ms.map fun m => (n, m, leadM m ++ [wrM 2 r []])
def joinsM (n : ByteArray) (d r : Int) (ms : List Int) : List Row := ms.map fun m => (n, m, readsM m [twoM d r 5])
def turnsM (n : ByteArray) (d : Int) (ms : List Int) : List Row := ms.map fun m => (n, m, if m = 0 then [noM [oneM d 0]] else leadM m ++ [rdM 2 5 [oneM d 5], wrM 2 5 []])
def memoryL : List (List (ByteArray × Int × List Cyc)) := [
  loadsM ⟨#[108, 100, 97]⟩ 0 [1, 2, 3, 4, 5, 6, 8],
  loadsM ⟨#[108, 100, 120]⟩ 1 [1, 2, 4],
  loadsM ⟨#[108, 100, 121]⟩ 2 [1, 2, 4],
  storesM ⟨#[115, 116, 97]⟩ 0 [2, 3, 4, 5, 6, 8],
  storesM ⟨#[115, 116, 120]⟩ 1 [2, 4],
  storesM ⟨#[115, 116, 121]⟩ 2 [2, 4],
  joinsM ⟨#[97, 100, 99]⟩ 4 0 [1, 2, 4, 5],
  joinsM ⟨#[115, 98, 99]⟩ 5 0 [1, 2, 4, 5],
  joinsM ⟨#[97, 110, 100]⟩ 7 0 [1, 2, 4, 5],
  joinsM ⟨#[111, 114, 97]⟩ 8 0 [1, 2, 4, 5],
  joinsM ⟨#[101, 111, 114]⟩ 9 0 [1, 2, 4, 5],
  joinsM ⟨#[99, 109, 112]⟩ 6 0 [1, 2, 4, 5],
  joinsM ⟨#[99, 112, 120]⟩ 6 1 [1, 2],
  joinsM ⟨#[99, 112, 121]⟩ 6 2 [1, 2],
  turnsM ⟨#[105, 110, 99]⟩ 10 [2, 4],
  turnsM ⟨#[100, 101, 99]⟩ 11 [2, 4],
  turnsM ⟨#[97, 115, 108]⟩ 12 [0, 2],
  turnsM ⟨#[108, 115, 114]⟩ 13 [0, 2],
  turnsM ⟨#[114, 111, 108]⟩ 14 [0, 2],
  turnsM ⟨#[114, 111, 114]⟩ 15 [0, 2]]
def aloneL : List (ByteArray × Int × List Cyc) := [
  (⟨#[116, 97, 120]⟩, 0, [noM [twoM 1 1 0, oneM 3 1]]),
  (⟨#[116, 97, 121]⟩, 0, [noM [twoM 1 2 0, oneM 3 2]]),
  (⟨#[116, 120, 97]⟩, 0, [noM [twoM 1 0 1, oneM 3 0]]),
  (⟨#[116, 121, 97]⟩, 0, [noM [twoM 1 0 2, oneM 3 0]]),
  (⟨#[116, 115, 120]⟩, 0, [noM [twoM 1 1 3, oneM 3 1]]),
  (⟨#[116, 120, 115]⟩, 0, [noM [twoM 1 3 1]]),
  (⟨#[105, 110, 120]⟩, 0, [noM [oneM 10 1]]),
  (⟨#[105, 110, 121]⟩, 0, [noM [oneM 10 2]]),
  (⟨#[100, 101, 120]⟩, 0, [noM [oneM 11 1]]),
  (⟨#[100, 101, 121]⟩, 0, [noM [oneM 11 2]]),
  (⟨#[99, 108, 99]⟩, 0, [noM [⟨17, 0, 0, 1⟩]]),
  (⟨#[115, 101, 99]⟩, 0, [noM [⟨16, 0, 0, 1⟩]]),
  (⟨#[99, 108, 105]⟩, 0, [noM [⟨17, 0, 0, 4⟩]]),
  (⟨#[115, 101, 105]⟩, 0, [noM [⟨16, 0, 0, 4⟩]]),
  (⟨#[110, 111, 112]⟩, 0, [noM []]),
  (⟨#[112, 104, 97]⟩, 0, [wrM 4 0 []]),
  (⟨#[112, 108, 97]⟩, 0, [rdM 5 0 [oneM 3 0]]),
  (⟨#[112, 104, 112]⟩, 0, [wrM 4 4 []]),
  (⟨#[112, 108, 112]⟩, 0, [rdM 5 4 []])]
def waysL : List (ByteArray × Int × List Cyc) := [
  (⟨#[106, 109, 112]⟩, 4, [rdM 0 5 [], rdM 0 6 (jumpM 7)]),
  (⟨#[106, 115, 114]⟩, 4, [rdM 0 5 [twoM 18 8 5], rdM 0 5 [twoM 19 8 5, twoM 21 5 7], wrM 4 5 [twoM 20 5 7], wrM 4 5 [twoM 1 7 8]]),
  (⟨#[114, 116, 115]⟩, 0, [rdM 5 5 [], rdM 5 6 (jumpM 7)]),
  (⟨#[114, 116, 105]⟩, 0, [rdM 5 4 [], rdM 5 5 [], rdM 5 6 (jumpM 7)]),
  (⟨#[98, 101, 113]⟩, 7, [rdM 0 5 [⟨24, 0, 1, 2⟩], noM [twoM 23 7 5]]),
  (⟨#[98, 110, 101]⟩, 7, [rdM 0 5 [⟨24, 0, 0, 2⟩], noM [twoM 23 7 5]]),
  (⟨#[98, 99, 115]⟩, 7, [rdM 0 5 [⟨24, 0, 1, 1⟩], noM [twoM 23 7 5]]),
  (⟨#[98, 99, 99]⟩, 7, [rdM 0 5 [⟨24, 0, 0, 1⟩], noM [twoM 23 7 5]]),
  (⟨#[98, 109, 105]⟩, 7, [rdM 0 5 [⟨24, 0, 1, 128⟩], noM [twoM 23 7 5]]),
  (⟨#[98, 112, 108]⟩, 7, [rdM 0 5 [⟨24, 0, 0, 128⟩], noM [twoM 23 7 5]])]
def number : Nat → List Row → List Ins
  | _, [] => []
  | n, (s, m, cy) :: l => ⟨(n : Int) + 1, s, m, cy⟩ :: number (n + 1) l
def answersM (lo hi : Int) : List Cyc := [noM [twoM 21 5 7], wrM 4 5 [twoM 20 5 7], wrM 4 5 [], wrM 4 4 [⟨16, 0, 0, 4⟩], rdM lo 5 [], rdM hi 6 (jumpM 7)]
def stdL : List (List Row) := memoryL ++ aloneL.map (fun r => [r]) ++ waysL.map (fun r => [r])
def memR (k : Nat) : List Row := (stdL.take k).flatten
def stdRows : List Row := memR 49
def stdM : Cpu := ⟨⟨#[115, 116, 100]⟩, number 0 stdRows, [rdM 10 5 [], rdM 11 6 [twoM 18 7 5, twoM 19 7 6, ⟨2, 3, 0, 255⟩]], answersM 6 7, answersM 8 9⟩
end Go.Proofs.Ytjmmompbmjhkpaa.Calc

namespace Go.Proofs.Ytjmmompbmjhkpaa.Calc
open Go Code
set_option linter.unusedSimpArgs false
set_option linter.unusedVariables false
set_option maxRecDepth 20000
set_option maxHeartbeats 4000000
attribute [local irreducible] WOpsT AW AK RK AKW UK UC
def cyP (b a r : Int) (p n : Nat) : List V := [I b, I a, I r, .psl p 1 0 n]
end Go.Proofs.Ytjmmompbmjhkpaa.Calc

namespace Go.Proofs.Ytjmmompbmjhkpaa.Calc
open Go Code
set_option linter.unusedSimpArgs false
set_option linter.unusedVariables false
set_option maxRecDepth 20000
set_option maxHeartbeats 4000000
attribute [local irreducible] WOpsT AW AK RK AKW UK UC
def Adr (m : Int) : Prop := m = 2 ∨ m = 3 ∨ m = 4 ∨ m = 5 ∨ m = 6 ∨ m = 8
end Go.Proofs.Ytjmmompbmjhkpaa.Calc

namespace Go.Proofs.Ytjmmompbmjhkpaa.Calc
open Go Code
set_option linter.unusedSimpArgs false
set_option linter.unusedVariables false
set_option maxRecDepth 20000
set_option maxHeartbeats 4000000
attribute [local irreducible] WOpsT AW AK RK AKW UK UC
theorem outB_flatA {α : Type} {f : α → List V} [Flat f] {h : List Blk} {ids : List Nat} {n v e : Nat} {l : List α} {rows : List (List V)} : outB h ids n ⟨v, e, l.map f ++ rows⟩ = ⟨v, e, l.map f ++ rows.map (·.map (out h ids n))⟩ := by
  simp only [outB, List.map_append]; rw [flat_rows (fun _ => out_c) (fun _ _ => out_sl)]
theorem vcells_psl {h : List Blk} {b ver off len : Nat} {k : Blk} (hb : h[b]? = some k) (hv : k.ver = ver) : vcells (fun b => h[b]?) (.psl b ver off len) = some [.psl b ver off len] := by
  simp only [vcells, hb]; rw [if_pos hv]
def wR (m : Int) : Nat := if m = 1 then 0 else 1
def mkA (p : Nat) (l : List Ins) : Blk := ⟨1, 1, [[.psl p l.length 0 l.length]]⟩
def mkB (l : List Ins) : Blk := ⟨l.length, 4, l.map inC⟩
def insN (l : List Ins) (s : ByteArray) (m : Int) (cy : List Cyc) : Ins := ⟨(l.length : Int) + 1, s, m, cy⟩
end Go.Proofs.Ytjmmompbmjhkpaa.Calc

namespace Go.Proofs.Ytjmmompbmjhkpaa.Calc
open Go Code
set_option linter.unusedSimpArgs false
set_option linter.unusedVariables false
set_option maxRecDepth 20000
set_option maxHeartbeats 4000000
attribute [local irreducible] WOpsT AW AK RK AKW UK UC
def stV (l : List Stp) : V := match l with
  | [] => .c (.slice none 0 0)
  | a :: l => .sl 4 ((a :: l).map stC)
def cyQ (c : Cyc) : List V := [I c.bus, I c.at_, I c.reg, stV c.steps]
instance : Flat cyQ := ⟨fun a x hx => by
  obtain ⟨b, t, r, ss⟩ := a
  cases ss with
  | nil => simp [cyQ, stV] at hx; rcases hx with rfl | rfl | rfl | rfl <;> exact .inl ⟨_, rfl⟩
  | cons s ss => simp [cyQ, stV] at hx; rcases hx with rfl | rfl | rfl | rfl <;> first | exact .inl ⟨_, rfl⟩ | exact .inr ⟨_, _, rfl⟩⟩
theorem sub_rows {α : Type} (f g : α → List V) (e : Nat) (hg : ∀ a, (g a).length = e) (hs : ∀ a (j : Nat), (∀ y, (g a)[j]? = some y → ∃ x, (f a)[j]? = some x ∧ Sub x y)) (l : List α) : Sub (.sl e (l.map f)) (.sl e (l.map g)) := by
  refine .sl (by simp) (fun row hr => ?_) (fun i j b hb => ?_) (fun i j a b ha hb => ?_)
  · obtain ⟨a, _, rfl⟩ := List.mem_map.1 hr; exact hg a
  · unfold cellOf at *
    rw [List.getElem?_map] at *
    cases hl : l[i]? with
    | none => rw [hl] at hb; cases hb
    | some a =>
      rw [hl] at hb
      obtain ⟨x, h1, _⟩ := hs a j b hb
      exact ⟨x, h1⟩
  · unfold cellOf at *
    rw [List.getElem?_map] at *
    cases hl : l[i]? with
    | none => rw [hl] at hb; cases hb
    | some q =>
      rw [hl] at ha hb
      obtain ⟨x, h1, h2⟩ := hs q j b hb
      have ha : (f q)[j]? = some a := ha
      rw [h1] at ha; cases ha; exact h2
theorem sub_stV (l : List Stp) : Sub (stV l) (.sl 4 (l.map stC)) := by cases l <;> first | exact .nil | exact .rfl
theorem sub_cyQ (l : List Cyc) : Sub (.sl 4 (l.map cyQ)) (.sl 4 (l.map cyC)) := sub_rows cyQ cyC 4 (fun _ => rfl) (fun c j y hy => by
  match j with
  | 0 => exact ⟨_, rfl, by cases hy; exact .rfl⟩
  | 1 => exact ⟨_, rfl, by cases hy; exact .rfl⟩
  | 2 => exact ⟨_, rfl, by cases hy; exact .rfl⟩
  | 3 => exact ⟨_, rfl, by cases hy; exact sub_stV _⟩
  | j + 4 => exact nomatch hy) l
def goReads : Nat → List Cyc → List Int → List Cyc × List Int
  | 0, acc, l => (acc, l)
  | n + 1, acc, l => goReads n (acc ++ [⟨1, 0, sval l 7, []⟩]) (srest l 7)
def moreC (l : List Int) : Cyc × List Int := if sval l 3 = 0 then (⟨0, 0, 0, []⟩, srest l 3) else (⟨sval l 3, 1 + sval (srest l 3) 11, sval (srest (srest l 3) 11) 7, []⟩, srest (srest (srest l 3) 11) 7)
def goMore : Nat → List Cyc → List Int → List Cyc × List Int
  | 0, acc, l => (acc, l)
  | n + 1, acc, l => goMore n (acc ++ [(moreC l).1]) (moreC l).2
def goSteps : Nat → List Int → List Stp × List Int
  | 0, l => ([], l)
  | 1, l => ([(mkStep l).1], (mkStep l).2)
  | _ + 2, l => ([(mkStep l).1, (mkStep (mkStep l).2).1], (mkStep (mkStep l).2).2)
def goFill : List Cyc → List Cyc → List Int → List Cyc × List Int
  | [], acc, l => (acc, l)
  | c :: todo, acc, l => goFill todo (acc ++ [⟨c.bus, c.at_, c.reg, (goSteps (sval l 3).toNat (srest l 3)).1⟩]) (goSteps (sval l 3).toNat (srest l 3)).2
def mkReads (n : Nat) (l : List Int) : List Cyc × List Int := goReads n [] l
def mkMore (n : Nat) (l : List Int) : List Cyc × List Int := goMore (sval (mkReads n l).2 4).toNat (mkReads n l).1 (srest (mkReads n l).2 4)
def mkCycles (n : Nat) (l : List Int) : List Cyc × List Int := goFill (mkMore n l).1 [] (mkMore n l).2
theorem mk_snoc (acc : List Cyc) (c : Cyc) (hc : c.steps = []) : acc.map cyQ ++ [[I c.bus, I c.at_, I c.reg, .c (.slice none 0 0)]] = (acc ++ [c]).map cyQ := by
  obtain ⟨b, t, r, ss⟩ := c; dsimp only at hc; subst hc; rw [List.map_append]; rfl
theorem goReads_spec : ∀ (n : Nat) (acc : List Cyc) (l : List Int), (∀ c ∈ acc, c.steps = []) → (goReads n acc l).1.length = acc.length + n ∧ ∀ c ∈ (goReads n acc l).1, c.steps = [] := by
  intro n
  induction n with
  | zero => intro acc l h; exact ⟨rfl, h⟩
  | succ n ih =>
    intro acc l h
    obtain ⟨h1, h2⟩ := ih (acc ++ [⟨1, 0, sval l 7, []⟩]) (srest l 7) (by intro c hc; rcases List.mem_append.1 hc with hc | hc; exact h c hc; simp only [List.mem_singleton] at hc; subst hc; rfl)
    exact ⟨by show (goReads n _ _).1.length = _; rw [h1]; simp; omega, h2⟩
theorem moreC_nil (l : List Int) : (moreC l).1.steps = [] := by unfold moreC; split <;> rfl
theorem goMore_spec : ∀ (n : Nat) (acc : List Cyc) (l : List Int), (∀ c ∈ acc, c.steps = []) → (goMore n acc l).1.length = acc.length + n ∧ ∀ c ∈ (goMore n acc l).1, c.steps = [] := by
  intro n
  induction n with
  | zero => intro acc l h; exact ⟨rfl, h⟩
  | succ n ih =>
    intro acc l h
    obtain ⟨h1, h2⟩ := ih (acc ++ [(moreC l).1]) (moreC l).2 (by intro c hc; rcases List.mem_append.1 hc with hc | hc; exact h c hc; simp only [List.mem_singleton] at hc; subst hc; exact moreC_nil l)
    exact ⟨by show (goMore n _ _).1.length = _; rw [h1]; simp; omega, h2⟩
def rwQ (done todo : List Cyc) (b a r : Int) (x : V) : List (List V) := done.map cyQ ++ [I b, I a, I r, x] :: todo.map cyQ
theorem rwQ_get (dn td : List Cyc) (b a r : Int) (x : V) : (rwQ dn td b a r x)[dn.length]? = some [I b, I a, I r, x] := by
  unfold rwQ; rw [List.getElem?_append_right (by simp), List.length_map, Nat.sub_self]; rfl
theorem rwQ_set (dn td : List Cyc) (b a r : Int) (x y : V) : (rwQ dn td b a r x).set dn.length (spl [I b, I a, I r, x] 3 [y]) = rwQ dn td b a r y := by
  unfold rwQ; rw [List.set_append_right _ _ (by simp), List.length_map, Nat.sub_self]; rfl
theorem rwQ_out {h : List Blk} {ids : List Nat} {n v e : Nat} (dn td : List Cyc) (b a r : Int) (x : V) : outB h ids n ⟨v, e, rwQ dn td b a r x⟩ = ⟨v, e, rwQ dn td b a r (out h ids n x)⟩ := by
  simp only [outB, rwQ, List.map_append, List.map_cons]
  rw [flat_rows (fun _ => out_c) (fun _ _ => out_sl), flat_rows (fun _ => out_c) (fun _ _ => out_sl)]; rfl
theorem mkCycles_ok (n : Nat) (hn : n ≤ 2) (l0 : List Int) : FnE Try.prog 112 [.ptr 0 1 0 0, I n] [strB l0] (.sl 4 ((mkCycles n l0).1.map cyC)) [strB (mkCycles n l0).2] := by
  unfold mkCycles mkMore
  have hR := goReads_spec n [] l0 (by simp)
  generalize hr : mkReads n l0 = R at *
  unfold mkReads at hr
  rw [hr] at hR
  obtain ⟨R1, R2⟩ := R
  dsimp only at *
  have r4 := sval_range R2 4 (by decide)
  obtain ⟨q, hq⟩ : ∃ q : Nat, sval R2 4 = q := ⟨(sval R2 4).toNat, by omega⟩
  have hqn : (sval R2 4).toNat = q := by omega
  have hq3 : q ≤ 3 := by omega
  rw [hqn]
  have hM := goMore_spec q R1 (srest R2 4) hR.2
  generalize hm : goMore q R1 (srest R2 4) = M at *
  obtain ⟨M1, M2⟩ := M
  dsimp only at *
  generalize hf : goFill M1 [] M2 = F at *
  have hn4 := next_ok R2 4 (by decide)
  rw [hq] at hn4
  refine N.fn Try.func112 k112 lb q112 fun Q hQ hQN => ?_
  rw [c112]
  repeat' (first
  | refine N.regS fun K hK => ?_
  | refine N.dregS fun K hK => ?_
  | refine N.regN fun K hK => ?_
  | refine N.dregN fun K hK => ?_
  | simp only [T.mv, sm, AO.ev, put, lk, enter, reduceIte, Nat.reduceEqDiff, Nat.reduceAdd, Nat.reduceMul, Nat.reduceSub, Int.reduceNeg, Int.reduceToNat, upto, renB, setAll]
  | (refine T.nil ?_; (first | refine hK _ _ _ (by rfl) ?_ | refine hK _ _ _ ?_); (try simp only [keep, List.map, lk, reduceIte, Nat.reduceEqDiff, enter]); clear hK K)
  | (show WOpsT _ (⟨_, .ld _ _, none⟩ :: _) _ _ _ _; first | refine L.ld ?_ | refine L.ldd ?_ | refine L.ldn ?_ | refine L.lddn ?_)
  | (show WOpsT _ (⟨_, .idx _ _ _ _, none⟩ :: _) _ _ _ _; first | refine L.idx ?_ | refine L.idxs ?_)
  | (show WOpsT _ (⟨_, .bin _ _ _, none⟩ :: _) _ _ _ _; first | refine L.add ?_ | refine L.bin ?_)
  | (show AKW _ _ _ _ _ _ _; first | refine N.now ?_)
  | (show UK _ _ _ _ _ _ _ _; first | refine N.round ?_)
  | (show UC _ _ _ _ _ _ _ _; first | refine N.ucN ?_)
  | (show AK _ _ (.cond _ _ _) _ _ _ _; first | refine N.c1 ?_ | refine N.c2 ?_ | refine N.c3 ?_ | refine N.c4 ?_ | refine N.condD rfl (fun hcd => ?_) (fun hcd => ?_) | refine N.condB rfl (fun hcd => ?_) (fun hcd => ?_) | refine N.condU rfl ?_ ?_)
  | (show AK _ _ _ _ _ _ _; first | refine N.seq ?_ | refine N.block ?_ | refine N.skip ?_ | refine N.exit ?_ | refine N.ret ?_)
  | (show RK _ _ _ _ _ _ _; simp only [rk, rk0, reduceIte, Nat.reduceEqDiff])
  | (show WOpsT _ _ _ _ _ _; first | refine L.fad ?_ | refine L.fadd ?_ | refine L.st ?_ | refine L.zero ?_ | refine L.build ?_ | refine L.len ?_ | refine L.lenS ?_ | refine L.lenN ?_ | refine L.bsl ?_)
  | refine hQ _ _ _ rfl ?_
  | refine hQN _ _ _ rfl ?_)
  refine N.loop (σ := Nat × List Cyc × List Int) (fun s => [(0, .ptr 0 1 0 0), (5, .psl 1 (s.2.1.length + 1) 0 s.2.1.length), (8, I n), (9, I s.1)]) (fun s => [strB s.2.2, ⟨s.2.1.length + 1, 4, s.2.1.map cyQ⟩]) (fun s => s.1 ≤ n ∧ s.2.1.length = s.1 ∧ goReads (n - s.1) s.2.1 s.2.2 = (R1, R2)) (fun s => n - s.1) (0, [], l0) ⟨Nat.zero_le _, rfl, hr⟩ (Weaks.nilAs 5 4 (by decide) rfl (Weaks.sel (by repeat (first | exact trivial | refine ⟨.rfl, ?_⟩ | refine ⟨.any, ?_⟩)) rfl)) fun w hi K2 hC => ?_
  obtain ⟨i, acc, l⟩ := w
  obtain ⟨hi, hal, hst⟩ := hi
  dsimp only at hi hal hst hC ⊢
  by_cases hil : i < n
  · have hx := next_ok l 7 (by decide)
    rw [show n - i = n - (i + 1) + 1 by omega] at hst
    unfold goReads at hst
    generalize sval l 7 = v at *
    generalize srest l 7 = l2 at *
    have hsn := mk_snoc acc ⟨1, 0, v, []⟩ rfl
    have hl2 : (acc ++ [(⟨1, 0, v, []⟩ : Cyc)]).length = acc.length + 1 := by simp
    repeat' (first
    | (show WOpsT _ (⟨_, .app _ _ _ _, none⟩ :: _) _ _ _ _; refine T.app rfl rfl rfl ⟨by decide, by decide⟩ ⟨rfl, rfl, by rw [Nat.zero_add, List.length_map], by simp; omega⟩ ?_)
    | refine N.regS fun K hK => ?_
    | refine N.dregS fun K hK => ?_
    | refine N.regN fun K hK => ?_
    | refine N.dregN fun K hK => ?_
    | simp only [T.mv, sm, AO.ev, put, lk, enter, reduceIte, Nat.reduceEqDiff, Nat.reduceAdd, Nat.reduceMul, Nat.reduceSub, Int.reduceNeg, Int.reduceToNat, upto, renB, setAll]
    | (refine T.nil ?_; (first | refine hK _ _ _ (by rfl) ?_ | refine hK _ _ _ ?_); (try simp only [keep, List.map, lk, reduceIte, Nat.reduceEqDiff, enter]); clear hK K)
    | (show WOpsT _ (⟨_, .call _ _, none⟩ :: _) _ _ _ _; first | refine T.call1 0 e56 rfl rfl (hx) ?_)
    | (show WOpsT _ (⟨_, .ld _ _, none⟩ :: _) _ _ _ _; first | refine L.ld ?_ | refine L.ldd ?_ | refine L.ldn ?_ | refine L.lddn ?_)
    | (show WOpsT _ (⟨_, .idx _ _ _ _, none⟩ :: _) _ _ _ _; first | refine L.idx ?_ | refine L.idxs ?_)
    | (show WOpsT _ (⟨_, .bin _ _ _, none⟩ :: _) _ _ _ _; first | refine L.add ?_ | refine L.bin ?_)
    | (show AKW _ _ _ _ _ _ _; first | refine N.now ?_)
    | (show UK _ _ _ _ _ _ _ _; first | refine N.round ?_)
    | (show UC _ _ _ _ _ _ _ _; first | refine N.ucN ?_)
    | (show AK _ _ (.cond _ _ _) _ _ _ _; first | refine N.c1 ?_ | refine N.c2 ?_ | refine N.c3 ?_ | refine N.c4 ?_ | refine N.condD rfl (fun hcd => ?_) (fun hcd => ?_) | refine N.condB rfl (fun hcd => ?_) (fun hcd => ?_) | refine N.condU rfl ?_ ?_)
    | (show AK _ _ _ _ _ _ _; first | refine N.seq ?_ | refine N.block ?_ | refine N.skip ?_ | refine N.exit ?_ | refine N.ret ?_)
    | (show RK _ _ _ _ _ _ _; simp only [rk, rk0, reduceIte, Nat.reduceEqDiff])
    | (show WOpsT _ _ _ _ _ _; first | refine L.fad ?_ | refine L.fadd ?_ | refine L.st ?_ | refine L.zero ?_ | refine L.build ?_ | refine L.len ?_ | refine L.lenS ?_ | refine L.lenN ?_ | refine L.bsl ?_)
    | refine hQ _ _ _ rfl ?_
    | refine hQN _ _ _ rfl ?_)
    refine hC _ _ (i + 1, acc ++ [⟨1, 0, v, []⟩], l2) ⟨by dsimp only; omega, by dsimp only; omega, hst⟩ (by dsimp only; omega) ?_
    dsimp only at hsn ⊢
    rw [hl2, ← hsn]
    exact Weaks.gc [0, 1] 1 rfl (by repeat (first | exact trivial | refine ⟨.rfl, ?_⟩ | refine ⟨.any, ?_⟩)) (by show [_, _] = [_, outB _ _ _ ⟨acc.length + 1 + 1, 4, acc.map cyQ ++ [[I 1, I 0, I v, .c (.slice none 0 0)]]⟩]; rw [outB_flatA]; rfl)
  obtain rfl : i = n := by omega
  rw [Nat.sub_self] at hst
  unfold goReads at hst
  obtain ⟨rfl, rfl⟩ := Prod.mk.inj hst
  clear hC hst hr
  repeat' (first
  | refine N.regS fun K hK => ?_
  | refine N.dregS fun K hK => ?_
  | refine N.regN fun K hK => ?_
  | refine N.dregN fun K hK => ?_
  | simp only [T.mv, sm, AO.ev, put, lk, enter, reduceIte, Nat.reduceEqDiff, Nat.reduceAdd, Nat.reduceMul, Nat.reduceSub, Int.reduceNeg, Int.reduceToNat, upto, renB, setAll]
  | (refine T.nil ?_; (first | refine hK _ _ _ (by rfl) ?_ | refine hK _ _ _ ?_); (try simp only [keep, List.map, lk, reduceIte, Nat.reduceEqDiff, enter]); clear hK K)
  | (show WOpsT _ (⟨_, .call _ _, none⟩ :: _) _ _ _ _; first | refine T.call1 0 e56 rfl rfl (hn4) ?_)
  | (show WOpsT _ (⟨_, .ld _ _, none⟩ :: _) _ _ _ _; first | refine L.ld ?_ | refine L.ldd ?_ | refine L.ldn ?_ | refine L.lddn ?_)
  | (show WOpsT _ (⟨_, .idx _ _ _ _, none⟩ :: _) _ _ _ _; first | refine L.idx ?_ | refine L.idxs ?_)
  | (show WOpsT _ (⟨_, .bin _ _ _, none⟩ :: _) _ _ _ _; first | refine L.add ?_ | refine L.bin ?_)
  | (show AKW _ _ _ _ _ _ _; first | refine N.now ?_)
  | (show UK _ _ _ _ _ _ _ _; first | refine N.round ?_)
  | (show UC _ _ _ _ _ _ _ _; first | refine N.ucN ?_)
  | (show AK _ _ (.cond _ _ _) _ _ _ _; first | refine N.c1 ?_ | refine N.c2 ?_ | refine N.c3 ?_ | refine N.c4 ?_ | refine N.condD rfl (fun hcd => ?_) (fun hcd => ?_) | refine N.condB rfl (fun hcd => ?_) (fun hcd => ?_) | refine N.condU rfl ?_ ?_)
  | (show AK _ _ _ _ _ _ _; first | refine N.seq ?_ | refine N.block ?_ | refine N.skip ?_ | refine N.exit ?_ | refine N.ret ?_)
  | (show RK _ _ _ _ _ _ _; simp only [rk, rk0, reduceIte, Nat.reduceEqDiff])
  | (show WOpsT _ _ _ _ _ _; first | refine L.fad ?_ | refine L.fadd ?_ | refine L.st ?_ | refine L.zero ?_ | refine L.build ?_ | refine L.len ?_ | refine L.lenS ?_ | refine L.lenN ?_ | refine L.bsl ?_)
  | refine hQ _ _ _ rfl ?_
  | refine hQN _ _ _ rfl ?_)
  refine N.loop (σ := Nat × List Cyc × List Int) (fun s => [(0, .ptr 0 1 0 0), (5, .psl 1 (s.2.1.length + 1) 0 s.2.1.length), (19, I q), (20, I s.1)]) (fun s => [strB s.2.2, ⟨s.2.1.length + 1, 4, s.2.1.map cyQ⟩]) (fun s => s.1 ≤ q ∧ s.2.1.length = i + s.1 ∧ goMore (q - s.1) s.2.1 s.2.2 = (M1, M2)) (fun s => q - s.1) (0, acc, srest l 4) ⟨Nat.zero_le _, hal, hm⟩ (Weaks.sel (by repeat (first | exact trivial | refine ⟨.rfl, ?_⟩ | refine ⟨.any, ?_⟩)) rfl) fun w hi K2 hC => ?_
  obtain ⟨j, ac, l2⟩ := w
  obtain ⟨hj, hal2, hst⟩ := hi
  dsimp only at hj hal2 hst hC ⊢
  by_cases hjl : j < q
  · have hx := next_ok l2 3 (by decide)
    have hx1 := next_ok (srest l2 3) 11 (by decide)
    have hx2 := next_ok (srest (srest l2 3) 11) 7 (by decide)
    have r3 := sval_range l2 3 (by decide)
    have r11 := sval_range (srest l2 3) 11 (by decide)
    rw [show q - j = q - (j + 1) + 1 by omega] at hst
    unfold goMore at hst
    have hnil := moreC_nil l2
    generalize hmo : moreC l2 = mo at *
    unfold moreC at hmo
    generalize sval l2 3 = v at *
    generalize srest l2 3 = l3 at *
    generalize sval l3 11 = v1 at *
    generalize srest l3 11 = l4 at *
    generalize sval l4 7 = v2 at *
    generalize srest l4 7 = l5 at *
    have hl2 : (ac ++ [mo.1]).length = ac.length + 1 := by simp
    have hsn := mk_snoc ac mo.1 hnil
    repeat' (first
    | (show WOpsT _ (⟨_, .app _ _ _ _, none⟩ :: _) _ _ _ _; refine T.app rfl rfl rfl ⟨by decide, by decide⟩ ⟨rfl, rfl, by rw [Nat.zero_add, List.length_map], by simp; omega⟩ ?_)
    | refine N.regS fun K hK => ?_
    | refine N.dregS fun K hK => ?_
    | refine N.regN fun K hK => ?_
    | refine N.dregN fun K hK => ?_
    | simp only [T.mv, sm, AO.ev, put, lk, enter, reduceIte, Nat.reduceEqDiff, Nat.reduceAdd, Nat.reduceMul, Nat.reduceSub, Int.reduceNeg, Int.reduceToNat, upto, renB, setAll]
    | (refine T.nil ?_; (first | refine hK _ _ _ (by rfl) ?_ | refine hK _ _ _ ?_); (try simp only [keep, List.map, lk, reduceIte, Nat.reduceEqDiff, enter]); clear hK K)
    | (show WOpsT _ (⟨_, .call _ _, none⟩ :: _) _ _ _ _; first | refine T.call1 0 e56 rfl rfl (hx) ?_ | refine T.call1 0 e56 rfl rfl (hx1) ?_ | refine T.call1 0 e56 rfl rfl (hx2) ?_)
    | (show WOpsT _ (⟨_, .ld _ _, none⟩ :: _) _ _ _ _; first | refine L.ld ?_ | refine L.ldd ?_ | refine L.ldn ?_ | refine L.lddn ?_)
    | (show WOpsT _ (⟨_, .idx _ _ _ _, none⟩ :: _) _ _ _ _; first | refine L.idx ?_ | refine L.idxs ?_)
    | (show WOpsT _ (⟨_, .bin _ _ _, none⟩ :: _) _ _ _ _; first | refine L.add ?_ | refine L.bin ?_)
    | (show AKW _ _ _ _ _ _ _; first | refine N.now ?_)
    | (show UK _ _ _ _ _ _ _ _; first | refine N.round ?_)
    | (show UC _ _ _ _ _ _ _ _; first | refine N.ucN ?_)
    | (show AK _ _ (.cond _ _ _) _ _ _ _; first | refine N.c1 ?_ | refine N.c2 ?_ | refine N.c3 ?_ | refine N.c4 ?_ | refine N.condD rfl (fun hcd => ?_) (fun hcd => ?_) | refine N.condB rfl (fun hcd => ?_) (fun hcd => ?_) | refine N.condU rfl ?_ ?_)
    | (show AK _ _ _ _ _ _ _; first | refine N.seq ?_ | refine N.block ?_ | refine N.skip ?_ | refine N.exit ?_ | refine N.ret ?_)
    | (show RK _ _ _ _ _ _ _; simp only [rk, rk0, reduceIte, Nat.reduceEqDiff])
    | (show WOpsT _ _ _ _ _ _; first | refine L.fad ?_ | refine L.fadd ?_ | refine L.st ?_ | refine L.zero ?_ | refine L.build ?_ | refine L.len ?_ | refine L.lenS ?_ | refine L.lenN ?_ | refine L.bsl ?_)
    | refine hQ _ _ _ rfl ?_
    | refine hQN _ _ _ rfl ?_)
    · rw [if_neg (by omega)] at hmo
      subst hmo
      refine hC _ _ (j + 1, ac ++ [⟨v, 1 + v1, v2, []⟩], l5) ⟨by dsimp only; omega, by dsimp only at hl2 ⊢; omega, hst⟩ (by dsimp only; omega) ?_
      dsimp only at hsn hl2 ⊢
      rw [hl2, ← hsn]
      exact Weaks.gc [0, 1] 1 rfl (by repeat (first | exact trivial | refine ⟨.rfl, ?_⟩ | refine ⟨.any, ?_⟩)) (by show [_, _] = [_, outB _ _ _ ⟨ac.length + 1 + 1, 4, ac.map cyQ ++ [[I v, I (1 + v1), I v2, .c (.slice none 0 0)]]⟩]; rw [outB_flatA]; rfl)
    · obtain rfl : v = 0 := by omega
      rw [if_pos rfl] at hmo
      subst hmo
      refine hC _ _ (j + 1, ac ++ [⟨0, 0, 0, []⟩], l3) ⟨by dsimp only; omega, by dsimp only at hl2 ⊢; omega, hst⟩ (by dsimp only; omega) ?_
      dsimp only at hsn hl2 ⊢
      rw [hl2, ← hsn]
      exact Weaks.gc [0, 1] 1 rfl (by repeat (first | exact trivial | refine ⟨.rfl, ?_⟩ | refine ⟨.any, ?_⟩)) (by show [_, _] = [_, outB _ _ _ ⟨ac.length + 1 + 1, 4, ac.map cyQ ++ [[I 0, I 0, I 0, .c (.slice none 0 0)]]⟩]; rw [outB_flatA]; rfl)
  obtain rfl : j = q := by omega
  rw [Nat.sub_self] at hst
  unfold goMore at hst
  obtain ⟨rfl, rfl⟩ := Prod.mk.inj hst
  clear hC hst hm
  repeat' (first
  | refine N.regS fun K hK => ?_
  | refine N.dregS fun K hK => ?_
  | refine N.regN fun K hK => ?_
  | refine N.dregN fun K hK => ?_
  | simp only [T.mv, sm, AO.ev, put, lk, enter, reduceIte, Nat.reduceEqDiff, Nat.reduceAdd, Nat.reduceMul, Nat.reduceSub, Int.reduceNeg, Int.reduceToNat, upto, renB, setAll]
  | (refine T.nil ?_; (first | refine hK _ _ _ (by rfl) ?_ | refine hK _ _ _ ?_); (try simp only [keep, List.map, lk, reduceIte, Nat.reduceEqDiff, enter]); clear hK K)
  | (show WOpsT _ (⟨_, .ld _ _, none⟩ :: _) _ _ _ _; first | refine L.ld ?_ | refine L.ldd ?_ | refine L.ldn ?_ | refine L.lddn ?_)
  | (show WOpsT _ (⟨_, .idx _ _ _ _, none⟩ :: _) _ _ _ _; first | refine L.idx ?_ | refine L.idxs ?_)
  | (show WOpsT _ (⟨_, .bin _ _ _, none⟩ :: _) _ _ _ _; first | refine L.add ?_ | refine L.bin ?_)
  | (show AKW _ _ _ _ _ _ _; first | refine N.now ?_)
  | (show UK _ _ _ _ _ _ _ _; first | refine N.round ?_)
  | (show UC _ _ _ _ _ _ _ _; first | refine N.ucN ?_)
  | (show AK _ _ (.cond _ _ _) _ _ _ _; first | refine N.c1 ?_ | refine N.c2 ?_ | refine N.c3 ?_ | refine N.c4 ?_ | refine N.condD rfl (fun hcd => ?_) (fun hcd => ?_) | refine N.condB rfl (fun hcd => ?_) (fun hcd => ?_) | refine N.condU rfl ?_ ?_)
  | (show AK _ _ _ _ _ _ _; first | refine N.seq ?_ | refine N.block ?_ | refine N.skip ?_ | refine N.exit ?_ | refine N.ret ?_)
  | (show RK _ _ _ _ _ _ _; simp only [rk, rk0, reduceIte, Nat.reduceEqDiff])
  | (show WOpsT _ _ _ _ _ _; first | refine L.fad ?_ | refine L.fadd ?_ | refine L.st ?_ | refine L.zero ?_ | refine L.build ?_ | refine L.len ?_ | refine L.lenS ?_ | refine L.lenN ?_ | refine L.bsl ?_)
  | refine hQ _ _ _ rfl ?_
  | refine hQN _ _ _ rfl ?_)
  obtain ⟨hM1, hM2⟩ := hM
  clear hR hn4 hq hqn r4
  refine N.loop (σ := List Cyc × List Cyc × List Int) (fun s => [(0, .ptr 0 1 0 0), (5, .psl 1 (ac.length + 1) 0 ac.length), (41, I ac.length), (42, I s.1.length)]) (fun s => [strB s.2.2, ⟨ac.length + 1, 4, s.1.map cyQ ++ s.2.1.map cyQ⟩]) (fun s => s.1.length + s.2.1.length = ac.length ∧ (∀ c ∈ s.2.1, c.steps = []) ∧ goFill s.2.1 s.1 s.2.2 = F) (fun s => s.2.1.length) ([], ac, l2) ⟨by simp, hM2, hf⟩ (Weaks.sel (by repeat (first | exact trivial | refine ⟨.rfl, ?_⟩ | refine ⟨.any, ?_⟩)) rfl) fun w hi K2 hC => ?_
  obtain ⟨dn, td, l⟩ := w
  obtain ⟨hlen, hnil, hst⟩ := hi
  dsimp only at hlen hnil hst hC ⊢
  cases td with
  | nil =>
    rw [List.length_nil, Nat.add_zero] at hlen
    unfold goFill at hst
    subst hst
    rw [← hlen]
    repeat' (first
    | refine N.regS fun K hK => ?_
    | refine N.dregS fun K hK => ?_
    | refine N.regN fun K hK => ?_
    | refine N.dregN fun K hK => ?_
    | simp only [T.mv, sm, AO.ev, put, lk, enter, reduceIte, Nat.reduceEqDiff, Nat.reduceAdd, Nat.reduceMul, Nat.reduceSub, Int.reduceNeg, Int.reduceToNat, upto, renB, setAll]
    | (refine T.nil ?_; (first | refine hK _ _ _ (by rfl) ?_ | refine hK _ _ _ ?_); (try simp only [keep, List.map, lk, reduceIte, Nat.reduceEqDiff, enter]); clear hK K)
    | (show WOpsT _ (⟨_, .ld _ _, none⟩ :: _) _ _ _ _; first | refine L.ld ?_ | refine L.ldd ?_ | refine L.ldn ?_ | refine L.lddn ?_)
    | (show WOpsT _ (⟨_, .idx _ _ _ _, none⟩ :: _) _ _ _ _; first | refine L.idx ?_ | refine L.idxs ?_)
    | (show WOpsT _ (⟨_, .bin _ _ _, none⟩ :: _) _ _ _ _; first | refine L.add ?_ | refine L.bin ?_)
    | (show AKW _ _ _ _ _ _ _; first | refine N.now ?_)
    | (show UK _ _ _ _ _ _ _ _; first | refine N.round ?_)
    | (show UC _ _ _ _ _ _ _ _; first | refine N.ucN ?_)
    | (show AK _ _ (.cond _ _ _) _ _ _ _; first | refine N.c1 ?_ | refine N.c2 ?_ | refine N.c3 ?_ | refine N.c4 ?_ | refine N.condD rfl (fun hcd => ?_) (fun hcd => ?_) | refine N.condB rfl (fun hcd => ?_) (fun hcd => ?_) | refine N.condU rfl ?_ ?_)
    | (show AK _ _ _ _ _ _ _; first | refine N.seq ?_ | refine N.block ?_ | refine N.skip ?_ | refine N.exit ?_ | refine N.ret ?_)
    | (show RK _ _ _ _ _ _ _; simp only [rk, rk0, reduceIte, Nat.reduceEqDiff])
    | (show WOpsT _ _ _ _ _ _; first | refine L.fad ?_ | refine L.fadd ?_ | refine L.st ?_ | refine L.zero ?_ | refine L.build ?_ | refine L.len ?_ | refine L.lenS ?_ | refine L.lenN ?_ | refine L.bsl ?_)
    | refine hQ _ _ _ rfl ?_
    | refine hQN _ _ _ rfl ?_)
    exact WS.gc [0] 1 rfl rfl (by show Sub (out _ [0] 1 (.psl 1 (dn.length + 1) 0 dn.length)) _; rw [out_rowsK (f := cyQ) rfl rfl (Nat.le_refl _)]; exact sub_cyQ _)
  | cons c td =>
    obtain ⟨b, a, r, ss⟩ := c
    have hss : ss = [] := hnil _ (List.mem_cons_self ..)
    subst hss
    rw [List.length_cons] at hlen
    unfold goFill at hst
    have e0 : dn.map cyQ ++ ((⟨b, a, r, []⟩ : Cyc) :: td).map cyQ = rwQ dn td b a r (.c (.slice none 0 0)) := rfl
    rw [e0]
    have e3 : 0 + (dn.length : Int).toNat = dn.length := by omega
    have hd7 : dn.length + 1 ≤ 7 := by omega
    have hx := next_ok l 3 (by decide)
    have r3 := sval_range l 3 (by decide)
    have hs1 := mkStep_ok (srest l 3)
    have hs2 := mkStep_ok (mkStep (srest l 3)).2
    generalize srest l 3 = l3 at *
    generalize hn3 : sval l 3 = n3 at *
    have hdn : ∀ ss : List Stp, (dn ++ [(⟨b, a, r, ss⟩ : Cyc)]).length = dn.length + 1 := fun ss => by simp
    have hfin : ∀ ss : List Stp, (dn ++ [(⟨b, a, r, ss⟩ : Cyc)]).map cyQ ++ td.map cyQ = rwQ dn td b a r (stV ss) := fun ss => by rw [List.map_append, List.append_assoc]; rfl
    obtain rfl | rfl | rfl : n3 = 0 ∨ n3 = 1 ∨ n3 = 2 := by omega
    · skip
      repeat' (first
      | (show AK _ _ (.loop _) _ _ _ _; refine N.unroll 1 ?_)
      | refine N.regS fun K hK => ?_
      | refine N.dregS fun K hK => ?_
      | refine N.regN fun K hK => ?_
      | refine N.dregN fun K hK => ?_
      | simp only [T.mv, sm, AO.ev, put, lk, enter, reduceIte, Nat.reduceEqDiff, Nat.reduceAdd, Nat.reduceMul, Nat.reduceSub, Int.reduceNeg, Int.reduceToNat, upto, renB, setAll]
      | (refine T.nil ?_; (first | refine hK _ _ _ (by rfl) ?_ | refine hK _ _ _ ?_); (try simp only [keep, List.map, lk, reduceIte, Nat.reduceEqDiff, enter]); clear hK K)
      | (show WOpsT _ (⟨_, .call _ _, none⟩ :: _) _ _ _ _; first | refine T.call1 0 e56 rfl rfl (hx) ?_)
      | (show WOpsT _ (⟨_, .ld _ _, none⟩ :: _) _ _ _ _; first | refine L.ld ?_ | refine L.ldd ?_ | refine L.ldn ?_ | refine L.lddn ?_)
      | (show WOpsT _ (⟨_, .idx _ _ _ _, none⟩ :: _) _ _ _ _; first | refine L.idx ?_ | refine L.idxs ?_)
      | (show WOpsT _ (⟨_, .bin _ _ _, none⟩ :: _) _ _ _ _; first | refine L.add ?_ | refine L.bin ?_)
      | (show AKW _ _ _ _ _ _ _; first | refine N.now ?_)
      | (show UK _ _ _ _ _ _ _ _; first | refine N.round ?_)
      | (show UC _ _ _ _ _ _ _ _; first | refine N.ucN ?_)
      | (show AK _ _ (.cond _ _ _) _ _ _ _; first | refine N.c1 ?_ | refine N.c2 ?_ | refine N.c3 ?_ | refine N.c4 ?_ | refine N.condD rfl (fun hcd => ?_) (fun hcd => ?_) | refine N.condB rfl (fun hcd => ?_) (fun hcd => ?_) | refine N.condU rfl ?_ ?_)
      | (show AK _ _ _ _ _ _ _; first | refine N.seq ?_ | refine N.block ?_ | refine N.skip ?_ | refine N.exit ?_ | refine N.ret ?_)
      | (show RK _ _ _ _ _ _ _; simp only [rk, rk0, reduceIte, Nat.reduceEqDiff])
      | (show WOpsT _ _ _ _ _ _; first | refine L.fad ?_ | refine L.fadd ?_ | refine L.st ?_ | refine L.zero ?_ | refine L.build ?_ | refine L.len ?_ | refine L.lenS ?_ | refine L.lenN ?_ | refine L.bsl ?_)
      | refine hQ _ _ _ rfl ?_
      | refine hQN _ _ _ rfl ?_)
      refine hC _ _ (dn ++ [⟨b, a, r, []⟩], td, l3) ⟨by dsimp only; rw [hdn]; omega, fun c hc => hnil c (List.mem_cons_of_mem _ hc), hst⟩ (by dsimp only; rw [List.length_cons]; omega) ?_
      dsimp only
      rw [hdn, hfin]
      exact Weaks.gc [0, 1] 1 rfl (by repeat (first | exact trivial | refine ⟨.rfl, ?_⟩ | refine ⟨.any, ?_⟩)) (by show [_, _] = [_, outB _ _ _ ⟨ac.length + 1, 4, rwQ dn td b a r _⟩]; rw [rwQ_out]; rfl)
    · generalize hk : mkStep l3 = k1 at *
      obtain ⟨s1, l4⟩ := k1
      dsimp only at *
      repeat' (first
      | (show AK _ _ (.loop _) _ _ _ _; refine N.unroll 2 ?_)
      | rw [e3]
      | (show WOpsT _ (⟨_, .ld _ _, none⟩ :: _) _ _ _ _; refine T.ld rfl rfl rfl (rwQ_get dn td b a r _) rfl ?_)
      | (show WOpsT _ (⟨_, .app _ _ _ _, none⟩ :: _) _ _ _ _; refine T.appN rfl rfl ⟨by decide, by decide⟩ (by simp) (by simp) ?_)
      | (show WOpsT _ (⟨_, .st _ _ _, none⟩ :: _) _ _ _ _; refine T.st rfl rfl (vcells_psl rfl rfl) ⟨rfl, rfl⟩ (rwQ_get dn td b a r _) (Nat.le_of_ble_eq_true rfl) ?_)
      | rw [rwQ_set]
      | refine N.regS fun K hK => ?_
      | refine N.dregS fun K hK => ?_
      | refine N.regN fun K hK => ?_
      | refine N.dregN fun K hK => ?_
      | simp only [T.mv, sm, AO.ev, put, lk, enter, reduceIte, Nat.reduceEqDiff, Nat.reduceAdd, Nat.reduceMul, Nat.reduceSub, Int.reduceNeg, Int.reduceToNat, upto, renB, setAll]
      | (refine T.nil ?_; (first | refine hK _ _ _ (by rfl) ?_ | refine hK _ _ _ ?_); (try simp only [keep, List.map, lk, reduceIte, Nat.reduceEqDiff, enter]); clear hK K)
      | (show WOpsT _ (⟨_, .call _ _, none⟩ :: _) _ _ _ _; first | refine T.call1 0 e56 rfl rfl (hx) ?_ | refine T.call1 0 e163 rfl rfl (hs1) ?_)
      | (show WOpsT _ (⟨_, .ld _ _, none⟩ :: _) _ _ _ _; first | refine L.ld ?_ | refine L.ldd ?_ | refine L.ldn ?_ | refine L.lddn ?_)
      | (show WOpsT _ (⟨_, .idx _ _ _ _, none⟩ :: _) _ _ _ _; first | refine L.idx ?_ | refine L.idxs ?_)
      | (show WOpsT _ (⟨_, .bin _ _ _, none⟩ :: _) _ _ _ _; first | refine L.add ?_ | refine L.bin ?_)
      | (show AKW _ _ _ _ _ _ _; first | refine N.now ?_)
      | (show UK _ _ _ _ _ _ _ _; first | refine N.round ?_)
      | (show UC _ _ _ _ _ _ _ _; first | refine N.ucN ?_)
      | (show AK _ _ (.cond _ _ _) _ _ _ _; first | refine N.c1 ?_ | refine N.c2 ?_ | refine N.c3 ?_ | refine N.c4 ?_ | refine N.condD rfl (fun hcd => ?_) (fun hcd => ?_) | refine N.condB rfl (fun hcd => ?_) (fun hcd => ?_) | refine N.condU rfl ?_ ?_)
      | (show AK _ _ _ _ _ _ _; first | refine N.seq ?_ | refine N.block ?_ | refine N.skip ?_ | refine N.exit ?_ | refine N.ret ?_)
      | (show RK _ _ _ _ _ _ _; simp only [rk, rk0, reduceIte, Nat.reduceEqDiff])
      | (show WOpsT _ _ _ _ _ _; first | refine L.fad ?_ | refine L.fadd ?_ | refine L.st ?_ | refine L.zero ?_ | refine L.build ?_ | refine L.len ?_ | refine L.lenS ?_ | refine L.lenN ?_ | refine L.bsl ?_)
      | refine hQ _ _ _ rfl ?_
      | refine hQN _ _ _ rfl ?_)
      refine hC _ _ (dn ++ [⟨b, a, r, [s1]⟩], td, l4) ⟨by dsimp only; rw [hdn]; omega, fun c hc => hnil c (List.mem_cons_of_mem _ hc), by dsimp only [goSteps] at hst; rw [← hst, show (1 : Int).toNat = 1 from rfl]; dsimp only [goSteps]; rw [hk]⟩ (by dsimp only; rw [List.length_cons]; omega) ?_
      dsimp only
      rw [hdn, hfin]
      exact Weaks.gc [0, 1] 1 rfl (by repeat (first | exact trivial | refine ⟨.rfl, ?_⟩ | refine ⟨.any, ?_⟩)) (by show [_, _] = [_, outB _ _ _ ⟨ac.length + 1, 4, rwQ dn td b a r (.psl 3 1 0 1)⟩]; rw [rwQ_out]; rfl)
    · generalize hk : mkStep l3 = k1 at *
      obtain ⟨s1, l4⟩ := k1
      dsimp only at *
      generalize hk2 : mkStep l4 = k2 at *
      obtain ⟨s2, l5⟩ := k2
      dsimp only at *
      repeat' (first
      | (show AK _ _ (.loop _) _ _ _ _; refine N.unroll 3 ?_)
      | rw [e3]
      | (show WOpsT _ (⟨_, .ld _ _, none⟩ :: _) _ _ _ _; refine T.ld rfl rfl rfl (rwQ_get dn td b a r _) rfl ?_)
      | (show WOpsT _ (⟨_, .app _ _ _ _, none⟩ :: _) _ _ _ _; refine T.appN rfl rfl ⟨by decide, by decide⟩ (by simp) (by simp) ?_)
      | (show WOpsT _ (⟨_, .app _ _ _ _, none⟩ :: _) _ _ _ _; refine T.app rfl rfl rfl ⟨by decide, by decide⟩ ⟨rfl, rfl, rfl, by simp⟩ ?_)
      | (show WOpsT _ (⟨_, .st _ _ _, none⟩ :: _) _ _ _ _; refine T.st rfl rfl (vcells_psl rfl rfl) ⟨rfl, rfl⟩ (rwQ_get dn td b a r _) (Nat.le_of_ble_eq_true rfl) ?_)
      | rw [rwQ_set]
      | refine N.regS fun K hK => ?_
      | refine N.dregS fun K hK => ?_
      | refine N.regN fun K hK => ?_
      | refine N.dregN fun K hK => ?_
      | simp only [T.mv, sm, AO.ev, put, lk, enter, reduceIte, Nat.reduceEqDiff, Nat.reduceAdd, Nat.reduceMul, Nat.reduceSub, Int.reduceNeg, Int.reduceToNat, upto, renB, setAll]
      | (refine T.nil ?_; (first | refine hK _ _ _ (by rfl) ?_ | refine hK _ _ _ ?_); (try simp only [keep, List.map, lk, reduceIte, Nat.reduceEqDiff, enter]); clear hK K)
      | (show WOpsT _ (⟨_, .call _ _, none⟩ :: _) _ _ _ _; first | refine T.call1 0 e56 rfl rfl (hx) ?_ | refine T.call1 0 e163 rfl rfl (hs1) ?_ | refine T.call1 0 e163 rfl rfl (hs2) ?_)
      | (show WOpsT _ (⟨_, .ld _ _, none⟩ :: _) _ _ _ _; first | refine L.ld ?_ | refine L.ldd ?_ | refine L.ldn ?_ | refine L.lddn ?_)
      | (show WOpsT _ (⟨_, .idx _ _ _ _, none⟩ :: _) _ _ _ _; first | refine L.idx ?_ | refine L.idxs ?_)
      | (show WOpsT _ (⟨_, .bin _ _ _, none⟩ :: _) _ _ _ _; first | refine L.add ?_ | refine L.bin ?_)
      | (show AKW _ _ _ _ _ _ _; first | refine N.now ?_)
      | (show UK _ _ _ _ _ _ _ _; first | refine N.round ?_)
      | (show UC _ _ _ _ _ _ _ _; first | refine N.ucN ?_)
      | (show AK _ _ (.cond _ _ _) _ _ _ _; first | refine N.c1 ?_ | refine N.c2 ?_ | refine N.c3 ?_ | refine N.c4 ?_ | refine N.condD rfl (fun hcd => ?_) (fun hcd => ?_) | refine N.condB rfl (fun hcd => ?_) (fun hcd => ?_) | refine N.condU rfl ?_ ?_)
      | (show AK _ _ _ _ _ _ _; first | refine N.seq ?_ | refine N.block ?_ | refine N.skip ?_ | refine N.exit ?_ | refine N.ret ?_)
      | (show RK _ _ _ _ _ _ _; simp only [rk, rk0, reduceIte, Nat.reduceEqDiff])
      | (show WOpsT _ _ _ _ _ _; first | refine L.fad ?_ | refine L.fadd ?_ | refine L.st ?_ | refine L.zero ?_ | refine L.build ?_ | refine L.len ?_ | refine L.lenS ?_ | refine L.lenN ?_ | refine L.bsl ?_)
      | refine hQ _ _ _ rfl ?_
      | refine hQN _ _ _ rfl ?_)
      refine hC _ _ (dn ++ [⟨b, a, r, [s1, s2]⟩], td, l5) ⟨by dsimp only; rw [hdn]; omega, fun c hc => hnil c (List.mem_cons_of_mem _ hc), by rw [← hst, show (2 : Int).toNat = 2 from rfl]; dsimp only [goSteps]; rw [hk]; dsimp only; rw [hk2]⟩ (by dsimp only; rw [List.length_cons]; omega) ?_
      dsimp only
      rw [hdn, hfin]
      exact Weaks.gc [0, 1] 1 rfl (by repeat (first | exact trivial | refine ⟨.rfl, ?_⟩ | refine ⟨.any, ?_⟩)) (by show [_, _] = [_, outB _ _ _ ⟨ac.length + 1, 4, rwQ dn td b a r (.psl 3 2 0 2)⟩]; rw [rwQ_out]; rfl)
end Go.Proofs.Ytjmmompbmjhkpaa.Calc

namespace Go.Proofs.Ytjmmompbmjhkpaa.Calc
open Go Code
set_option linter.unusedSimpArgs false
set_option linter.unusedVariables false
set_option maxRecDepth 20000
set_option maxHeartbeats 4000000
attribute [local irreducible] WOpsT AW AK RK AKW UK UC
def rdN (m : Nat) : Nat := [0, 1, 1, 1, 2, 2, 2, 1, 1].getD m 0
def nameI (i : Int) : ByteArray := (⟨#[105, 110, 45]⟩ : ByteArray) ++ Utf8.encode (97 + i)
def nameC (i : Int) : ByteArray := (⟨#[99, 112, 117, 45]⟩ : ByteArray) ++ Utf8.encode (97 + i)
def mkIn (i : Nat) (at_ : Int) (l : List Int) : Ins := ⟨at_ + (1 + sval l 30) - 1, nameI i, sval (srest l 30) 9, (mkCycles (rdN (sval (srest l 30) 9).toNat) (srest (srest l 30) 9)).1⟩
def mkInR (l : List Int) : List Int := (mkCycles (rdN (sval (srest l 30) 9).toNat) (srest (srest l 30) 9)).2
def goIns : Nat → Nat → Int → List Ins → List Int → List Ins × List Int
  | 0, _, _, acc, l => (acc, l)
  | n + 1, i, at_, acc, l => goIns n (i + 1) (at_ + (1 + sval l 30)) (acc ++ [mkIn i at_ l]) (mkInR l)
def mkInsL (l : List Int) : List Ins × List Int := goIns (1 + sval (srest l 26) 8).toNat 0 0 [] (srest (srest l 26) 8)
def mkCpu (l : List Int) : Cpu := ⟨nameC (sval l 26), (mkInsL l).1, (mkCycles 0 (mkInsL l).2).1, (mkCycles 0 (mkCycles 0 (mkInsL l).2).2).1, (mkCycles 0 (mkCycles 0 (mkCycles 0 (mkInsL l).2).2).2).1⟩
def insV (acc : List Ins) : V := match acc with
  | [] => .c (.slice none 0 0)
  | a :: acc => .psl 3 (a :: acc).length 0 (a :: acc).length
def insH (acc : List Ins) : List Blk := match acc with
  | [] => []
  | a :: acc => [⟨(a :: acc).length, 4, (a :: acc).map inC⟩]
theorem wrap_i32 (n : Int) (h : 0 ≤ n ∧ n < 1000) : IntKind.wrap .i32 n = n := by
  simp [IntKind.wrap, IntKind.signed, IntKind.bits]; omega
theorem enc_size : ∀ v : Nat, v < 26 → (Utf8.encode (97 + (v : Int))).size = 1 := by decide +kernel
theorem cat_ok (a : ByteArray) (ha : a.size ≤ 10) (v : Int) (hv : 0 ≤ v ∧ v < 26) : binV .add (.string a) (.string (Utf8.encode (97 + v))) = some (.string (a ++ Utf8.encode (97 + v))) := by
  have := enc_size v.toNat (by omega)
  rw [show ((v.toNat : Nat) : Int) = v by omega] at this
  simp only [binV]
  rw [if_pos (by omega)]
theorem rows9 (m : Nat) (h : m < 9) : ([[I 0], [I 1], [I 1], [I 1], [I 2], [I 2], [I 2], [I 1], [I 1]] : List (List V))[m]? = some [I (rdN m : Nat)] := by
  match m with
  | 0 => rfl
  | 1 => rfl
  | 2 => rfl
  | 3 => rfl
  | 4 => rfl
  | 5 => rfl
  | 6 => rfl
  | 7 => rfl
  | 8 => rfl
theorem rdN_le (m : Nat) : rdN m ≤ 2 := by
  match m with
  | 0 => decide
  | 1 => decide
  | 2 => decide
  | 3 => decide
  | 4 => decide
  | 5 => decide
  | 6 => decide
  | 7 => decide
  | 8 => decide
  | m + 9 => exact Nat.zero_le _
theorem mkCpu_ok (l0 : List Int) : FnE Try.prog 58 [.sl 1 (cells l0)] [] (.agg (cpC (mkCpu l0))) [] := by
  have hn1 := next_ok l0 26 (by decide)
  have hn2 := next_ok (srest l0 26) 8 (by decide)
  have r1 := sval_range l0 26 (by decide)
  have r2 := sval_range (srest l0 26) 8 (by decide)
  have w1 : IntKind.wrap .i32 (97 + sval l0 26) = 97 + sval l0 26 := wrap_i32 _ (by omega)
  have hcpu : mkCpu l0 = mkCpu l0 := rfl
  unfold mkCpu at hcpu ⊢
  obtain ⟨N0, hN⟩ : ∃ N0 : Nat, 1 + sval (srest l0 26) 8 = (N0 : Int) := ⟨(1 + sval (srest l0 26) 8).toNat, by omega⟩
  generalize hI : mkInsL l0 = IR at *
  unfold mkInsL at hI
  rw [hN, Int.toNat_natCast] at hI
  obtain ⟨I1, I2⟩ := IR
  dsimp only
  clear hcpu
  have hc1 := mkCycles_ok 0 (by decide) I2
  generalize mkCycles 0 I2 = C1 at *
  obtain ⟨c1, m1⟩ := C1
  have hc2 := mkCycles_ok 0 (by decide) m1
  dsimp only at hc1 ⊢
  generalize mkCycles 0 m1 = C2 at *
  obtain ⟨c2, m2⟩ := C2
  have hc3 := mkCycles_ok 0 (by decide) m2
  dsimp only at hc2 ⊢
  generalize mkCycles 0 m2 = C3 at *
  obtain ⟨c3, m3⟩ := C3
  dsimp only at hc3 ⊢
  have hnm : binV .add (.string ⟨#[99, 112, 117, 45]⟩) (.string (Utf8.encode (97 + sval l0 26))) = some (.string (nameC (sval l0 26))) := cat_ok _ (by decide) _ r1
  generalize srest (srest l0 26) 8 = l8 at *
  refine N.fn Try.func58 k58 lb q58 fun Q hQ hQN => ?_
  rw [c58]
  repeat' (first
  | rw [w1]
  | (show WOpsT _ (⟨_, .bin .add (.k (.string _)) _, none⟩ :: _) _ _ _ _; refine T.bin rfl rfl hnm ?_)
  | rw [hN]
  | refine N.regS fun K hK => ?_
  | refine N.dregS fun K hK => ?_
  | refine N.regN fun K hK => ?_
  | refine N.dregN fun K hK => ?_
  | simp only [T.mv, sm, AO.ev, put, lk, enter, reduceIte, Nat.reduceEqDiff, Nat.reduceAdd, Nat.reduceMul, Nat.reduceSub, Int.reduceNeg, Int.reduceToNat, upto, renB, setAll]
  | (refine T.nil ?_; (first | refine hK _ _ _ (by rfl) ?_ | refine hK _ _ _ ?_); (try simp only [keep, List.map, lk, reduceIte, Nat.reduceEqDiff, enter]); clear hK K)
  | (show WOpsT _ (⟨_, .call _ _, none⟩ :: _) _ _ _ _; first | refine T.call1 1 e56 rfl rfl (hn1) ?_ | refine T.call1 1 e56 rfl rfl (hn2) ?_)
  | (show WOpsT _ (⟨_, .ld _ _, none⟩ :: _) _ _ _ _; first | refine L.ld ?_ | refine L.ldd ?_ | refine L.ldn ?_ | refine L.lddn ?_)
  | (show WOpsT _ (⟨_, .idx _ _ _ _, none⟩ :: _) _ _ _ _; first | refine L.idx ?_ | refine L.idxs ?_)
  | (show WOpsT _ (⟨_, .bin _ _ _, none⟩ :: _) _ _ _ _; first | refine L.add ?_ | refine L.sub ?_ | refine L.bin ?_)
  | (show AKW _ _ _ _ _ _ _; first | refine N.now ?_)
  | (show AK _ _ (.cond _ _ _) _ _ _ _; first | refine N.c1 ?_ | refine N.c2 ?_ | refine N.c3 ?_ | refine N.c4 ?_ | refine N.condD rfl (fun hcd => ?_) (fun hcd => ?_) | refine N.condB rfl (fun hcd => ?_) (fun hcd => ?_) | refine N.condU rfl ?_ ?_)
  | (show AK _ _ _ _ _ _ _; first | refine N.seq ?_ | refine N.block ?_ | refine N.skip ?_ | refine N.exit ?_ | refine N.ret ?_)
  | (show RK _ _ _ _ _ _ _; simp only [rk, rk0, reduceIte, Nat.reduceEqDiff])
  | (show WOpsT _ _ _ _ _ _; first | refine T.i2s rfl ?_ | refine T.cvt rfl ?_ | refine L.fad ?_ | refine L.fadd ?_ | refine L.st ?_ | refine L.new ?_ | refine L.zero ?_ | refine L.build ?_ | refine L.bsl ?_)
  | refine hQ _ _ _ rfl ?_
  | refine hQN _ _ _ rfl ?_)
  generalize nameC (sval l0 26) = nm at *
  have hN9 : N0 ≤ 8 := by omega
  have hN1 : 1 ≤ N0 := by omega
  clear hn1 hn2 r1 r2 w1 hnm
  refine N.loop (σ := Nat × Int × List Ins × List Int) (fun s => [(2, .ptr 0 1 0 0), (3, .ptr 1 1 0 0), (4, .ptr 2 1 0 0), (5, I s.2.1), (21, I N0), (22, I s.1)]) (fun s => [⟨1, 5, [[.c (.string ⟨#[]⟩), .c (.slice none 0 0), .c (.slice none 0 0), .c (.slice none 0 0), .c (.slice none 0 0)]]⟩, strB s.2.2.2, ⟨1, 5, [[.c (.string nm), insV s.2.2.1, .c (.slice none 0 0), .c (.slice none 0 0), .c (.slice none 0 0)]]⟩] ++ insH s.2.2.1) (fun s => s.1 ≤ N0 ∧ (0 ≤ s.2.1 ∧ s.2.1 ≤ 30 * s.1) ∧ s.2.2.1.length = s.1 ∧ goIns (N0 - s.1) s.1 s.2.1 s.2.2.1 s.2.2.2 = (I1, I2)) (fun s => N0 - s.1) (0, 0, [], l8) ⟨Nat.zero_le _, ⟨Int.le_refl 0, by show (0 : Int) ≤ 30 * 0; decide⟩, rfl, hI⟩ (Weaks.sel (by repeat (first | exact trivial | refine ⟨.rfl, ?_⟩ | refine ⟨.any, ?_⟩)) rfl) fun w hi K2 hC => ?_
  obtain ⟨i, at_, acc, l⟩ := w
  obtain ⟨hi, hat, hal, hst⟩ := hi
  dsimp only at hi hat hal hst hC ⊢
  by_cases hil : i < N0
  · have hx1 := next_ok l 30 (by decide)
    have hx2 := next_ok (srest l 30) 9 (by decide)
    have r1 := sval_range l 30 (by decide)
    have r2 := sval_range (srest l 30) 9 (by decide)
    rw [show N0 - i = N0 - (i + 1) + 1 by omega] at hst
    unfold goIns mkIn mkInR at hst
    generalize srest (srest l 30) 9 = l3 at *
    obtain ⟨m, hm⟩ : ∃ m : Nat, sval (srest l 30) 9 = (m : Int) := ⟨(sval (srest l 30) 9).toNat, by omega⟩
    rw [hm] at hx2 r2 hst
    rw [Int.toNat_natCast] at hst
    have hcy := mkCycles_ok (rdN m) (rdN_le m) l3
    generalize sval l 30 = v at *
    generalize srest l 30 = l2 at *
    generalize mkCycles (rdN m) l3 = cy at *
    obtain ⟨cy, l4⟩ := cy
    dsimp only at hst hcy
    have hcat : binV .add (.string ⟨#[105, 110, 45]⟩) (.string (Utf8.encode (97 + (i : Int)))) = some (.string (nameI i)) := cat_ok _ (by decide) _ (by omega)
    have wi : IntKind.wrap .i32 (97 + (i : Int)) = 97 + i := wrap_i32 _ (by omega)
    have e9 : 0 + (m : Int).toNat = m := by omega
    have h9 := rows9 m (by omega)
    have hr2 := rdN_le m
    cases acc with
    | nil =>
      repeat' (first
      | rw [wi]
      | (show WOpsT _ (⟨_, .bin .add (.k (.string _)) _, none⟩ :: _) _ _ _ _; refine T.bin rfl rfl hcat ?_)
      | rw [e9]
      | (show WOpsT _ (⟨_, .ld _ _, none⟩ :: _) _ _ _ _; refine T.ld rfl rfl rfl h9 rfl ?_)
      | (show WOpsT _ (⟨_, .app _ _ _ _, none⟩ :: _) _ _ _ _; refine T.appN rfl rfl ⟨by decide, by decide⟩ (by simp) (by simp) ?_)
      | (show WOpsT _ (⟨_, .st _ _ _, none⟩ :: _) _ _ _ _; refine T.st rfl rfl (vcells_psl rfl rfl) ⟨rfl, rfl⟩ rfl (Nat.le_of_ble_eq_true rfl) ?_)
      | refine N.regS fun K hK => ?_
      | refine N.dregS fun K hK => ?_
      | refine N.regN fun K hK => ?_
      | refine N.dregN fun K hK => ?_
      | simp only [T.mv, sm, AO.ev, put, lk, enter, reduceIte, Nat.reduceEqDiff, Nat.reduceAdd, Nat.reduceMul, Nat.reduceSub, Int.reduceNeg, Int.reduceToNat, upto, renB, setAll]
      | (refine T.nil ?_; (first | refine hK _ _ _ (by rfl) ?_ | refine hK _ _ _ ?_); (try simp only [keep, List.map, lk, reduceIte, Nat.reduceEqDiff, enter]); clear hK K)
      | (show WOpsT _ (⟨_, .call _ _, none⟩ :: _) _ _ _ _; first | refine T.call1 1 e56 rfl rfl (hx1) ?_ | refine T.call1 1 e56 rfl rfl (hx2) ?_ | refine T.call1 1 e112 rfl rfl (hcy) ?_)
      | (show WOpsT _ (⟨_, .ld _ _, none⟩ :: _) _ _ _ _; first | refine L.ld ?_ | refine L.ldd ?_ | refine L.ldn ?_ | refine L.lddn ?_)
      | (show WOpsT _ (⟨_, .idx _ _ _ _, none⟩ :: _) _ _ _ _; first | refine L.idx ?_ | refine L.idxs ?_)
      | (show WOpsT _ (⟨_, .bin _ _ _, none⟩ :: _) _ _ _ _; first | refine L.add ?_ | refine L.sub ?_ | refine L.bin ?_)
      | (show AKW _ _ _ _ _ _ _; first | refine N.now ?_)
      | (show AK _ _ (.cond _ _ _) _ _ _ _; first | refine N.c1 ?_ | refine N.c2 ?_ | refine N.c3 ?_ | refine N.c4 ?_ | refine N.condD rfl (fun hcd => ?_) (fun hcd => ?_) | refine N.condB rfl (fun hcd => ?_) (fun hcd => ?_) | refine N.condU rfl ?_ ?_)
      | (show AK _ _ _ _ _ _ _; first | refine N.seq ?_ | refine N.block ?_ | refine N.skip ?_ | refine N.exit ?_ | refine N.ret ?_)
      | (show RK _ _ _ _ _ _ _; simp only [rk, rk0, reduceIte, Nat.reduceEqDiff])
      | (show WOpsT _ _ _ _ _ _; first | refine T.i2s rfl ?_ | refine T.cvt rfl ?_ | refine L.fad ?_ | refine L.fadd ?_ | refine L.st ?_ | refine L.new ?_ | refine L.zero ?_ | refine L.build ?_ | refine L.bsl ?_)
      | refine hQ _ _ _ rfl ?_
      | refine hQN _ _ _ rfl ?_)
      refine hC _ _ (i + 1, at_ + (1 + v), [⟨at_ + (1 + v) - 1, nameI i, m, cy⟩], l4) ⟨by dsimp only; omega, by dsimp only; omega, by dsimp only at hal ⊢; rw [← hal]; rfl, hst⟩ (by dsimp only; omega) ?_
      exact Weaks.gc [0, 1, 2, 5] 1 rfl (by repeat (first | exact trivial | refine ⟨.rfl, ?_⟩ | refine ⟨.any, ?_⟩)) rfl
    | cons a acc =>
      have hln : (a :: acc).length = i := hal
      generalize hac : a :: acc = ac at *
      have hV : insV ac = .psl 3 ac.length 0 ac.length := by rw [← hac]; rfl
      have hH : insH ac = [⟨ac.length, 4, ac.map inC⟩] := by rw [← hac]; rfl
      have hV2 : ∀ x, insV (ac ++ [x]) = .psl 3 (ac.length + 1) 0 (ac.length + 1) := fun x => by rw [← hac]; show V.psl 3 (a :: (acc ++ [x])).length 0 (a :: (acc ++ [x])).length = _; simp
      have hH2 : ∀ x, insH (ac ++ [x]) = [⟨ac.length + 1, 4, ac.map inC ++ [inC x]⟩] := fun x => by rw [← hac]; show [(⟨(a :: (acc ++ [x])).length, 4, (a :: (acc ++ [x])).map inC⟩ : Blk)] = _; simp
      clear hac
      rw [hV, hH]
      repeat' (first
      | rw [wi]
      | (show WOpsT _ (⟨_, .bin .add (.k (.string _)) _, none⟩ :: _) _ _ _ _; refine T.bin rfl rfl hcat ?_)
      | rw [e9]
      | (show WOpsT _ (⟨_, .ld _ _, none⟩ :: _) _ _ _ _; refine T.ld rfl rfl rfl h9 rfl ?_)
      | (show WOpsT _ (⟨_, .app _ _ _ _, none⟩ :: _) _ _ _ _; refine T.app rfl rfl rfl ⟨by decide, by decide⟩ ⟨rfl, rfl, by rw [Nat.zero_add, List.length_map], by simp; omega⟩ ?_)
      | (show WOpsT _ (⟨_, .st _ _ _, none⟩ :: _) _ _ _ _; refine T.st rfl rfl (vcells_psl rfl rfl) ⟨rfl, rfl⟩ rfl (Nat.le_of_ble_eq_true rfl) ?_)
      | refine N.regS fun K hK => ?_
      | refine N.dregS fun K hK => ?_
      | refine N.regN fun K hK => ?_
      | refine N.dregN fun K hK => ?_
      | simp only [T.mv, sm, AO.ev, put, lk, enter, reduceIte, Nat.reduceEqDiff, Nat.reduceAdd, Nat.reduceMul, Nat.reduceSub, Int.reduceNeg, Int.reduceToNat, upto, renB, setAll]
      | (refine T.nil ?_; (first | refine hK _ _ _ (by rfl) ?_ | refine hK _ _ _ ?_); (try simp only [keep, List.map, lk, reduceIte, Nat.reduceEqDiff, enter]); clear hK K)
      | (show WOpsT _ (⟨_, .call _ _, none⟩ :: _) _ _ _ _; first | refine T.call1 1 e56 rfl rfl (hx1) ?_ | refine T.call1 1 e56 rfl rfl (hx2) ?_ | refine T.call1 1 e112 rfl rfl (hcy) ?_)
      | (show WOpsT _ (⟨_, .ld _ _, none⟩ :: _) _ _ _ _; first | refine L.ld ?_ | refine L.ldd ?_ | refine L.ldn ?_ | refine L.lddn ?_)
      | (show WOpsT _ (⟨_, .idx _ _ _ _, none⟩ :: _) _ _ _ _; first | refine L.idx ?_ | refine L.idxs ?_)
      | (show WOpsT _ (⟨_, .bin _ _ _, none⟩ :: _) _ _ _ _; first | refine L.add ?_ | refine L.sub ?_ | refine L.bin ?_)
      | (show AKW _ _ _ _ _ _ _; first | refine N.now ?_)
      | (show AK _ _ (.cond _ _ _) _ _ _ _; first | refine N.c1 ?_ | refine N.c2 ?_ | refine N.c3 ?_ | refine N.c4 ?_ | refine N.condD rfl (fun hcd => ?_) (fun hcd => ?_) | refine N.condB rfl (fun hcd => ?_) (fun hcd => ?_) | refine N.condU rfl ?_ ?_)
      | (show AK _ _ _ _ _ _ _; first | refine N.seq ?_ | refine N.block ?_ | refine N.skip ?_ | refine N.exit ?_ | refine N.ret ?_)
      | (show RK _ _ _ _ _ _ _; simp only [rk, rk0, reduceIte, Nat.reduceEqDiff])
      | (show WOpsT _ _ _ _ _ _; first | refine T.i2s rfl ?_ | refine T.cvt rfl ?_ | refine L.fad ?_ | refine L.fadd ?_ | refine L.st ?_ | refine L.new ?_ | refine L.zero ?_ | refine L.build ?_ | refine L.bsl ?_)
      | refine hQ _ _ _ rfl ?_
      | refine hQN _ _ _ rfl ?_)
      refine hC _ _ (i + 1, at_ + (1 + v), ac ++ [⟨at_ + (1 + v) - 1, nameI i, m, cy⟩], l4) ⟨by dsimp only; omega, by dsimp only; omega, by dsimp only; rw [List.length_append, hln]; rfl, hst⟩ (by dsimp only; omega) ?_
      dsimp only
      rw [hV2, hH2]
      exact Weaks.gc [0, 1, 2, 3] 1 rfl (by repeat (first | exact trivial | refine ⟨.rfl, ?_⟩ | refine ⟨.any, ?_⟩)) (by show [_, _, _, _] = [_, _, _, outB _ _ _ ⟨ac.length + 1, 4, ac.map inC ++ [inC ⟨at_ + (1 + v) - 1, nameI i, m, cy⟩]⟩]; rw [outB_flatA]; rfl)
  · obtain rfl : i = N0 := by omega
    rw [Nat.sub_self] at hst
    unfold goIns at hst
    obtain ⟨rfl, rfl⟩ := Prod.mk.inj hst
    clear hC hst hI
    cases acc with
    | nil =>
      exact absurd hal (by show ¬ (0 = i); omega)
    | cons a acc =>
      generalize hac : a :: acc = ac at *
      have hV : insV ac = .psl 3 ac.length 0 ac.length := by rw [← hac]; rfl
      have hH : insH ac = [⟨ac.length, 4, ac.map inC⟩] := by rw [← hac]; rfl
      clear hac
      rw [hV, hH]
      repeat' (first
      | refine N.regS fun K hK => ?_
      | refine N.dregS fun K hK => ?_
      | refine N.regN fun K hK => ?_
      | refine N.dregN fun K hK => ?_
      | simp only [T.mv, sm, AO.ev, put, lk, enter, reduceIte, Nat.reduceEqDiff, Nat.reduceAdd, Nat.reduceMul, Nat.reduceSub, Int.reduceNeg, Int.reduceToNat, upto, renB, setAll]
      | (refine T.nil ?_; (first | refine hK _ _ _ (by rfl) ?_ | refine hK _ _ _ ?_); (try simp only [keep, List.map, lk, reduceIte, Nat.reduceEqDiff, enter]); clear hK K)
      | (show WOpsT _ (⟨_, .call _ _, none⟩ :: _) _ _ _ _; first | refine T.call1 1 e112 rfl rfl (hc1) ?_ | refine T.call1 1 e112 rfl rfl (hc2) ?_ | refine T.call1 1 e112 rfl rfl (hc3) ?_)
      | (show WOpsT _ (⟨_, .ld _ _, none⟩ :: _) _ _ _ _; first | refine L.ld ?_ | refine L.ldd ?_ | refine L.ldn ?_ | refine L.lddn ?_)
      | (show WOpsT _ (⟨_, .idx _ _ _ _, none⟩ :: _) _ _ _ _; first | refine L.idx ?_ | refine L.idxs ?_)
      | (show WOpsT _ (⟨_, .bin _ _ _, none⟩ :: _) _ _ _ _; first | refine L.add ?_ | refine L.sub ?_ | refine L.bin ?_)
      | (show AKW _ _ _ _ _ _ _; first | refine N.now ?_)
      | (show AK _ _ (.cond _ _ _) _ _ _ _; first | refine N.c1 ?_ | refine N.c2 ?_ | refine N.c3 ?_ | refine N.c4 ?_ | refine N.condD rfl (fun hcd => ?_) (fun hcd => ?_) | refine N.condB rfl (fun hcd => ?_) (fun hcd => ?_) | refine N.condU rfl ?_ ?_)
      | (show AK _ _ _ _ _ _ _; first | refine N.seq ?_ | refine N.block ?_ | refine N.skip ?_ | refine N.exit ?_ | refine N.ret ?_)
      | (show RK _ _ _ _ _ _ _; simp only [rk, rk0, reduceIte, Nat.reduceEqDiff])
      | (show WOpsT _ _ _ _ _ _; first | refine T.i2s rfl ?_ | refine T.cvt rfl ?_ | refine L.fad ?_ | refine L.fadd ?_ | refine L.st ?_ | refine L.new ?_ | refine L.zero ?_ | refine L.build ?_ | refine L.bsl ?_)
      | refine hQ _ _ _ rfl ?_
      | refine hQN _ _ _ rfl ?_)
      exact WS.gc [] 1 rfl rfl (by show Sub (.agg [.c (.string nm), out _ [] 1 (.psl 3 ac.length 0 ac.length), .sl 4 _, .sl 4 _, .sl 4 _]) _; rw [out_rowsK (f := inC) rfl rfl (Nat.le_refl _)]; exact .rfl)
end Go.Proofs.Ytjmmompbmjhkpaa.Calc

namespace Go.Proofs.Ytjmmompbmjhkpaa.Calc
open Go Code
set_option linter.unusedSimpArgs false
set_option linter.unusedVariables false
set_option maxRecDepth 20000
set_option maxHeartbeats 4000000
attribute [local irreducible] WOpsT AW AK RK AKW UK UC
def sgn8 (v : Int) : Int := if 128 ≤ v % 256 then v % 256 - 256 else v % 256
def fl (p m : Int) (on : Bool) : Int := if on then bits .or .i64 (bits .andNot .i64 p m) m else bits .andNot .i64 p m
end Go.Proofs.Ytjmmompbmjhkpaa.Calc

namespace Go.Proofs.Ytjmmompbmjhkpaa.Calc
open Go Code
set_option linter.unusedSimpArgs false
set_option linter.unusedVariables false
set_option maxRecDepth 20000
set_option maxHeartbeats 8000000
attribute [local irreducible] WOpsT AW AK RK AKW UK UC
def ri (r : Nat → Int) : List V := [I (r 0), I (r 1), I (r 2), I (r 3), I (r 4), I (r 5), I (r 6), I (r 7), I (r 8)]
def upd (r : Nat → Int) (k : Nat) (v : Int) : Nat → Int := fun i => if i = k then v else r i
theorem ri_eq {r q : Nat → Int} (h : ∀ i, i < 9 → r i = q i) : ri r = ri q := by
  unfold ri
  rw [h 0 (by decide), h 1 (by decide), h 2 (by decide), h 3 (by decide), h 4 (by decide), h 5 (by decide), h 6 (by decide), h 7 (by decide), h 8 (by decide)]
theorem Sub.ri {r q : Nat → Int} (h : ∀ i, i < 9 → r i = q i) : Sub (.agg (ri r)) (.agg (ri q)) := by rw [ri_eq h]; exact .rfl
def wide (i : Int) : Bool := decide (i = 7 ∨ i = 8)
def bitsR (i : Int) : Int := if i = 7 ∨ i = 8 then 16 else 8
def fitN (i : Nat) (v : Int) : Int := if i = 7 ∨ i = 8 then v % 65536 else v % 256
def fitR (r : Nat → Int) : Nat → Int := fun i => fitN i (r i)
def Fits (r : Nat → Int) : Prop := ∀ i, i < 9 → 0 ≤ r i ∧ r i < if i = 7 ∨ i = 8 then 65536 else 256
def fitI (r : Nat → Int) (n : Nat) : Nat → Int := fun i => if i < n then fitN i (r i) else r i
def flagR (r : Nat → Int) (f : Int) (on : Bool) : Nat → Int := upd r 4 (fl (r 4) f on)
def nzR (r : Nat → Int) (n : Int) : Nat → Int := flagR (flagR r 2 (decide (n = 0))) 128 (decide (128 ≤ n))
def ixR (i : Int) : Nat := (max 0 (min i 8)).toNat
def resR (r : Nat → Int) (t : Nat) (n c : Int) : Nat → Int := upd (flagR (nzR r n) 1 (decide (c = 1))) t n
def binR (d : Int) (t f : Nat) (r : Nat → Int) : Nat → Int :=
  let a := r t % 256
  let b := r f % 256
  let c := r 4 % 2
  if d = 4 then resR r t ((a + b + c) % 256) ((a + b + c) / 256)
  else if d = 5 then resR r t ((a - b - (1 - c)) % 256) (if a - b - (1 - c) < 0 then 0 else 1)
  else if d = 6 then flagR (nzR r ((a - b) % 256)) 1 (decide (0 ≤ a - b))
  else let n := if d = 7 then bits .and .i64 a b else if d = 8 then bits .or .i64 a b else bits .xor .i64 a b
    upd (nzR r n) t n
def shiftR (d : Int) (t : Nat) (r : Nat → Int) : Nat → Int :=
  let c := if d = 12 ∨ d = 13 then 0 else r 4 % 2
  if d = 12 ∨ d = 14 then resR r t ((2 * (r t % 256) + c) % 256) ((2 * (r t % 256) + c) / 256) else resR r t ((r t % 256 + c * 256) / 2) ((r t % 256 + c * 256) % 2)
end Go.Proofs.Ytjmmompbmjhkpaa.Calc

namespace Go.Proofs.Ytjmmompbmjhkpaa.Calc
open Go Code
set_option linter.unusedSimpArgs false
set_option linter.unusedVariables false
set_option maxRecDepth 20000
set_option maxHeartbeats 8000000
attribute [local irreducible] WOpsT AW AK RK AKW UK UC
def midR (d : Int) (t f : Nat) (n : Int) (r : Nat → Int) : Nat → Int :=
  if d = 1 then upd r t (r f)
  else if d = 2 then upd r t n
  else if d = 3 then nzR r (r t % 256)
  else if 4 ≤ d ∧ d ≤ 9 then binR d t f r
  else if d = 10 ∨ d = 11 then
    let m := (r t + 1 - 2 * (d - 10)) % 2 ^ wd (bitsR t)
    upd (if t = 7 ∨ t = 8 then r else nzR r m) t m
  else if 12 ≤ d ∧ d ≤ 15 then shiftR d t r
  else if d = 16 ∨ d = 17 then flagR r (n % 256) (decide (d = 16))
  else if d = 18 then upd r t (putv (r t) 0 8 (r f))
  else if d = 19 then upd r t (putv (r t) 8 8 (r f))
  else if d = 20 then upd r t (r f / 2 ^ 0 % 2 ^ 8)
  else if d = 21 then upd r t (r f / 2 ^ 8 % 2 ^ 8)
  else if d = 22 then upd r t (r t + r f % 256)
  else if d = 23 then upd r t (r t + sgn8 (r f))
  else r
def doR (d t f n : Int) (r : Nat → Int) : (Nat → Int) × Bool :=
  if d = 24 then (fitR r, xor (decide (bits .and .i64 (fitR r 4) (n % 256) ≠ 0)) (decide (f = 1)))
  else (fitR (midR d (ixR t) (ixR f) n (fitR r)), false)
end Go.Proofs.Ytjmmompbmjhkpaa.Calc

namespace Go.Proofs.Ytjmmompbmjhkpaa.Calc
open Go
set_option linter.unusedVariables false
def coA (r : Nat → Int) (op a : Int) (nmi : Bool) : List V := [I (r 0), I (r 1), I (r 2), I (r 3), I (r 4), I (r 5), I (r 6), I (r 7), I (r 8), I op, I a, .c (.bool nmi)]
structure Core where
  r : Nat → Int
  op : Int
  a : Int
  nmi : Bool
def coC (k : Core) : List V := coA k.r k.op k.a k.nmi
def cycM (c : Cpu) (op : Int) : List Cyc :=
  if op = 256 then c.irq else if op = 257 then c.nmi else if op = 258 then c.res
  else if 0 ≤ op ∧ op ≤ 255 then (match c.ins.findIdx? (fun x => decide (x.op = op)) with
    | some i => (match c.ins[i]? with | some x => x.cy | none => [])
    | none => []) else []
def doingM (c : Cpu) (op a : Int) : Option Cyc := if op = -1 ∨ a < 0 then none else (cycM c op)[a.toNat]?
def fixM (a : Int) : Int := [65534, 65535, 65530, 65531, 65532, 65533].getD (a - 6).toNat 0
def placeM (a : Int) (r : Nat → Int) : Int × (Nat → Int) :=
  if a = 0 then (r 7, upd r 7 ((r 7 + 1) % 65536))
  else if a = 1 then (r 7, r)
  else if a = 2 then (r 8, r)
  else if a = 3 then ((r 8 + 1) % 65536, r)
  else if a = 4 then (256 + r 3, upd r 3 ((r 3 - 1) % 256))
  else if a = 5 then (256 + (r 3 + 1) % 256, upd r 3 ((r 3 + 1) % 256))
  else if a < 0 ∨ 12 ≤ a then (0, r)
  else (fixM a, r)
def startM (c : Cpu) (k : Core) (irq : Bool) : Core :=
  if k.nmi = true ∧ 0 < c.nmi.length then ⟨k.r, 257, 0, false⟩
  else if irq = true ∧ bits .and .i64 (k.r 4) 4 = 0 ∧ 0 < c.irq.length then ⟨k.r, 256, 0, k.nmi⟩
  else k
structure Bus where
  d : Int
  addr : Int
  data : Int
def buC (b : Bus) : List V := [I b.d, I b.addr, I b.data]
def askA (c : Cpu) (k : Core) (irq : Bool) : Core := if k.op = -1 then startM c ⟨fitR k.r, k.op, k.a, k.nmi⟩ irq else ⟨fitR k.r, k.op, k.a, k.nmi⟩
def dataM (x : Cyc) (r : Nat → Int) : Int := if x.bus = 2 ∧ 0 ≤ x.reg ∧ x.reg < 9 then r x.reg.toNat % 256 else 0
def askB (c : Cpu) (k : Core) : Core × Bus :=
  if k.op = -1 then (⟨(placeM 0 k.r).2, k.op, k.a, k.nmi⟩, ⟨1, (placeM 0 k.r).1, 0⟩)
  else match doingM c k.op k.a with
    | none => (k, ⟨0, 0, 0⟩)
    | some x => if x.bus = 0 then (k, ⟨0, 0, 0⟩) else (⟨(placeM x.at_ k.r).2, k.op, k.a, k.nmi⟩, ⟨x.bus, (placeM x.at_ k.r).1, dataM x k.r⟩)
def askM (c : Cpu) (k : Core) (irq : Bool) : Core × Bus := askB c (askA c k irq)
def stepsM : List Stp → (Nat → Int) → (Nat → Int) × Bool
  | [], r => (r, false)
  | s :: l, r => if (doR s.op s.to s.fr s.n r).2 = true then ((doR s.op s.to s.fr s.n r).1, true) else stepsM l (doR s.op s.to s.fr s.n r).1
def regM (x : Cyc) (r : Nat → Int) (data : Int) : Nat → Int := if x.bus = 1 ∧ 0 ≤ x.reg ∧ x.reg < 9 then upd r x.reg.toNat data else r
def tellA (c : Cpu) (r : Nat → Int) (a : Int) (nmi : Bool) (data : Int) : Core :=
  if (gotM (fun x => decide (x.op = data)) c.ins).2 = false then ⟨r, 259, 0, nmi⟩
  else if 0 < (gotM (fun x => decide (x.op = data)) c.ins).1.cy.length then ⟨r, data, 0, nmi⟩ else ⟨r, -1, 0, nmi⟩
def tellB (c : Cpu) (k : Core) (data : Int) : Core := match doingM c k.op k.a with
    | none => if k.op = 259 then k else ⟨k.r, -1, 0, k.nmi⟩
    | some x =>
      if (stepsM x.steps (regM x k.r data)).2 = true ∨ ((cycM c k.op).length : Int) ≤ k.a + 1 then ⟨(stepsM x.steps (regM x k.r data)).1, -1, 0, k.nmi⟩
      else ⟨(stepsM x.steps (regM x k.r data)).1, k.op, k.a + 1, k.nmi⟩
def tellM (c : Cpu) (k : Core) (data : Int) : Core :=
  if k.op = -1 then tellA c (fitR k.r) k.a k.nmi (data % 256) else tellB c ⟨fitR k.r, k.op, k.a, k.nmi⟩ (data % 256)
end Go.Proofs.Ytjmmompbmjhkpaa.Calc

namespace Go.Proofs.Ytjmmompbmjhkpaa.Calc
open Go Code
set_option linter.unusedSimpArgs false
set_option linter.unusedVariables false
set_option maxRecDepth 20000
set_option maxHeartbeats 16000000
attribute [local irreducible] WOpsT AW AK RK AKW UK UC
end Go.Proofs.Ytjmmompbmjhkpaa.Calc

namespace Go.Proofs.Ytjmmompbmjhkpaa.Calc
open Go Code
set_option linter.unusedSimpArgs false
set_option linter.unusedVariables false
set_option maxRecDepth 20000
set_option maxHeartbeats 8000000
attribute [local irreducible] WOpsT AW AK RK AKW UK UC
end Go.Proofs.Ytjmmompbmjhkpaa.Calc

namespace Go.Proofs.Ytjmmompbmjhkpaa.Calc
open Go Code
set_option linter.unusedSimpArgs false
set_option linter.unusedVariables false
set_option maxRecDepth 20000
set_option maxHeartbeats 8000000
attribute [local irreducible] WOpsT AW AK RK AKW UK UC
def regStep (i : Nat) (s : List Int × (Nat → Int)) : List Int × (Nat → Int) :=
  if i = 7 ∨ i = 8 then (srest (srest s.1 256) 65536, upd (upd s.2 i (sval s.1 256)) i (sval (srest s.1 256) 65536)) else (srest s.1 256, upd s.2 i (sval s.1 256))
def regAt (l : List Int) : Nat → List Int × (Nat → Int)
  | 0 => (l, fun _ => 0)
  | i + 1 => regStep i (regAt l i)
def regsOf (l : List Int) : Nat → Int := (regAt l 9).2
end Go.Proofs.Ytjmmompbmjhkpaa.Calc

namespace Go.Proofs.Ytjmmompbmjhkpaa.Calc
open Go Code
set_option linter.unusedSimpArgs false
set_option linter.unusedVariables false
set_option maxRecDepth 20000
set_option maxHeartbeats 4000000
attribute [local irreducible] WOpsT AW AK RK AKW UK UC
def cycZ : Cyc := ⟨0, 0, 0, []⟩
def zeroR : Nat → Int := fun _ => 0
end Go.Proofs.Ytjmmompbmjhkpaa.Calc

namespace Go.Proofs.Ytjmmompbmjhkpaa.Calc
open Go Code
set_option linter.unusedSimpArgs false
set_option linter.unusedVariables false
set_option maxRecDepth 20000
set_option maxHeartbeats 4000000
attribute [local irreducible] WOpsT AW AK RK AKW UK UC
end Go.Proofs.Ytjmmompbmjhkpaa.Calc

namespace Go.Proofs.Ytjmmompbmjhkpaa.Calc
open Go Code
set_option linter.unusedSimpArgs false
set_option linter.unusedVariables false
set_option maxRecDepth 20000
set_option maxHeartbeats 4000000
attribute [local irreducible] WOpsT AW AK RK AKW UK UC
end Go.Proofs.Ytjmmompbmjhkpaa.Calc

namespace Go.Proofs.Ytjmmompbmjhkpaa.Calc
open Go Code
set_option linter.unusedSimpArgs false
set_option linter.unusedVariables false
set_option maxRecDepth 20000
set_option maxHeartbeats 4000000
attribute [local irreducible] WOpsT AW AK RK AKW UK UC
def Bytes (m : List Int) : Prop := ∀ i, 0 ≤ m.getD i 0 ∧ m.getD i 0 < 256
abbrev memB (m : List Int) : Blk := ⟨1, 1, bcells m⟩
def bytesN (l : List Int) (n i : Nat) : List Int := (List.range n).map fun j => if j < i then l.getD j 0 % 256 else 0
def bytesOf (l : List Int) (n : Nat) : List Int := (List.range n).map fun j => l.getD j 0 % 256
end Go.Proofs.Ytjmmompbmjhkpaa.Calc

namespace Go.Proofs.Ytjmmompbmjhkpaa.Calc
open Go Code
set_option linter.unusedSimpArgs false
set_option linter.unusedVariables false
set_option maxRecDepth 20000
set_option maxHeartbeats 4000000
attribute [local irreducible] WOpsT AW AK RK AKW UK UC
def memF (f : Nat → Int) : List Int := (List.range 65536).map f
def fA : Blk := ⟨1, 1, [[.psl 1 1 0 65536]]⟩
def fB (f : Nat → Int) : Blk := ⟨1, 1, bcells (memF f)⟩
def FB (f : Nat → Int) : Prop := ∀ i, 0 ≤ f i ∧ f i < 256
theorem FB.upd {f : Nat → Int} (h : FB f) {v : Int} (hv : 0 ≤ v ∧ v < 256) (a : Nat) : FB (upd f a v) := by
  intro i; unfold Calc.upd; split
  · exact hv
  · exact h i
attribute [local irreducible] memF
def cycleM (c : Cpu) (k : Core) (irq : Bool) (f : Nat → Int) : Core × Bus × (Nat → Int) :=
  if (askM c k irq).2.d = 1 then (tellM c (askM c k irq).1 (f (askM c k irq).2.addr.toNat), ⟨1, (askM c k irq).2.addr, f (askM c k irq).2.addr.toNat⟩, f)
  else if (askM c k irq).2.d = 2 then (tellM c (askM c k irq).1 (askM c k irq).2.data, (askM c k irq).2, upd f (askM c k irq).2.addr.toNat (askM c k irq).2.data)
  else (tellM c (askM c k irq).1 (askM c k irq).2.data, (askM c k irq).2, f)
end Go.Proofs.Ytjmmompbmjhkpaa.Calc

namespace Go.Proofs.Ytjmmompbmjhkpaa.Calc
open Go Code
set_option linter.unusedSimpArgs false
set_option linter.unusedVariables false
set_option maxRecDepth 20000
set_option maxHeartbeats 4000000
attribute [local irreducible] WOpsT AW AK RK AKW UK UC memF
def runFrom (c : Cpu) : Nat → Core → List Bus → (Nat → Int) → Core × List Bus × (Nat → Int)
  | 0, k, bs, f => (k, bs, f)
  | n + 1, k, bs, f => if (cycleM c k false f).1.op = -1 ∨ (cycleM c k false f).1.op = 259 then ((cycleM c k false f).1, bs ++ [(cycleM c k false f).2.1], (cycleM c k false f).2.2)
      else runFrom c n (cycleM c k false f).1 (bs ++ [(cycleM c k false f).2.1]) (cycleM c k false f).2.2
def runM (c : Cpu) (k : Core) (f : Nat → Int) : Core × List Bus × (Nat → Int) := runFrom c 20 k [] f
instance : Flat buC := ⟨fun a x hx => by simp [buC] at hx; rcases hx with rfl | rfl | rfl <;> exact .inl ⟨_, rfl⟩⟩
end Go.Proofs.Ytjmmompbmjhkpaa.Calc

namespace Go.Proofs.Ytjmmompbmjhkpaa.Calc
open Go Code
set_option linter.unusedSimpArgs false
set_option linter.unusedVariables false
set_option maxRecDepth 20000
set_option maxHeartbeats 4000000
attribute [local irreducible] WOpsT AW AK RK AKW UK UC
def grow (l : List Ins) (F : Int → Row) (ms : List Int) (i : Nat) : List Ins := l ++ number l.length ((ms.take i).map F)
end Go.Proofs.Ytjmmompbmjhkpaa.Calc

namespace Go.Proofs.Ytjmmompbmjhkpaa.Calc
open Go Code
set_option linter.unusedSimpArgs false
set_option linter.unusedVariables false
set_option maxRecDepth 20000
set_option maxHeartbeats 4000000
attribute [local irreducible] WOpsT AW AK RK AKW UK UC
def mkH (ms : List Int) (g : Nat → List Ins) : Nat → List Blk
  | 0 => [⟨1, 1, [[.c (.slice none 0 0)]]⟩, ⟨1, 1, cells ms⟩]
  | i + 1 => [mkA 2 (g (i + 1)), ⟨1, 1, cells ms⟩, mkB (g (i + 1))]
end Go.Proofs.Ytjmmompbmjhkpaa.Calc

namespace Go.Proofs.Ytjmmompbmjhkpaa.Calc
open Go Code
set_option linter.unusedSimpArgs false
set_option linter.unusedVariables false
set_option maxRecDepth 20000
set_option maxHeartbeats 4000000
attribute [local irreducible] WOpsT AW AK RK AKW UK UC
def mA (k : Nat) : Blk := mkA 1 (number 0 (memR k))
def mB (k : Nat) : Blk := mkB (number 0 (memR k))
def joinL : List (ByteArray × Int) := [(⟨#[97, 100, 99]⟩, 4), (⟨#[115, 98, 99]⟩, 5), (⟨#[97, 110, 100]⟩, 7), (⟨#[111, 114, 97]⟩, 8), (⟨#[101, 111, 114]⟩, 9), (⟨#[99, 109, 112]⟩, 6)]
section
variable {P : Program} {q : Nat} {st : List KF} {Q : Exit → Fr → List Blk → Prop} {fr : Fr} {h : List Blk} {c : AC}
end
end Go.Proofs.Ytjmmompbmjhkpaa.Calc

namespace Go.Proofs.Ytjmmompbmjhkpaa.Calc
open Go Code
set_option linter.unusedSimpArgs false
set_option linter.unusedVariables false
set_option maxRecDepth 20000
set_option maxHeartbeats 4000000
attribute [local irreducible] WOpsT AW AK RK AKW UK UC
section
variable {P : Program} {q : Nat} {st : List KF} {Q : Exit → Fr → List Blk → Prop} {fr : Fr} {h : List Blk} {c : AC}
end
def row3 (p : ByteArray × Int × Int) : List V := [.c (.string p.1), I p.2.1, I p.2.2]
def tabA : List (ByteArray × Int × Int) := [(⟨#[116, 97, 120]⟩, 1, 0), (⟨#[116, 97, 121]⟩, 2, 0), (⟨#[116, 120, 97]⟩, 0, 1), (⟨#[116, 121, 97]⟩, 0, 2), (⟨#[116, 115, 120]⟩, 1, 3)]
def tabW : List (ByteArray × Int × Int) := [(⟨#[98, 101, 113]⟩, 2, 1), (⟨#[98, 110, 101]⟩, 2, 0), (⟨#[98, 99, 115]⟩, 1, 1), (⟨#[98, 99, 99]⟩, 1, 0), (⟨#[98, 109, 105]⟩, 128, 1), (⟨#[98, 112, 108]⟩, 128, 0)]
end Go.Proofs.Ytjmmompbmjhkpaa.Calc

namespace Go.Proofs.Ytjmmompbmjhkpaa.Calc
open Go Code
set_option linter.unusedSimpArgs false
set_option linter.unusedVariables false
set_option maxRecDepth 20000
set_option maxHeartbeats 4000000
attribute [local irreducible] WOpsT AW AK RK AKW UK UC
def resM : List Cyc := [rdM 10 5 [], rdM 11 6 [twoM 18 7 5, twoM 19 7 6, ⟨2, 3, 0, 255⟩]]
end Go.Proofs.Ytjmmompbmjhkpaa.Calc

namespace Go.Proofs.Ytjmmompbmjhkpaa.Calc
open Go Code
set_option linter.unusedSimpArgs false
set_option linter.unusedVariables false
set_option maxRecDepth 20000
set_option maxHeartbeats 4000000
attribute [local irreducible] WOpsT AW AK RK AKW UK UC
section
variable {P : Program} {rest : List AOper} {tr : Tr} {fr : Fr} {h : List Blk} {K : KT} {d : Option Nat}
end
end Go.Proofs.Ytjmmompbmjhkpaa.Calc

namespace Go.Proofs.Ytjmmompbmjhkpaa.Calc
open Go Code
set_option linter.unusedSimpArgs false
set_option linter.unusedVariables false
set_option maxRecDepth 20000
set_option maxHeartbeats 4000000
attribute [local irreducible] WOpsT AW AK RK AKW UK UC memF
def runsM : Nat → Core → (Nat → Int) → Core × (Nat → Int)
  | 0, k, f => (k, f)
  | n + 1, k, f => runsM n (runM stdM k f).1 (runM stdM k f).2.2
def progF (p : List Int) : Nat → Int := fun i => if 1024 ≤ i ∧ i < 1024 + p.length then p.getD (i - 1024) 0 else 0
def zeroF : Nat → Int := fun _ => 0
def opM (s : ByteArray) (m : Int) : Int := (gotM (fun x => decide (x.name = s ∧ x.mode = m)) stdM.ins).1.op
end Go.Proofs.Ytjmmompbmjhkpaa.Calc

namespace Go.Proofs.Ytjmmompbmjhkpaa.Calc
open Go
set_option linter.unusedVariables false
def hasIf (ss : List Stp) : Bool := ss.any fun s => s.op == 24
def leastM : List Cyc → Nat → Nat → Nat
  | [], _, n => n
  | c :: l, i, n => leastM l (i + 1) (if hasIf c.steps then min n (i + 1) else n)
theorem leastM_le : ∀ (l : List Cyc) (i n : Nat), leastM l i n ≤ n := by
  intro l
  induction l with
  | nil => intro i n; exact Nat.le_refl _
  | cons c l ih =>
    intro i n
    unfold leastM
    refine Nat.le_trans (ih _ _) ?_
    split <;> omega
theorem leastM_at : ∀ (l : List Cyc) (i n j : Nat) (hj : j < l.length), hasIf l[j].steps = true → leastM l i n ≤ i + j + 1 := by
  intro l
  induction l with
  | nil => intro i n j hj; exact absurd hj (by simp)
  | cons c l ih =>
    intro i n j hj hs
    unfold leastM
    cases j with
    | zero =>
      have hs : hasIf c.steps = true := hs
      rw [if_pos hs]
      refine Nat.le_trans (leastM_le _ _ _) (by omega)
    | succ j =>
      have := ih (i + 1) (if hasIf c.steps = true then min n (i + 1) else n) j (by simpa using hj) hs
      omega
theorem stepsM_if : ∀ (l : List Stp) (r : Nat → Int), (stepsM l r).2 = true → hasIf l = true := by
  intro l
  induction l with
  | nil => intro r h; cases h
  | cons s l ih =>
    intro r h
    unfold stepsM at h
    unfold hasIf
    rw [List.any_cons]
    split at h
    · rename_i h2
      have : s.op = 24 := by
        unfold doR at h2
        split at h2
        · assumption
        · cases h2
      rw [this]; rfl
    · have := ih _ h
      unfold hasIf at this
      rw [this, Bool.or_true]
end Go.Proofs.Ytjmmompbmjhkpaa.Calc

namespace Go.Proofs.Ytjmmompbmjhkpaa.Calc
open Go
set_option linter.unusedVariables false
set_option linter.unusedSimpArgs false
theorem mkStep_v (l : List Int) : VStep (mkStep l).1 := by
  unfold mkStep
  have r1 := sval_range l 7 (by decide)
  have r2 := sval_range (srest l 7) 2 (by decide)
  have r3 := sval_range (srest (srest l 7) 2) 25 (by decide)
  generalize srest (srest (srest l 7) 2) 25 = l3 at *
  generalize sval (srest (srest l 7) 2) 25 = d at *
  generalize sval l 7 = b at *
  generalize sval (srest l 7) 2 = w at *
  have r4 := sval_range l3 7 (by decide)
  have r5 := sval_range l3 256 (by decide)
  have r6 := sval_range l3 2 (by decide)
  have r7 := sval_range (srest l3 2) 256 (by decide)
  have hd : d = 0 ∨ d = 1 ∨ d = 2 ∨ d = 3 ∨ d = 4 ∨ d = 5 ∨ d = 6 ∨ d = 7 ∨ d = 8 ∨ d = 9 ∨ d = 10 ∨ d = 11 ∨ d = 12 ∨ d = 13 ∨ d = 14 ∨ d = 15 ∨ d = 16 ∨ d = 17 ∨ d = 18 ∨ d = 19 ∨ d = 20 ∨ d = 21 ∨ d = 22 ∨ d = 23 ∨ d = 24 := by omega
  rcases hd with rfl | rfl | rfl | rfl | rfl | rfl | rfl | rfl | rfl | rfl | rfl | rfl | rfl | rfl | rfl | rfl | rfl | rfl | rfl | rfl | rfl | rfl | rfl | rfl | rfl <;>
    simp [mkStepD, VStep, usesT, usesL, fitsP] <;> omega
def VHead (c : Cyc) : Prop := (0 ≤ c.bus ∧ c.bus ≤ 2) ∧ (c.bus = 0 → c.at_ = 0 ∧ c.reg = 0) ∧ (0 ≤ c.at_ ∧ c.at_ < 12) ∧ (0 ≤ c.reg ∧ c.reg < 7)
theorem opnd_app (l : List Cyc) (c : Cyc) : opnd (l ++ [c]) = opnd l + if c.bus = 1 ∧ c.at_ = 0 then 1 else 0 := by
  unfold opnd
  rw [List.countP_append]
  by_cases h : c.bus = 1 ∧ c.at_ = 0
  · rw [if_pos h]; simp [List.countP_cons, h.1, h.2]
  · rw [if_neg h]
    have : (c.bus == 1 && c.at_ == 0) = false := by
      cases e : (c.bus == 1 && c.at_ == 0) with
      | false => rfl
      | true => exact absurd (by simpa using e) h
    simp [List.countP_cons, this]
theorem goReads_v : ∀ (n : Nat) (acc : List Cyc) (l : List Int), (∀ c ∈ acc, VHead c) → (∀ c ∈ (goReads n acc l).1, VHead c) ∧ opnd (goReads n acc l).1 = opnd acc + n := by
  intro n
  induction n with
  | zero => intro acc l h; exact ⟨h, by simp [goReads]⟩
  | succ n ih =>
    intro acc l h
    have r := sval_range l 7 (by decide)
    obtain ⟨h1, h2⟩ := ih (acc ++ [⟨1, 0, sval l 7, []⟩]) (srest l 7) (by
      intro c hc; rcases List.mem_append.1 hc with hc | hc
      · exact h c hc
      · simp only [List.mem_singleton] at hc; subst hc; unfold VHead; dsimp only; omega)
    refine ⟨h1, ?_⟩
    show opnd (goReads n _ _).1 = _
    rw [h2, opnd_app, if_pos ⟨rfl, rfl⟩]; omega
theorem moreC_v (l : List Int) : VHead (moreC l).1 ∧ ¬ ((moreC l).1.bus = 1 ∧ (moreC l).1.at_ = 0) := by
  have r1 := sval_range l 3 (by decide)
  have r2 := sval_range (srest l 3) 11 (by decide)
  have r3 := sval_range (srest (srest l 3) 11) 7 (by decide)
  unfold moreC VHead
  split
  · dsimp only
    exact ⟨⟨by omega, by omega, by omega, by omega⟩, by omega⟩
  · dsimp only
    exact ⟨⟨by omega, by omega, by omega, by omega⟩, by omega⟩
theorem goMore_v : ∀ (n : Nat) (acc : List Cyc) (l : List Int), (∀ c ∈ acc, VHead c) → (∀ c ∈ (goMore n acc l).1, VHead c) ∧ opnd (goMore n acc l).1 = opnd acc := by
  intro n
  induction n with
  | zero => intro acc l h; exact ⟨h, rfl⟩
  | succ n ih =>
    intro acc l h
    obtain ⟨m1, m2⟩ := moreC_v l
    obtain ⟨h1, h2⟩ := ih (acc ++ [(moreC l).1]) (moreC l).2 (by
      intro c hc; rcases List.mem_append.1 hc with hc | hc
      · exact h c hc
      · simp only [List.mem_singleton] at hc; subst hc; exact m1)
    refine ⟨h1, ?_⟩
    show opnd (goMore n _ _).1 = _
    rw [h2, opnd_app, if_neg m2]; omega
theorem goSteps_v (n : Nat) (l : List Int) : (goSteps n l).1.length ≤ 6 ∧ ∀ s ∈ (goSteps n l).1, VStep s := by
  match n with
  | 0 => exact ⟨Nat.zero_le _, by intro s hs; cases hs⟩
  | 1 => exact ⟨by show 1 ≤ 6; decide, by intro s hs; have hs : s ∈ [(mkStep l).1] := hs; simp only [List.mem_singleton] at hs; subst hs; exact mkStep_v l⟩
  | n + 2 => exact ⟨by show 2 ≤ 6; decide, by
      intro s hs
      have hs : s ∈ [(mkStep l).1, (mkStep (mkStep l).2).1] := hs
      simp only [List.mem_cons, List.not_mem_nil, or_false] at hs
      rcases hs with rfl | rfl
      · exact mkStep_v l
      · exact mkStep_v _⟩
theorem goFill_v : ∀ (td acc : List Cyc) (l : List Int), (∀ c ∈ acc, VCyc c) → (∀ c ∈ td, VHead c) → (∀ c ∈ (goFill td acc l).1, VCyc c) ∧ (goFill td acc l).1.length = acc.length + td.length ∧ opnd (goFill td acc l).1 = opnd acc + opnd td := by
  intro td
  induction td with
  | nil => intro acc l h _; exact ⟨h, rfl, by simp [goFill, opnd]⟩
  | cons c td ih =>
    intro acc l h hd
    obtain ⟨s1, s2⟩ := goSteps_v (sval l 3).toNat (srest l 3)
    obtain ⟨h1, h2, h3⟩ := ih (acc ++ [⟨c.bus, c.at_, c.reg, (goSteps (sval l 3).toNat (srest l 3)).1⟩]) (goSteps (sval l 3).toNat (srest l 3)).2 (by
      intro x hx; rcases List.mem_append.1 hx with hx | hx
      · exact h x hx
      · simp only [List.mem_singleton] at hx; subst hx
        obtain ⟨v1, v2, v3, v4⟩ := hd c (List.mem_cons_self ..)
        exact ⟨v1, v2, v3, v4, s1, s2⟩) (fun x hx => hd x (List.mem_cons_of_mem _ hx))
    refine ⟨h1, ?_, ?_⟩
    · show (goFill td _ _).1.length = _
      rw [h2]; simp; omega
    · show opnd (goFill td _ _).1 = _
      rw [h3, opnd_app]
      have : opnd (c :: td) = opnd td + if c.bus = 1 ∧ c.at_ = 0 then 1 else 0 := by
        unfold opnd
        rw [List.countP_cons]
        by_cases hc : c.bus = 1 ∧ c.at_ = 0
        · rw [if_pos hc]; simp [hc.1, hc.2]
        · rw [if_neg hc]
          have : (c.bus == 1 && c.at_ == 0) = false := by
            cases e : (c.bus == 1 && c.at_ == 0) with
            | false => rfl
            | true => exact absurd (by simpa using e) hc
          simp [this]
      rw [this]
      dsimp only
      omega
theorem mkCycles_v (n : Nat) (hn : n ≤ 2) (l : List Int) : VCycs (mkCycles n l).1 ∧ opnd (mkCycles n l).1 = n := by
  unfold mkCycles mkMore mkReads
  obtain ⟨a1, a2⟩ := goReads_v n [] l (by simp)
  obtain ⟨a3, _⟩ := goReads_spec n [] l (by simp)
  generalize goReads n [] l = R at *
  have r4 := sval_range R.2 4 (by decide)
  obtain ⟨b1, b2⟩ := goMore_v (sval R.2 4).toNat R.1 (srest R.2 4) a1
  have b3 : (goMore (sval R.2 4).toNat R.1 (srest R.2 4)).1.length = R.1.length + (sval R.2 4).toNat := by
    have key : ∀ (n : Nat) (acc : List Cyc) (l : List Int), (goMore n acc l).1.length = acc.length + n := by
      intro n; induction n with
      | zero => intro acc l; rfl
      | succ n ih => intro acc l; show (goMore n _ _).1.length = _; rw [ih]; simp; omega
    exact key _ _ _
  generalize goMore (sval R.2 4).toNat R.1 (srest R.2 4) = M at *
  obtain ⟨c1, c2, c3⟩ := goFill_v M.1 [] M.2 (by simp) b1
  refine ⟨⟨?_, c1⟩, ?_⟩
  · rw [c2, b3, a3]; simp; omega
  · rw [c3, b2, a2]; simp [opnd]
theorem VCycs.sml {l : List Cyc} (h : VCycs l) : SmlC l := ⟨h.1, fun c hc => (h.2 c hc).2.2.2.2.1⟩
end Go.Proofs.Ytjmmompbmjhkpaa.Calc

namespace Go.Proofs.Ytjmmompbmjhkpaa.Calc
open Go Code
set_option linter.unusedSimpArgs false
set_option linter.unusedVariables false
set_option maxRecDepth 20000
set_option maxHeartbeats 4000000
attribute [local irreducible] WOpsT AW AK RK AKW UK UC
structure VIns (x : Ins) : Prop where
  op : 0 ≤ x.op ∧ x.op ≤ 255
  name : VName x.name
  mode : 0 ≤ sizeM x.mode
  cy : VCycs x.cy
  opnd : opnd x.cy = sizeM x.mode
structure VCpu (c : Cpu) : Prop where
  name : VName c.name
  num : c.ins.length ≤ 256
  ins : ∀ x ∈ c.ins, VIns x
  order : ∀ i (h : i + 1 < c.ins.length), c.ins[i].op < c.ins[i + 1].op
  once : ∀ i j (h : j < c.ins.length) (hij : i < j), ¬ (c.ins[i].name = c.ins[j].name ∧ c.ins[i].mode = c.ins[j].mode)
  res : VCycs c.res
  irq : VCycs c.irq
  nmi : VCycs c.nmi
theorem tcheck_ok (c : Cpu) (hc : VCpu c) : FnE Try.prog 60 [.agg (cpC c)] [] (I 0) [] := by
  obtain ⟨hn, hl, hi, ho, hu, h1, h2, h3⟩ := hc
  obtain ⟨nm, ins, r1, r2, r3⟩ := c
  dsimp only at hn hl hi ho hu h1 h2 h3
  have hnm := name_ok nm hn
  have c1 := cycles_ok r1 h1
  have c2 := cycles_ok r2 h2
  have c3 := cycles_ok r3 h3
  unfold cpC
  dsimp only
  refine N.fn Try.func60 k60 lb q60 fun Q hQ hQN => ?_
  rw [c60]
  repeat' (first
  | rw [List.length_map]
  | refine N.regS fun K hK => ?_
  | refine N.dregS fun K hK => ?_
  | refine N.regN fun K hK => ?_
  | refine N.dregN fun K hK => ?_
  | simp only [T.mv, sm, AO.ev, put, lk, enter, reduceIte, Nat.reduceEqDiff, Nat.reduceAdd, Nat.reduceMul, Nat.reduceSub, Int.reduceNeg, Int.reduceToNat, upto, renB, setAll]
  | (refine T.nil ?_; (first | refine hK _ _ _ (by rfl) ?_ | refine hK _ _ _ ?_); (try simp only [keep, List.map, lk, reduceIte, Nat.reduceEqDiff, enter]); clear hK K)
  | (show WOpsT _ (⟨_, .call _ _, none⟩ :: _) _ _ _ _; first | refine T.call0 e113 rfl (hnm) ?_)
  | (show WOpsT _ (⟨_, .ld _ _, none⟩ :: _) _ _ _ _; first | refine L.ld ?_ | refine L.ldd ?_ | refine L.ldn ?_ | refine L.lddn ?_)
  | (show WOpsT _ (⟨_, .idx _ _ _ _, none⟩ :: _) _ _ _ _; first | refine L.idx ?_ | refine L.idxs ?_)
  | (show WOpsT _ (⟨_, .bin _ _ _, none⟩ :: _) _ _ _ _; first | refine L.add ?_ | refine L.sub ?_ | refine L.bin ?_)
  | (show WOpsT _ (⟨_, _, some (_, true)⟩ :: _) _ _ _ _; first | refine L.goT ?_ | refine L.paT ?_ | refine L.go ?_ | refine L.pass ?_ | refine T.pU rfl ?_ | refine T.gT rfl (fun hgd => ?_) (fun hgd => ?_))
  | (show WOpsT _ (⟨_, _, some (_, false)⟩ :: _) _ _ _ _; first | refine L.goF ?_ | refine L.paF ?_ | refine L.go ?_ | refine L.pass ?_ | refine T.pU rfl ?_ | refine T.gF rfl (fun hgd => ?_) (fun hgd => ?_))
  | (show WOpsT _ (⟨_, .pick _ _ _, none⟩ :: _) _ _ _ _; first | refine L.pkT ?_ | refine L.pkF ?_ | refine L.pickT ?_ | refine L.pickF ?_ | refine L.pickB ?_ | refine T.pkD rfl (fun hgd => ?_) (fun hgd => ?_))
  | (show AKW _ _ _ _ _ _ _; first | refine N.now ?_)
  | (show UK _ _ _ _ _ _ _ _; first | refine N.round ?_)
  | (show UC _ _ _ _ _ _ _ _; first | refine N.ucN ?_)
  | (show AK _ _ (.cond _ _ _) _ _ _ _; first | refine N.c1 ?_ | refine N.c2 ?_ | refine N.c3 ?_ | refine N.c4 ?_ | refine N.condD rfl (fun hcd => ?_) (fun hcd => ?_) | refine N.condB rfl (fun hcd => ?_) (fun hcd => ?_) | refine N.condU rfl ?_ ?_)
  | (show AK _ _ _ _ _ _ _; first | refine N.seq ?_ | refine N.block ?_ | refine N.skip ?_ | refine N.exit ?_ | refine N.ret ?_)
  | (show RK _ _ _ _ _ _ _; simp only [rk, rk0, reduceIte, Nat.reduceEqDiff])
  | (show WOpsT _ _ _ _ _ _; first | refine T.slcN rfl rfl rfl ?_ | refine T.notD rfl ?_ | refine T.not rfl ?_ | refine L.fad ?_ | refine L.fadd ?_ | refine L.st ?_ | refine L.new ?_ | refine L.zero ?_ | refine L.len ?_ | refine L.lenS ?_ | refine L.lenN ?_ | refine T.mkf ?_ | refine L.bsl ?_ | refine T.slc rfl rfl rfl rfl ⟨rfl, rfl⟩ (by omega) ?_ | refine T.slcS rfl rfl rfl rfl (by omega) ?_)
  | refine hQ _ _ _ rfl ?_
  | refine hQN _ _ _ rfl ?_)
  all_goals first
    | (exfalso; omega)
    | skip
  refine N.loop (σ := Nat) (fun i => [(1, .ptr 0 1 0 0), (20, .sl 4 (ins.map inC)), (21, I ins.length), (22, I i)]) (fun i => [⟨1, 5, [[.c (.string nm), .sl 4 (ins.map inC), .sl 4 (r1.map cyC), .sl 4 (r2.map cyC), .sl 4 (r3.map cyC)]]⟩]) (fun i => i ≤ ins.length) (fun i => ins.length - i) 0 (Nat.zero_le _) (Weaks.sel (by repeat (first | exact trivial | refine ⟨.rfl, ?_⟩ | refine ⟨.any, ?_⟩)) rfl) fun i hi2 R hC => ?_
  by_cases hil : i < ins.length
  · have hm := mget inC ins i hil
    have hx := hi _ (List.getElem_mem hil)
    have hpre : ¬ (0 ≤ idxI (fun y => decide (y.name = ins[i].name ∧ y.mode = ins[i].mode)) (ins.take i)) := by
      rw [idxI_none]
      · decide
      · intro j hj
        have hj2 : j < i := by rw [List.length_take] at hj; omega
        rw [List.getElem_take]
        exact decide_eq_false (hu j i hil hj2)
    have hct := containsI 114 e114 ins[i] (ins.take i) (fun y => decide (y.name = ins[i].name ∧ y.mode = ins[i].mode)) (by rw [List.length_take]; omega) (fun y _ => check1_ok y ins[i])
    rw [decide_eq_false hpre] at hct
    have hord : ∀ (h0 : 0 < i), ins[i - 1].op < ins[i].op := fun h0 => by
      have := ho (i - 1) (by omega)
      have e : i - 1 + 1 = i := by omega
      simp only [e] at this
      exact this
    have hm0 : 0 < i → (ins.map inC)[i - 1]? = some (inC (ins[i - 1]'(by omega))) := fun h0 => by rw [List.getElem?_map, List.getElem?_eq_getElem (by omega)]; rfl
    obtain ⟨v1, v2, v3, v4, v5⟩ := hx
    have hsz := size_ok ins[i].mode
    have hnx := name_ok _ v2
    have hcy := cycles_ok _ v4
    have hop := operand_ok _ v4.1
    rw [v5] at hop
    have e1 : ((i : Int) - 1).toNat = i - 1 := by omega
    have e2 : (List.drop (Int.toNat 0) (ins.map inC)).take ((i : Int).toNat - Int.toNat 0) = (ins.take i).map inC := by
      rw [show Int.toNat 0 = 0 from rfl, List.drop_zero, Int.toNat_natCast, Nat.sub_zero, List.map_take]
    have e3 : (ins.map inC).take i = (ins.take i).map inC := List.map_take.symm
    by_cases h0 : i = 0
    · subst h0
      generalize ins[0] = x at *
      obtain ⟨xo, xn, xm, xc⟩ := x
      dsimp only [inC] at hm v1 v2 v3 v4 v5 hsz hnx hcy hop hct
      repeat' (first
      | rw [e3]
      | (show WOpsT _ (⟨_, .idx _ _ _ _, none⟩ :: _) _ _ _ _; refine T.idxs rfl rfl rfl (by omega) hm ?_)
      | refine N.regS fun K hK => ?_
      | refine N.dregS fun K hK => ?_
      | refine N.regN fun K hK => ?_
      | refine N.dregN fun K hK => ?_
      | simp only [T.mv, sm, AO.ev, put, lk, enter, reduceIte, Nat.reduceEqDiff, Nat.reduceAdd, Nat.reduceMul, Nat.reduceSub, Int.reduceNeg, Int.reduceToNat, upto, renB, setAll]
      | (refine T.nil ?_; (first | refine hK _ _ _ (by rfl) ?_ | refine hK _ _ _ ?_); (try simp only [keep, List.map, lk, reduceIte, Nat.reduceEqDiff, enter]); clear hK K)
      | (show WOpsT _ (⟨_, .call _ _, none⟩ :: _) _ _ _ _; first | refine T.call0 e113 rfl (hnx) ?_ | refine T.call0 e68 rfl (hsz) ?_ | refine T.callQ [1] e64 rfl (hct) (by first | rfl | exact pasH_nil | (unfold pasH; simp only [List.map]; (repeat' (first | rfl | exact pasB_bytes | exact pasB_ints | exact pasB_flat | refine consE ?_ ?_)); done) | simp [pasH, pasB, cells_pas, bcells_pas]) rfl rfl rfl (by first | rfl | ((repeat' (first | rfl | exact renB_bytes | exact renB_ints | exact renB_flat | refine consE ?_ ?_)); done) | simp [renB, cells_ren, bcells_ren]) ?_ | refine T.call0 e115 rfl (hcy) ?_ | refine T.call0 e116 rfl (hop) ?_)
      | (show WOpsT _ (⟨_, .ld _ _, none⟩ :: _) _ _ _ _; first | refine L.ld ?_ | refine L.ldd ?_ | refine L.ldn ?_ | refine L.lddn ?_)
      | (show WOpsT _ (⟨_, .idx _ _ _ _, none⟩ :: _) _ _ _ _; first | refine L.idx ?_ | refine L.idxs ?_)
      | (show WOpsT _ (⟨_, .bin _ _ _, none⟩ :: _) _ _ _ _; first | refine L.add ?_ | refine L.sub ?_ | refine L.bin ?_)
      | (show WOpsT _ (⟨_, _, some (_, true)⟩ :: _) _ _ _ _; first | refine L.goT ?_ | refine L.paT ?_ | refine L.go ?_ | refine L.pass ?_ | refine T.pU rfl ?_ | refine T.gT rfl (fun hgd => ?_) (fun hgd => ?_))
      | (show WOpsT _ (⟨_, _, some (_, false)⟩ :: _) _ _ _ _; first | refine L.goF ?_ | refine L.paF ?_ | refine L.go ?_ | refine L.pass ?_ | refine T.pU rfl ?_ | refine T.gF rfl (fun hgd => ?_) (fun hgd => ?_))
      | (show WOpsT _ (⟨_, .pick _ _ _, none⟩ :: _) _ _ _ _; first | refine L.pkT ?_ | refine L.pkF ?_ | refine L.pickT ?_ | refine L.pickF ?_ | refine L.pickB ?_ | refine T.pkD rfl (fun hgd => ?_) (fun hgd => ?_))
      | (show AKW _ _ _ _ _ _ _; first | refine N.now ?_)
      | (show UK _ _ _ _ _ _ _ _; first | refine N.round ?_)
      | (show UC _ _ _ _ _ _ _ _; first | refine N.ucN ?_)
      | (show AK _ _ (.cond _ _ _) _ _ _ _; first | refine N.c1 ?_ | refine N.c2 ?_ | refine N.c3 ?_ | refine N.c4 ?_ | refine N.condD rfl (fun hcd => ?_) (fun hcd => ?_) | refine N.condB rfl (fun hcd => ?_) (fun hcd => ?_) | refine N.condU rfl ?_ ?_)
      | (show AK _ _ _ _ _ _ _; first | refine N.seq ?_ | refine N.block ?_ | refine N.skip ?_ | refine N.exit ?_ | refine N.ret ?_)
      | (show RK _ _ _ _ _ _ _; simp only [rk, rk0, reduceIte, Nat.reduceEqDiff])
      | (show WOpsT _ _ _ _ _ _; first | refine T.slcN rfl rfl rfl ?_ | refine T.notD rfl ?_ | refine T.not rfl ?_ | refine L.fad ?_ | refine L.fadd ?_ | refine L.st ?_ | refine L.new ?_ | refine L.zero ?_ | refine L.len ?_ | refine L.lenS ?_ | refine L.lenN ?_ | refine T.mkf ?_ | refine L.bsl ?_ | refine T.slc rfl rfl rfl rfl ⟨rfl, rfl⟩ (by omega) ?_ | refine T.slcS rfl rfl rfl rfl (by omega) ?_)
      | refine hQ _ _ _ rfl ?_
      | refine hQN _ _ _ rfl ?_)
      exact hC _ _ (0 + 1) (by omega) (by omega) (Weaks.gc [0] 1 rfl (by repeat (first | exact trivial | refine ⟨.rfl, ?_⟩ | refine ⟨.any, ?_⟩)) (by first | rfl | (symm; unfold outH; simp only [List.map]; (repeat' (first | rfl | exact outB_bytes | exact outB_ints | exact outB_flat | refine consE ?_ ?_)); done)))
    · have hord := hord (by omega)
      have hm0 := hm0 (by omega)
      generalize ins[i - 1] = w at *
      generalize ins[i] = x at *
      obtain ⟨xo, xn, xm, xc⟩ := x
      obtain ⟨wo, wn, wm, wc⟩ := w
      dsimp only [inC] at hm hm0 hord v1 v2 v3 v4 v5 hsz hnx hcy hop hct
      repeat' (first
      | rw [e1]
      | rw [e2]
      | rw [e3]
      | (show WOpsT _ (⟨_, .idx _ _ _ _, none⟩ :: _) _ _ _ _; refine T.idxs rfl rfl rfl (by omega) hm ?_)
      | (show WOpsT _ (⟨_, .idx _ _ _ _, none⟩ :: _) _ _ _ _; refine T.idxs rfl rfl rfl (by omega) (by rw [e1]; exact hm0) ?_)
      | (show WOpsT _ (⟨_, .slc _ _ _ _, none⟩ :: _) _ _ _ _; refine T.slcS rfl rfl rfl rfl (by rw [List.length_map]; omega) ?_)
      | refine N.regS fun K hK => ?_
      | refine N.dregS fun K hK => ?_
      | refine N.regN fun K hK => ?_
      | refine N.dregN fun K hK => ?_
      | simp only [T.mv, sm, AO.ev, put, lk, enter, reduceIte, Nat.reduceEqDiff, Nat.reduceAdd, Nat.reduceMul, Nat.reduceSub, Int.reduceNeg, Int.reduceToNat, upto, renB, setAll]
      | (refine T.nil ?_; (first | refine hK _ _ _ (by rfl) ?_ | refine hK _ _ _ ?_); (try simp only [keep, List.map, lk, reduceIte, Nat.reduceEqDiff, enter]); clear hK K)
      | (show WOpsT _ (⟨_, .call _ _, none⟩ :: _) _ _ _ _; first | refine T.call0 e113 rfl (hnx) ?_ | refine T.call0 e68 rfl (hsz) ?_ | refine T.callQ [1] e64 rfl (hct) (by first | rfl | exact pasH_nil | (unfold pasH; simp only [List.map]; (repeat' (first | rfl | exact pasB_bytes | exact pasB_ints | exact pasB_flat | refine consE ?_ ?_)); done) | simp [pasH, pasB, cells_pas, bcells_pas]) rfl rfl rfl (by first | rfl | ((repeat' (first | rfl | exact renB_bytes | exact renB_ints | exact renB_flat | refine consE ?_ ?_)); done) | simp [renB, cells_ren, bcells_ren]) ?_ | refine T.call0 e115 rfl (hcy) ?_ | refine T.call0 e116 rfl (hop) ?_)
      | (show WOpsT _ (⟨_, .ld _ _, none⟩ :: _) _ _ _ _; first | refine L.ld ?_ | refine L.ldd ?_ | refine L.ldn ?_ | refine L.lddn ?_)
      | (show WOpsT _ (⟨_, .idx _ _ _ _, none⟩ :: _) _ _ _ _; first | refine L.idx ?_ | refine L.idxs ?_)
      | (show WOpsT _ (⟨_, .bin _ _ _, none⟩ :: _) _ _ _ _; first | refine L.add ?_ | refine L.sub ?_ | refine L.bin ?_)
      | (show WOpsT _ (⟨_, _, some (_, true)⟩ :: _) _ _ _ _; first | refine L.goT ?_ | refine L.paT ?_ | refine L.go ?_ | refine L.pass ?_ | refine T.pU rfl ?_ | refine T.gT rfl (fun hgd => ?_) (fun hgd => ?_))
      | (show WOpsT _ (⟨_, _, some (_, false)⟩ :: _) _ _ _ _; first | refine L.goF ?_ | refine L.paF ?_ | refine L.go ?_ | refine L.pass ?_ | refine T.pU rfl ?_ | refine T.gF rfl (fun hgd => ?_) (fun hgd => ?_))
      | (show WOpsT _ (⟨_, .pick _ _ _, none⟩ :: _) _ _ _ _; first | refine L.pkT ?_ | refine L.pkF ?_ | refine L.pickT ?_ | refine L.pickF ?_ | refine L.pickB ?_ | refine T.pkD rfl (fun hgd => ?_) (fun hgd => ?_))
      | (show AKW _ _ _ _ _ _ _; first | refine N.now ?_)
      | (show UK _ _ _ _ _ _ _ _; first | refine N.round ?_)
      | (show UC _ _ _ _ _ _ _ _; first | refine N.ucN ?_)
      | (show AK _ _ (.cond _ _ _) _ _ _ _; first | refine N.c1 ?_ | refine N.c2 ?_ | refine N.c3 ?_ | refine N.c4 ?_ | refine N.condD rfl (fun hcd => ?_) (fun hcd => ?_) | refine N.condB rfl (fun hcd => ?_) (fun hcd => ?_) | refine N.condU rfl ?_ ?_)
      | (show AK _ _ _ _ _ _ _; first | refine N.seq ?_ | refine N.block ?_ | refine N.skip ?_ | refine N.exit ?_ | refine N.ret ?_)
      | (show RK _ _ _ _ _ _ _; simp only [rk, rk0, reduceIte, Nat.reduceEqDiff])
      | (show WOpsT _ _ _ _ _ _; first | refine T.slcN rfl rfl rfl ?_ | refine T.notD rfl ?_ | refine T.not rfl ?_ | refine L.fad ?_ | refine L.fadd ?_ | refine L.st ?_ | refine L.new ?_ | refine L.zero ?_ | refine L.len ?_ | refine L.lenS ?_ | refine L.lenN ?_ | refine T.mkf ?_ | refine L.bsl ?_ | refine T.slc rfl rfl rfl rfl ⟨rfl, rfl⟩ (by omega) ?_ | refine T.slcS rfl rfl rfl rfl (by omega) ?_)
      | refine hQ _ _ _ rfl ?_
      | refine hQN _ _ _ rfl ?_)
      all_goals first
        | exact hC _ _ (i + 1) (by omega) (by omega) (Weaks.gc [0] 1 rfl (by repeat (first | exact trivial | refine ⟨.rfl, ?_⟩ | refine ⟨.any, ?_⟩)) (by first | rfl | (symm; unfold outH; simp only [List.map]; (repeat' (first | rfl | exact outB_bytes | exact outB_ints | exact outB_flat | refine consE ?_ ?_)); done)))
        | (exfalso; omega)
        | trace_state
  · obtain rfl : i = ins.length := by omega
    repeat' (first
    | (show AK _ _ (.loop _) _ _ _ _; refine N.unroll 4 ?_)
    | refine N.regS fun K hK => ?_
    | refine N.dregS fun K hK => ?_
    | refine N.regN fun K hK => ?_
    | refine N.dregN fun K hK => ?_
    | simp only [T.mv, sm, AO.ev, put, lk, enter, reduceIte, Nat.reduceEqDiff, Nat.reduceAdd, Nat.reduceMul, Nat.reduceSub, Int.reduceNeg, Int.reduceToNat, upto, renB, setAll]
    | (refine T.nil ?_; (first | refine hK _ _ _ (by rfl) ?_ | refine hK _ _ _ ?_); (try simp only [keep, List.map, lk, reduceIte, Nat.reduceEqDiff, enter]); clear hK K)
    | (show WOpsT _ (⟨_, .call _ _, none⟩ :: _) _ _ _ _; first | refine T.call0 e115 rfl (c1) ?_ | refine T.call0 e115 rfl (c2) ?_ | refine T.call0 e115 rfl (c3) ?_)
    | (show WOpsT _ (⟨_, .ld _ _, none⟩ :: _) _ _ _ _; first | refine L.ld ?_ | refine L.ldd ?_ | refine L.ldn ?_ | refine L.lddn ?_)
    | (show WOpsT _ (⟨_, .idx _ _ _ _, none⟩ :: _) _ _ _ _; first | refine L.idx ?_ | refine L.idxs ?_)
    | (show WOpsT _ (⟨_, .bin _ _ _, none⟩ :: _) _ _ _ _; first | refine L.add ?_ | refine L.sub ?_ | refine L.bin ?_)
    | (show WOpsT _ (⟨_, _, some (_, true)⟩ :: _) _ _ _ _; first | refine L.goT ?_ | refine L.paT ?_ | refine L.go ?_ | refine L.pass ?_ | refine T.pU rfl ?_ | refine T.gT rfl (fun hgd => ?_) (fun hgd => ?_))
    | (show WOpsT _ (⟨_, _, some (_, false)⟩ :: _) _ _ _ _; first | refine L.goF ?_ | refine L.paF ?_ | refine L.go ?_ | refine L.pass ?_ | refine T.pU rfl ?_ | refine T.gF rfl (fun hgd => ?_) (fun hgd => ?_))
    | (show WOpsT _ (⟨_, .pick _ _ _, none⟩ :: _) _ _ _ _; first | refine L.pkT ?_ | refine L.pkF ?_ | refine L.pickT ?_ | refine L.pickF ?_ | refine L.pickB ?_ | refine T.pkD rfl (fun hgd => ?_) (fun hgd => ?_))
    | (show AKW _ _ _ _ _ _ _; first | refine N.now ?_)
    | (show UK _ _ _ _ _ _ _ _; first | refine N.round ?_)
    | (show UC _ _ _ _ _ _ _ _; first | refine N.ucN ?_)
    | (show AK _ _ (.cond _ _ _) _ _ _ _; first | refine N.c1 ?_ | refine N.c2 ?_ | refine N.c3 ?_ | refine N.c4 ?_ | refine N.condD rfl (fun hcd => ?_) (fun hcd => ?_) | refine N.condB rfl (fun hcd => ?_) (fun hcd => ?_) | refine N.condU rfl ?_ ?_)
    | (show AK _ _ _ _ _ _ _; first | refine N.seq ?_ | refine N.block ?_ | refine N.skip ?_ | refine N.exit ?_ | refine N.ret ?_)
    | (show RK _ _ _ _ _ _ _; simp only [rk, rk0, reduceIte, Nat.reduceEqDiff])
    | (show WOpsT _ _ _ _ _ _; first | refine T.slcN rfl rfl rfl ?_ | refine T.notD rfl ?_ | refine T.not rfl ?_ | refine L.fad ?_ | refine L.fadd ?_ | refine L.st ?_ | refine L.new ?_ | refine L.zero ?_ | refine L.len ?_ | refine L.lenS ?_ | refine L.lenN ?_ | refine T.mkf ?_ | refine L.bsl ?_ | refine T.slc rfl rfl rfl rfl ⟨rfl, rfl⟩ (by omega) ?_ | refine T.slcS rfl rfl rfl rfl (by omega) ?_)
    | refine hQ _ _ _ rfl ?_
    | refine hQN _ _ _ rfl ?_)
    exact WS.c rfl rfl
end Go.Proofs.Ytjmmompbmjhkpaa.Calc

namespace Go.Proofs.Ytjmmompbmjhkpaa.Calc
open Go
set_option linter.unusedVariables false
set_option linter.unusedSimpArgs false
def vnameB (s : ByteArray) : Bool := decide (1 ≤ s.size) && decide (s.size ≤ 20) && (match s[0]? with
  | some b => decide (97 ≤ b.toNat) && decide (b.toNat ≤ 122)
  | none => false) && (nmB s).all fun b => decide ((97 ≤ b ∧ b ≤ 122) ∨ (48 ≤ b ∧ b ≤ 57) ∨ b = 45)
theorem vname_of (s : ByteArray) (h : vnameB s = true) : VName s := by
  unfold vnameB at h
  rw [Bool.and_eq_true, Bool.and_eq_true, Bool.and_eq_true] at h
  obtain ⟨⟨⟨h1, h2⟩, h3⟩, h4⟩ := h
  refine ⟨⟨of_decide_eq_true h1, of_decide_eq_true h2⟩, ?_, fun x hx => by have h5 := List.all_eq_true.1 h4 x hx; unfold okCh; exact of_decide_eq_true h5⟩
  cases hs : s[0]? with
  | none => rw [hs] at h3; cases h3
  | some b =>
    rw [hs] at h3
    dsimp only at h3
    rw [Bool.and_eq_true] at h3
    have a := of_decide_eq_true h3.1
    have b' := of_decide_eq_true h3.2
    exact ⟨b, rfl, by omega, by omega⟩
theorem nameC_all : ∀ v : Nat, v < 26 → vnameB (nameC (v : Int)) = true := by decide +kernel
theorem nameI_all : ∀ v : Nat, v < 26 → vnameB (nameI (v : Int)) = true := by decide +kernel
theorem nameI_inj : ∀ v : Nat, v < 8 → ∀ w : Nat, w < v → nameI (w : Int) ≠ nameI (v : Int) := by decide +kernel
theorem sizeM_rdN : ∀ m : Nat, m < 9 → sizeM (m : Int) = rdN m := by decide +kernel
theorem mkIn_v (i : Nat) (hi : i < 8) (a : Int) (ha : 0 ≤ a ∧ a ≤ 30 * i) (l : List Int) : VIns (mkIn i a l) ∧ a ≤ (mkIn i a l).op ∧ (mkIn i a l).op < a + (1 + sval l 30) := by
  have r1 := sval_range l 30 (by decide)
  have r2 := sval_range (srest l 30) 9 (by decide)
  have hs := sizeM_rdN (sval (srest l 30) 9).toNat (by omega)
  rw [show (((sval (srest l 30) 9).toNat : Nat) : Int) = sval (srest l 30) 9 by omega] at hs
  obtain ⟨h1, h2⟩ := mkCycles_v (rdN (sval (srest l 30) 9).toNat) (rdN_le _) (srest (srest l 30) 9)
  refine ⟨⟨?_, vname_of _ (nameI_all i (by omega)), ?_, h1, ?_⟩, ?_, ?_⟩
  · show 0 ≤ a + (1 + sval l 30) - 1 ∧ a + (1 + sval l 30) - 1 ≤ 255; omega
  · show 0 ≤ sizeM (sval (srest l 30) 9); rw [hs]; omega
  · show opnd _ = sizeM (sval (srest l 30) 9); rw [hs]; exact h2
  · show a ≤ a + (1 + sval l 30) - 1; omega
  · show a + (1 + sval l 30) - 1 < a + (1 + sval l 30); omega
structure InsInv (i : Nat) (a : Int) (acc : List Ins) : Prop where
  len : acc.length = i
  ins : ∀ x ∈ acc, VIns x
  names : ∀ j (h : j < acc.length), acc[j].name = nameI (j : Int)
  below : ∀ x ∈ acc, x.op < a
  order : ∀ j (h : j + 1 < acc.length), acc[j].op < acc[j + 1].op
theorem goIns_v : ∀ (n i : Nat) (a : Int) (acc : List Ins) (l : List Int), i + n ≤ 8 → 0 ≤ a ∧ a ≤ 30 * i → InsInv i a acc → ∃ a', InsInv (i + n) a' (goIns n i a acc l).1 := by
  intro n
  induction n with
  | zero => intro i a acc l _ _ h; exact ⟨a, h⟩
  | succ n ih =>
    intro i a acc l hn ha h
    obtain ⟨v1, v2, v3⟩ := mkIn_v i (by omega) a ha l
    have r1 := sval_range l 30 (by decide)
    have key : InsInv (i + 1) (a + (1 + sval l 30)) (acc ++ [mkIn i a l]) := by
      refine ⟨by rw [List.length_append, h.len]; rfl, ?_, ?_, ?_, ?_⟩
      · intro x hx
        rcases List.mem_append.1 hx with hx | hx
        · exact h.ins x hx
        · simp only [List.mem_singleton] at hx; subst hx; exact v1
      · intro j hj
        by_cases hja : j < acc.length
        · rw [List.getElem_append_left hja]; exact h.names j hja
        · have : j = acc.length := by rw [List.length_append] at hj; simp at hj; omega
          subst this
          rw [List.getElem_append_right (Nat.le_refl _)]
          simp only [Nat.sub_self, List.getElem_cons_zero]
          rw [h.len]; rfl
      · intro x hx
        rcases List.mem_append.1 hx with hx | hx
        · have := h.below x hx; omega
        · simp only [List.mem_singleton] at hx; subst hx; exact v3
      · intro j hj
        by_cases hja : j + 1 < acc.length
        · rw [List.getElem_append_left hja, List.getElem_append_left (by omega)]; exact h.order j hja
        · have : j + 1 = acc.length := by rw [List.length_append] at hj; simp at hj; omega
          rw [List.getElem_append_left (show j < acc.length by omega)]
          have h2 := h.below acc[j] (List.getElem_mem _)
          have e : (acc ++ [mkIn i a l])[j + 1] = mkIn i a l := by
            rw [List.getElem_append_right (by omega)]
            simp [this]
          rw [e]; omega
    obtain ⟨a', h'⟩ := ih (i + 1) (a + (1 + sval l 30)) (acc ++ [mkIn i a l]) (mkInR l) (by omega) (by omega) key
    exact ⟨a', by rw [show i + (n + 1) = i + 1 + n by omega]; exact h'⟩
theorem mkCpu_v (l : List Int) : VCpu (mkCpu l) := by
  have r := sval_range l 26 (by decide)
  have r2 := sval_range (srest l 26) 8 (by decide)
  obtain ⟨a', h⟩ := goIns_v (1 + sval (srest l 26) 8).toNat 0 0 [] (srest (srest l 26) 8) (by omega) (by omega) ⟨rfl, by simp, fun j hj => absurd hj (by simp), by simp, fun j hj => absurd hj (by simp)⟩
  have hn := nameC_all (sval l 26).toNat (by omega)
  rw [show (((sval l 26).toNat : Nat) : Int) = sval l 26 by omega] at hn
  refine ⟨vname_of _ hn, ?_, h.ins, h.order, ?_, (mkCycles_v 0 (by decide) _).1, (mkCycles_v 0 (by decide) _).1, (mkCycles_v 0 (by decide) _).1⟩
  · show (goIns _ _ _ _ _).1.length ≤ 256
    rw [h.len]; omega
  · intro i j hj hij
    have hlen : (mkCpu l).ins.length = 0 + (1 + sval (srest l 26) 8).toNat := h.len
    have e1 := h.names i (by have : (mkCpu l).ins.length = (goIns (1 + sval (srest l 26) 8).toNat 0 0 [] (srest (srest l 26) 8)).1.length := rfl; omega)
    have e2 := h.names j hj
    intro hc
    exact nameI_inj j (by omega) i hij (by rw [← e1, ← e2]; exact hc.1)
end Go.Proofs.Ytjmmompbmjhkpaa.Calc

namespace Go.Proofs.Ytjmmompbmjhkpaa.Calc
open Go Code
set_option linter.unusedSimpArgs false
set_option linter.unusedVariables false
set_option maxRecDepth 20000
set_option maxHeartbeats 4000000
attribute [local irreducible] WOpsT AW AK RK AKW UK UC
def lsM (l : List Cyc) (i : Nat) : Nat := leastM (l.take i) 0 l.length
end Go.Proofs.Ytjmmompbmjhkpaa.Calc

namespace Go.Proofs.Ytjmmompbmjhkpaa.Calc
open Go
set_option linter.unusedVariables false
set_option linter.unusedSimpArgs false
theorem askTell_in (c : Cpu) (k : Core) (irq : Bool) (d : Int) (x : Cyc) (l : List Cyc) (j : Nat) (ho : 0 ≤ k.op ∧ k.op ≤ 255) (hl : cycM c k.op = l) (ha : k.a = j) (hj : l[j]? = some x) :
    (tellM c (askM c k irq).1 d).op = -1 ∧ (j + 1 = l.length ∨ hasIf x.steps = true) ∨ (tellM c (askM c k irq).1 d).op = k.op ∧ (tellM c (askM c k irq).1 d).a = ((j + 1 : Nat) : Int) ∧ j + 1 < l.length := by
  obtain ⟨r, op, a, nmi⟩ := k
  dsimp only at ho hl ha ⊢
  subst ha
  have hlt := (List.getElem?_eq_some_iff.1 hj).1
  have hd : doingM c op (j : Int) = some x := by
    unfold doingM
    rw [if_neg (by omega), hl, Int.toNat_natCast]; exact hj
  have hask : (askM c ⟨r, op, j, nmi⟩ irq).1.op = op ∧ (askM c ⟨r, op, j, nmi⟩ irq).1.a = j := by
    unfold askM askA
    dsimp only
    rw [if_neg (by omega)]
    unfold askB
    dsimp only
    rw [if_neg (by omega), hd]
    dsimp only
    split <;> exact ⟨rfl, rfl⟩
  generalize (askM c ⟨r, op, j, nmi⟩ irq).1 = k2 at *
  obtain ⟨r2, op2, a2, n2⟩ := k2
  obtain ⟨h1, h2⟩ := hask
  dsimp only at h1 h2
  subst h1 h2
  unfold tellM
  dsimp only
  rw [if_neg (by omega)]
  unfold tellB
  dsimp only
  rw [hd]
  dsimp only
  split
  · rename_i h
    refine .inl ⟨rfl, ?_⟩
    rcases h with h | h
    · exact .inr (stepsM_if _ _ h)
    · rw [hl] at h; exact .inl (by omega)
  · rename_i h
    refine .inr ⟨rfl, rfl, ?_⟩
    have h5 : ¬ (((cycM c op2).length : Int) ≤ (j : Int) + 1) := fun h2 => h (.inr h2)
    rw [hl] at h5
    omega
def EndI (op : Int) (l : List Cyc) (n : Nat) (k : Core) : Prop := (k.op = -1 ∧ lsM l l.length ≤ n ∧ n ≤ l.length) ∨ (k.op = op ∧ k.a = n ∧ n < l.length)
theorem lsM_at (l : List Cyc) (j : Nat) (hj : j < l.length) (h : hasIf l[j].steps = true) : lsM l l.length ≤ j + 1 := by
  unfold lsM
  rw [List.take_length]
  have := leastM_at l 0 l.length j hj h
  omega
theorem lsM_le (l : List Cyc) : lsM l l.length ≤ l.length := leastM_le _ _ _
theorem EndI.step (c : Cpu) (op : Int) (l : List Cyc) (n : Nat) (k : Core) (ho : 0 ≤ op ∧ op ≤ 255) (hl : cycM c op = l) (h : EndI op l n k) (hk : k.op ≠ -1) (d : Int) : EndI op l (n + 1) (tellM c (askM c k true).1 d) := by
  rcases h with ⟨h, _⟩ | ⟨h1, h2, h3⟩
  · exact absurd h hk
  · have := askTell_in c k true d l[n] l n (by rw [h1]; exact ho) (by rw [h1]; exact hl) h2 (List.getElem?_eq_getElem h3)
    rcases this with ⟨e1, e2⟩ | ⟨e1, e2, e3⟩
    · refine .inl ⟨e1, ?_, by omega⟩
      rcases e2 with e2 | e2
      · rw [e2]; exact lsM_le l
      · exact lsM_at l n h3 e2
    · exact .inr ⟨e1.trans h1, e2, e3⟩
theorem goIns_sml : ∀ (n i : Nat) (at_ : Int) (acc : List Ins) (l : List Int), (∀ x ∈ acc, SmlC x.cy) → (∀ x ∈ (goIns n i at_ acc l).1, SmlC x.cy) ∧ (goIns n i at_ acc l).1.length = acc.length + n := by
  intro n
  induction n with
  | zero => intro i at_ acc l h; exact ⟨h, rfl⟩
  | succ n ih =>
    intro i at_ acc l h
    obtain ⟨h1, h2⟩ := ih (i + 1) (at_ + (1 + sval l 30)) (acc ++ [mkIn i at_ l]) (mkInR l) (by
      intro x hx; rcases List.mem_append.1 hx with hx | hx
      · exact h x hx
      · simp only [List.mem_singleton] at hx; subst hx; exact (mkCycles_v _ (rdN_le _) _).1.sml)
    refine ⟨h1, ?_⟩
    show (goIns n _ _ _ _).1.length = _
    rw [h2]; simp; omega
theorem mkCpu_sml (l : List Int) : SmlP (mkCpu l) := by
  have r := sval_range (srest l 26) 8 (by decide)
  obtain ⟨h1, h2⟩ := goIns_sml (1 + sval (srest l 26) 8).toNat 0 0 [] (srest (srest l 26) 8) (by simp)
  exact ⟨by show (goIns _ _ _ _ _).1.length ≤ 256; rw [h2, List.length_nil]; omega, h1, (mkCycles_v 0 (by decide) _).1.sml, (mkCycles_v 0 (by decide) _).1.sml, (mkCycles_v 0 (by decide) _).1.sml⟩
end Go.Proofs.Ytjmmompbmjhkpaa.Calc

