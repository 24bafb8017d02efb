/- BoardClashes returns true for each input, and leaves what was there as it was. No condition beyond the statement's own. -/
import Derived.Test.YtdbbnlafkndcnaaRows
import Derived.Test.YtdbbnlafkndcnaaPLawBoardClashesR
import Derived.Test.YtdbbnlafkndcnaaPLawBoardClashesC
import Derived.WalkKit
import Derived.ProofKit
import Derived.OpenShut
import Derived.ShutString
import Derived.ChangeOld
import Derived.Below
import Derived.SizedLaws
import Derived.Carry
namespace Go.Proofs.Ytdbbnlafkndcnaa.boardClashes
open Go.ChangeShapes Go.WideShapes Go.ChangeAt Go.RowKit
set_option linter.unusedVariables false
theorem own : ownKnob Try.prog.godebug = none := by kernel_rfl
theorem laidOut : laidOutB Try.prog = true := by kernel_rfl
set_option maxRecDepth 100000 in
theorem lifted (os : Os) (started : os.Started) (H : Type) (enc : TypeId × Value → H) :
    ReturnsInHanded {} Try.checked os 5 .any (Rows.boardClashesSpec.pre6 enc Try.prog Try.f5 Rows.boardClashesRow.domain false) (Rows.boardClashesSpec.post enc Try.prog Try.f5 false true false false) := by
  refine returnsInHanded_of_change_sized (C := Try.checked) own started (by kernel_rfl) Try.func5
    (ChangeSpec.witness6 (enc := enc) (C := Try.checked) false ⟨#[], #[.slice none 0 0, .int .i64 0, .int .i64 0, .int .i64 0], []⟩ 8 (by kernel_rfl) (by kernel_rfl) (by kernel_rfl) (by kernel_rfl)) ?_
  intro W base args ds gs before hval0 hW hcnd hsz0 _
  have hsz : (DataW.weightsEach Try.prog (Try.f5.params.toList ++ Rows.boardClashesSpec.plain.varTypes Try.prog) (ds ++ gs)).all (· ≤ reachBytes) = true := hsz0
  have hval : ∀ (j : Nat) t v, Try.f5.params[j]? = some t → args[j]? = some v → Value.okWide Try.prog W .any base t v := hval0
  have hW' := hW
  obtain ⟨p, q, hA0, hV, rfl, hfz, hnd⟩ := hW
  have hA : DataW.TrodAll enc Try.prog W 0 (fun _ => true) true Try.f5.params.toList args.toList ds p := hA0
  rw [Try.params5] at hA hval hsz
  obtain ⟨v0, vs0, d0, ds0, p0, q0, hargs, rfl, rfl, h0, r0⟩ := trodAll_cons hA
  obtain ⟨v1, vs1, d1, ds1, p1, q1, rfl, rfl, rfl, h1, r1⟩ := trodAll_cons r0
  obtain ⟨v2, vs2, d2, ds2, p2, q2, rfl, rfl, rfl, h2, r2⟩ := trodAll_cons r1
  obtain ⟨v3, vs3, d3, ds3, p3, q3, rfl, rfl, rfl, h3, r3⟩ := trodAll_cons r2
  obtain ⟨rfl, rfl, rfl⟩ := trodAll_nil r3
  obtain rfl : args = #[v0, v1, v2, v3] := by cases args; simp_all
  obtain ⟨rfl, rfl⟩ := trodVars_none hV
  obtain ⟨a0, len0, cap0, rfl⟩ := okWide_slice Try.underlying22 (hval 0 22 v0 rfl rfl)
  have k0 := h0
  have lt0 : ∀ x ∈ p0, x.block < W.heap.size := by obtain ⟨m, hm⟩ := k0; exact DataW.trod_lt m _ _ _ hm
  obtain ⟨l0, R0, y0, z0⟩ := Calc.ints_rel hsz (j := 0) (t := 22) rfl rfl Try.underlying22 Try.underlying3 (by kernel_rfl) (B := 8) (by kernel_rfl) h0
  have b0 := fun n hn => bounds_i64 (z0 n hn)
  obtain ⟨a1, rfl, rfl, rfl, w1⟩ := open_int Try.underlying3 (hval 1 3 v1 rfl rfl) h1
  have b1 := bounds_i64 w1
  obtain ⟨a2, rfl, rfl, rfl, w2⟩ := open_int Try.underlying3 (hval 2 3 v2 rfl rfl) h2
  have b2 := bounds_i64 w2
  obtain ⟨a3, rfl, rfl, rfl, w3⟩ := open_int Try.underlying3 (hval 3 3 v3 rfl rfl) h3
  have b3 := bounds_i64 w3
  clear hA0 hval0 hsz0 hsz
  refine (Calc.FnE.callsR (Calc.clashes_ok l0 a1 a2 a3) W [.slice a0 len0 cap0, .int .i64 a1, .int .i64 a2, .int .i64 a3] ⟨R0, ⟨.c, ⟨.c, ⟨.c, trivial⟩⟩⟩⟩).mono fun e W' ⟨he, bel⟩ => ?_
  subst he
  exact ⟨_, rfl, _, _, _, [], _, [], hW', trodAll_mk1 (shut_bool Try.underlying4 _), (trodAll_cons_mk (Below.trod laidOut (by kernel_rfl) (of_decide_eq_true (by kernel_rfl)) k0 bel lt0) (trodAll_cons_mk (shut_int Try.underlying3 w1) (trodAll_cons_mk (shut_int Try.underlying3 w2) (trodAll_cons_mk (shut_int Try.underlying3 w3) trodAll_mk0)))), rfl, bel.frame _, fun h => by cases h⟩
def ioL : List Char := [Char.ofNat 104, Char.ofNat 97, Char.ofNat 114, Char.ofNat 110, Char.ofNat 101, Char.ofNat 115, Char.ofNat 115, Char.ofNat 32, Char.ofNat 48, Char.ofNat 53, Char.ofNat 52, Char.ofNat 50, Char.ofNat 48, Char.ofNat 101, Char.ofNat 53, Char.ofNat 50, Char.ofNat 49, Char.ofNat 55, Char.ofNat 57, Char.ofNat 56, Char.ofNat 97, Char.ofNat 48, Char.ofNat 57, Char.ofNat 52, Char.ofNat 98, Char.ofNat 56, Char.ofNat 50, Char.ofNat 50, Char.ofNat 57, Char.ofNat 99, Char.ofNat 101, Char.ofNat 54, Char.ofNat 99, Char.ofNat 52, Char.ofNat 51, Char.ofNat 50, Char.ofNat 50, Char.ofNat 51, Char.ofNat 98, Char.ofNat 54, Char.ofNat 102, Char.ofNat 97, Char.ofNat 55, Char.ofNat 101, Char.ofNat 97, Char.ofNat 57, Char.ofNat 52, Char.ofNat 48, Char.ofNat 49, Char.ofNat 48, Char.ofNat 54, Char.ofNat 49, Char.ofNat 57, Char.ofNat 54, Char.ofNat 102, Char.ofNat 100, Char.ofNat 51, Char.ofNat 99, Char.ofNat 51, Char.ofNat 99, Char.ofNat 102, Char.ofNat 97, Char.ofNat 102, Char.ofNat 100, Char.ofNat 100, Char.ofNat 56, Char.ofNat 97, Char.ofNat 99, Char.ofNat 48, Char.ofNat 101, Char.ofNat 50, Char.ofNat 97, Char.ofNat 32, Char.ofNat 99, Char.ofNat 117, Char.ofNat 116, Char.ofNat 32, Char.ofNat 97, Char.ofNat 116, Char.ofNat 32, Char.ofNat 98, Char.ofNat 97, Char.ofNat 107, Char.ofNat 101, Char.ofNat 108, Char.ofNat 105, Char.ofNat 116, Char.ofNat 101, Char.ofNat 47, Char.ofNat 98, Char.ofNat 97, Char.ofNat 107, Char.ofNat 101, Char.ofNat 107, Char.ofNat 101, Char.ofNat 101, Char.ofNat 112, Char.ofNat 49, Char.ofNat 46, Char.ofNat 80, Char.ofNat 105, Char.ofNat 110, Char.ofNat 79, Char.ofNat 114, Char.ofNat 100, Char.ofNat 101, Char.ofNat 114, Char.ofNat 32, Char.ofNat 98, Char.ofNat 97, Char.ofNat 107, Char.ofNat 101, Char.ofNat 108, Char.ofNat 105, Char.ofNat 116, Char.ofNat 101, Char.ofNat 47, Char.ofNat 98, Char.ofNat 97, Char.ofNat 107, Char.ofNat 101, Char.ofNat 107, Char.ofNat 101, Char.ofNat 101, Char.ofNat 112, Char.ofNat 49, Char.ofNat 46, Char.ofNat 84, Char.ofNat 97, Char.ofNat 98, Char.ofNat 108, Char.ofNat 101, Char.ofNat 83, Char.ofNat 112, Char.ofNat 111, Char.ofNat 105, Char.ofNat 108, Char.ofNat 116, Char.ofNat 32, Char.ofNat 98, Char.ofNat 97, Char.ofNat 107, Char.ofNat 101, Char.ofNat 108, Char.ofNat 105, Char.ofNat 116, Char.ofNat 101, Char.ofNat 47, Char.ofNat 98, Char.ofNat 97, Char.ofNat 107, Char.ofNat 101, Char.ofNat 107, Char.ofNat 101, Char.ofNat 101, Char.ofNat 112, Char.ofNat 49, Char.ofNat 46, Char.ofNat 66, Char.ofNat 111, Char.ofNat 97, Char.ofNat 114, Char.ofNat 100, Char.ofNat 67, Char.ofNat 108, Char.ofNat 97, Char.ofNat 115, Char.ofNat 104, Char.ofNat 101, Char.ofNat 115]
set_option maxRecDepth 100000 in
theorem io0 : Try.pinned.checked.prog.initOrder = "harness 05420e521798a094b8229ce6c43223b6fa7ea940106196fd3c3cfafdd8ac0e2a cut at bakelite/bakekeep1.PinOrder bakelite/bakekeep1.TableSpoilt bakelite/bakekeep1.BoardClashes" := by kernel_rfl
set_option maxRecDepth 100000 in
theorem io1 : "harness 05420e521798a094b8229ce6c43223b6fa7ea940106196fd3c3cfafdd8ac0e2a cut at bakelite/bakekeep1.PinOrder bakelite/bakekeep1.TableSpoilt bakelite/bakekeep1.BoardClashes" = String.ofList ioL := by kernel_rfl
theorem words : ∃ r, behindMainWord (wordsSigns Try.pinned.checked.prog.initOrder.toList) = Calc.cutW :: r := by
  rw [io0, io1, String.toList_ofList]
  exact ⟨(behindMainWord (wordsSigns ioL)).tail, by kernel_rfl⟩
theorem w1 : Try.pinned.checked.prog.laysLater = false := by kernel_rfl
theorem w2 : Try.pinned.checked.prog.bearsReflect = false := by kernel_rfl
theorem w3 : Try.pinned.checked.prog.doorFits [] = true := by kernel_rfl
set_option maxRecDepth 100000 in
set_option maxHeartbeats 8000000 in
theorem closed : joinedFacts Try.pinned.checked.prog 5 Try.f5 Rows.boardClashesSpec Rows.boardClashesRow = true := by
  obtain ⟨r, h⟩ := words
  unfold joinedFacts
  rw [Calc.mkCut _ r h, Calc.lfCut _ r h, Calc.meCut _ r h w1 w2 w3]
  clear h r
  repeat' (with_reducible refine Calc.andT ?_ ?_)
  all_goals (as_aux_lemma => kernel_rfl)
theorem over : Rows.boardClashesRow.holds Try.pinned (OpenSpec.ofChange Rows.boardClashesSpec) :=
  OpenClaim.holds_of_wide 5 Try.f5 rfl rfl rfl rfl rfl rfl rfl ⟨rfl, rfl, rfl, rfl, rfl⟩ rfl rfl rfl rfl rfl (by as_aux_lemma => kernel_rfl) Try.func5 closed
    (of_decide_eq_true (by as_aux_lemma => kernel_rfl)) (by unfold Func.isWrapper; first | (rw [if_pos (by decide +kernel)]; kernel_rfl) | (rw [if_neg (by decide +kernel)]; exact ⟨rfl, rfl⟩))
    (fun os started H enc _ => lifted os started H enc)
theorem proved : Rows.BoardClashesSaid := over
#print axioms proved
end Go.Proofs.Ytdbbnlafkndcnaa.boardClashes
namespace Go.Proofs.Ytdbbnlafkndcnaa
/-- The row, under a short name, for the claim. -/
theorem boardClashes_holds : Rows.BoardClashesSaid := boardClashes.proved
end Go.Proofs.Ytdbbnlafkndcnaa
