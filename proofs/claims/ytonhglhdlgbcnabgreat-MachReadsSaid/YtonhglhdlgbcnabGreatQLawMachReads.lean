/- MachReads returns true for each input, and leaves what was there as it was. No condition beyond the statement's own. -/
import Derived.Test.YtonhglhdlgbcnabGreatRows
import Derived.WalkKit
import Derived.ProofKit
import Derived.OpenShut
import Derived.ShutString
import Derived.ChangeOld
import Derived.Below
import Derived.SizedLaws
import Derived.Carry
import Derived.Test.YtonhglhdlgbcnabGreatPLawMachPartsA
import Derived.Test.YtonhglhdlgbcnabGreatPLawMachPartsB
import Derived.Test.YtonhglhdlgbcnabGreatPLawMachPartsC
import Derived.Test.YtonhglhdlgbcnabGreatPLawMachPartsD
import Derived.Test.YtonhglhdlgbcnabGreatPLawMachPartsE
import Derived.Test.YtonhglhdlgbcnabGreatPLawMachPartsF
import Derived.Test.YtonhglhdlgbcnabGreatPLawMachPartsG
import Derived.Test.YtonhglhdlgbcnabGreatPLawMachPartsH
import Derived.Test.YtonhglhdlgbcnabGreatPLawMachPartsI
import Derived.Test.YtonhglhdlgbcnabGreatPLawMachPartsJ
import Derived.Test.YtonhglhdlgbcnabGreatPLawMachPartsK
import Derived.Test.YtonhglhdlgbcnabGreatPLawMachPartsL
import Derived.Test.YtonhglhdlgbcnabGreatPLawMachPartsM
import Derived.Test.YtonhglhdlgbcnabGreatPLawMachPartsN
import Derived.Test.YtonhglhdlgbcnabGreatPLawMachPartsO
import Derived.Test.YtonhglhdlgbcnabGreatPLawMachPartsP
import Derived.Test.YtonhglhdlgbcnabGreatPLawMachPartsQ
import Derived.Test.YtonhglhdlgbcnabGreatPLawMachPartsR
import Derived.Test.YtonhglhdlgbcnabGreatPLawMachReadsA
namespace Go.Proofs.YtonhglhdlgbcnabGreat.machReads
open Go.ChangeShapes Go.WideShapes Go.ChangeAt Go.RowKit
set_option linter.unusedVariables false
theorem own : ownKnob Tryz.prog.godebug = none := by kernel_rfl
theorem laidOut : laidOutB Tryz.prog = true := by kernel_rfl
set_option maxRecDepth 100000 in
theorem lifted (os : Os) (started : os.Started) (H : Type) (enc : TypeId × Value → H) :
    ReturnsInHanded {} Tryz.checked os 3 .any (Rows.machReadsSpec.pre6 enc Tryz.prog Tryz.f3 Rows.machReadsRow.domain false) (Rows.machReadsSpec.post enc Tryz.prog Tryz.f3 false true false false) := by
  refine returnsInHanded_of_change_sized (C := Tryz.checked) own started (by kernel_rfl) Tryz.func3
    (ChangeSpec.witness6 (enc := enc) (C := Tryz.checked) false ⟨#[], #[.slice none 0 0, .slice none 0 0, .int .i64 0, .int .i64 0], []⟩ 8 (by kernel_rfl) (by kernel_rfl) (by kernel_rfl) (by kernel_rfl)) ?_
  intro W base args ds gs before hval0 hW hcnd hsz0 _
  have hsz : (DataW.weightsEach Tryz.prog (Tryz.f3.params.toList ++ Rows.machReadsSpec.plain.varTypes Tryz.prog) (ds ++ gs)).all (· ≤ reachBytes) = true := hsz0
  have hval : ∀ (j : Nat) t v, Tryz.f3.params[j]? = some t → args[j]? = some v → Value.okWide Tryz.prog W .any base t v := hval0
  have hW' := hW
  obtain ⟨p, q, hA0, hV, rfl, hfz, hnd⟩ := hW
  have hA : DataW.TrodAll enc Tryz.prog W 0 (fun _ => true) true Tryz.f3.params.toList args.toList ds p := hA0
  rw [Tryz.params3] at hA hval hsz
  obtain ⟨v0, vs0, d0, ds0, p0, q0, hargs, rfl, rfl, h0, r0⟩ := trodAll_cons hA
  obtain ⟨v1, vs1, d1, ds1, p1, q1, rfl, rfl, rfl, h1, r1⟩ := trodAll_cons r0
  obtain ⟨v2, vs2, d2, ds2, p2, q2, rfl, rfl, rfl, h2, r2⟩ := trodAll_cons r1
  obtain ⟨v3, vs3, d3, ds3, p3, q3, rfl, rfl, rfl, h3, r3⟩ := trodAll_cons r2
  obtain ⟨rfl, rfl, rfl⟩ := trodAll_nil r3
  obtain rfl : args = #[v0, v1, v2, v3] := by cases args; simp_all
  obtain ⟨rfl, rfl⟩ := trodVars_none hV
  obtain ⟨a0, len0, cap0, rfl⟩ := okWide_slice Tryz.underlying22 (hval 0 22 v0 rfl rfl)
  have k0 := h0
  have lt0 : ∀ x ∈ p0, x.block < W.heap.size := by obtain ⟨m, hm⟩ := k0; exact DataW.trod_lt m _ _ _ hm
  obtain ⟨l0, R0, y0, z0⟩ := Calc.ints_rel hsz (j := 0) (t := 22) rfl rfl Tryz.underlying22 Tryz.underlying3 (by kernel_rfl) (B := 8) (by kernel_rfl) h0
  have b0 := fun n hn => bounds_i64 (z0 n hn)
  obtain ⟨a1, len1, cap1, rfl⟩ := okWide_slice Tryz.underlying22 (hval 1 22 v1 rfl rfl)
  have k1 := h1
  have lt1 : ∀ x ∈ p1, x.block < W.heap.size := by obtain ⟨m, hm⟩ := k1; exact DataW.trod_lt m _ _ _ hm
  obtain ⟨l1, R1, y1, z1⟩ := Calc.ints_rel hsz (j := 1) (t := 22) rfl rfl Tryz.underlying22 Tryz.underlying3 (by kernel_rfl) (B := 8) (by kernel_rfl) h1
  have b1 := fun n hn => bounds_i64 (z1 n hn)
  obtain ⟨a2, rfl, rfl, rfl, w2⟩ := open_int Tryz.underlying3 (hval 2 3 v2 rfl rfl) h2
  have b2 := bounds_i64 w2
  obtain ⟨a3, rfl, rfl, rfl, w3⟩ := open_int Tryz.underlying3 (hval 3 3 v3 rfl rfl) h3
  have b3 := bounds_i64 w3
  clear hA0 hval0 hsz0 hsz
  refine (Calc.FnE.callsR (Calc.mreads_ok l0 l1 a2 a3) W [.slice a0 len0 cap0, .slice a1 len1 cap1, .int .i64 a2, .int .i64 a3] ⟨R0, ⟨R1, ⟨.c, ⟨.c, trivial⟩⟩⟩⟩).mono fun e W' ⟨he, bel⟩ => ?_
  subst he
  exact ⟨_, rfl, _, _, _, [], _, [], hW', trodAll_mk1 (shut_bool Tryz.underlying4 _), (trodAll_cons_mk (Below.trod laidOut (by kernel_rfl) (of_decide_eq_true (by kernel_rfl)) k0 bel lt0) (trodAll_cons_mk (Below.trod laidOut (by kernel_rfl) (of_decide_eq_true (by kernel_rfl)) k1 bel lt1) (trodAll_cons_mk (shut_int Tryz.underlying3 w2) (trodAll_cons_mk (shut_int Tryz.underlying3 w3) trodAll_mk0)))), rfl, bel.frame _, fun h => by cases h⟩
def ioL : List Char := [Char.ofNat 104, Char.ofNat 97, Char.ofNat 114, Char.ofNat 110, Char.ofNat 101, Char.ofNat 115, Char.ofNat 115, Char.ofNat 32, Char.ofNat 51, Char.ofNat 48, Char.ofNat 97, Char.ofNat 57, Char.ofNat 52, Char.ofNat 53, Char.ofNat 56, Char.ofNat 57, Char.ofNat 53, Char.ofNat 98, Char.ofNat 53, Char.ofNat 55, Char.ofNat 57, Char.ofNat 97, Char.ofNat 97, Char.ofNat 54, Char.ofNat 99, Char.ofNat 97, Char.ofNat 52, Char.ofNat 98, Char.ofNat 100, Char.ofNat 56, Char.ofNat 57, Char.ofNat 57, Char.ofNat 57, Char.ofNat 54, Char.ofNat 48, Char.ofNat 50, Char.ofNat 54, Char.ofNat 100, Char.ofNat 100, Char.ofNat 56, Char.ofNat 54, Char.ofNat 102, Char.ofNat 57, Char.ofNat 50, Char.ofNat 52, Char.ofNat 55, Char.ofNat 57, Char.ofNat 101, Char.ofNat 97, Char.ofNat 101, Char.ofNat 56, Char.ofNat 50, Char.ofNat 100, Char.ofNat 50, Char.ofNat 99, Char.ofNat 100, Char.ofNat 55, Char.ofNat 52, Char.ofNat 102, Char.ofNat 48, Char.ofNat 48, Char.ofNat 57, Char.ofNat 50, Char.ofNat 48, Char.ofNat 51, Char.ofNat 49, Char.ofNat 98, Char.ofNat 98, Char.ofNat 54, Char.ofNat 50, Char.ofNat 53, Char.ofNat 101, Char.ofNat 32, Char.ofNat 99, Char.ofNat 117, Char.ofNat 116, Char.ofNat 32, Char.ofNat 97, Char.ofNat 116, Char.ofNat 32, Char.ofNat 98, Char.ofNat 97, Char.ofNat 107, Char.ofNat 101, Char.ofNat 108, Char.ofNat 105, Char.ofNat 116, Char.ofNat 101, Char.ofNat 47, Char.ofNat 98, Char.ofNat 97, Char.ofNat 107, Char.ofNat 101, Char.ofNat 107, Char.ofNat 101, Char.ofNat 101, Char.ofNat 112, Char.ofNat 49, Char.ofNat 46, Char.ofNat 77, Char.ofNat 97, Char.ofNat 99, Char.ofNat 104, Char.ofNat 82, Char.ofNat 101, Char.ofNat 97, Char.ofNat 100, Char.ofNat 115, Char.ofNat 32, Char.ofNat 98, Char.ofNat 97, Char.ofNat 107, Char.ofNat 101, Char.ofNat 108, Char.ofNat 105, Char.ofNat 116, Char.ofNat 101, Char.ofNat 47, Char.ofNat 98, Char.ofNat 97, Char.ofNat 107, Char.ofNat 101, Char.ofNat 107, Char.ofNat 101, Char.ofNat 101, Char.ofNat 112, Char.ofNat 49, Char.ofNat 46, Char.ofNat 77, Char.ofNat 97, Char.ofNat 99, Char.ofNat 104, Char.ofNat 80, Char.ofNat 97, Char.ofNat 114, Char.ofNat 116, Char.ofNat 115]
set_option maxRecDepth 100000 in
theorem io0 : Tryz.pinned.checked.prog.initOrder = "harness 30a945895b579aa6ca4bd89996026dd86f92479eae82d2cd74f0092031bb625e cut at bakelite/bakekeep1.MachReads bakelite/bakekeep1.MachParts" := by kernel_rfl
set_option maxRecDepth 100000 in
theorem io1 : "harness 30a945895b579aa6ca4bd89996026dd86f92479eae82d2cd74f0092031bb625e cut at bakelite/bakekeep1.MachReads bakelite/bakekeep1.MachParts" = String.ofList ioL := by kernel_rfl
theorem words : ∃ r, behindMainWord (wordsSigns Tryz.pinned.checked.prog.initOrder.toList) = Calc.cutW :: r := by
  rw [io0, io1, String.toList_ofList]
  exact ⟨(behindMainWord (wordsSigns ioL)).tail, by kernel_rfl⟩
theorem w1 : Tryz.pinned.checked.prog.laysLater = false := by kernel_rfl
theorem w2 : Tryz.pinned.checked.prog.bearsReflect = false := by kernel_rfl
theorem w3 : Tryz.pinned.checked.prog.doorFits [] = true := by kernel_rfl
set_option maxRecDepth 100000 in
set_option maxHeartbeats 8000000 in
theorem closed : joinedFacts Tryz.pinned.checked.prog 3 Tryz.f3 Rows.machReadsSpec Rows.machReadsRow = true := by
  obtain ⟨r, h⟩ := words
  unfold joinedFacts
  rw [Calc.mkCut _ r h, Calc.lfCut _ r h, Calc.meCut _ r h w1 w2 w3]
  clear h r
  repeat' (with_reducible refine Calc.andT ?_ ?_)
  all_goals (as_aux_lemma => kernel_rfl)
theorem over : Rows.machReadsRow.holds Tryz.pinned (OpenSpec.ofChange Rows.machReadsSpec) :=
  OpenClaim.holds_of_wide 3 Tryz.f3 rfl rfl rfl rfl rfl rfl rfl ⟨rfl, rfl, rfl, rfl, rfl⟩ rfl rfl rfl rfl rfl (by as_aux_lemma => kernel_rfl) Tryz.func3 closed
    (of_decide_eq_true (by as_aux_lemma => kernel_rfl)) (by unfold Func.isWrapper; first | (rw [if_pos (by decide +kernel)]; kernel_rfl) | (rw [if_neg (by decide +kernel)]; exact ⟨rfl, rfl⟩))
    (fun os started H enc _ => lifted os started H enc)
theorem proved : Rows.MachReadsSaid := over
#print axioms proved
end Go.Proofs.YtonhglhdlgbcnabGreat.machReads
namespace Go.Proofs.YtonhglhdlgbcnabGreat
/-- The row, under a short name, for the claim. -/
theorem machReads_holds : Rows.MachReadsSaid := machReads.proved
end Go.Proofs.YtonhglhdlgbcnabGreat
