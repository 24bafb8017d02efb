/- MachJams returns true for each input, and leaves what was there as it was. No condition beyond the statement's own. -/
import Derived.Test.YtonhglhdlgbcnaaGreatRows
import Derived.WalkKit
import Derived.ProofKit
import Derived.OpenShut
import Derived.ShutString
import Derived.ChangeOld
import Derived.Below
import Derived.SizedLaws
import Derived.Carry
import Derived.Test.YtonhglhdlgbcnaaGreatPLawMachMemoryA
import Derived.Test.YtonhglhdlgbcnaaGreatPLawMachMemoryB
import Derived.Test.YtonhglhdlgbcnaaGreatPLawMachMemoryC
import Derived.Test.YtonhglhdlgbcnaaGreatPLawMachMemoryD
import Derived.Test.YtonhglhdlgbcnaaGreatPLawMachMemoryE
import Derived.Test.YtonhglhdlgbcnaaGreatPLawMachMemoryF
import Derived.Test.YtonhglhdlgbcnaaGreatPLawMachMemoryG
import Derived.Test.YtonhglhdlgbcnaaGreatPLawMachMemoryH
import Derived.Test.YtonhglhdlgbcnaaGreatPLawMachMemoryI
import Derived.Test.YtonhglhdlgbcnaaGreatPLawMachMemoryJ
import Derived.Test.YtonhglhdlgbcnaaGreatPLawMachMemoryK
import Derived.Test.YtonhglhdlgbcnaaGreatPLawMachMemoryL
import Derived.Test.YtonhglhdlgbcnaaGreatPLawMachMemoryM
import Derived.Test.YtonhglhdlgbcnaaGreatPLawMachMemoryN
import Derived.Test.YtonhglhdlgbcnaaGreatPLawMachMemoryO
import Derived.Test.YtonhglhdlgbcnaaGreatPLawMachMemoryP
import Derived.Test.YtonhglhdlgbcnaaGreatPLawMachMemoryQ
import Derived.Test.YtonhglhdlgbcnaaGreatPLawMachMemoryR
import Derived.Test.YtonhglhdlgbcnaaGreatPLawMachJamsA
namespace Go.Proofs.YtonhglhdlgbcnaaGreat.machJams
open Go.ChangeShapes Go.WideShapes Go.ChangeAt Go.RowKit
set_option linter.unusedVariables false
theorem own : ownKnob Tryz.prog.godebug = none := by kernel_rfl
theorem laidOut : laidOutB Tryz.prog = true := by kernel_rfl
set_option maxRecDepth 100000 in
theorem lifted (os : Os) (started : os.Started) (H : Type) (enc : TypeId × Value → H) :
    ReturnsInHanded {} Tryz.checked os 4 .any (Rows.machJamsSpec.pre6 enc Tryz.prog Tryz.f4 Rows.machJamsRow.domain false) (Rows.machJamsSpec.post enc Tryz.prog Tryz.f4 false true false false) := by
  refine returnsInHanded_of_change_sized (C := Tryz.checked) own started (by kernel_rfl) Tryz.func4
    (ChangeSpec.witness6 (enc := enc) (C := Tryz.checked) false ⟨#[], #[.slice none 0 0, .int .i64 0], []⟩ 8 (by kernel_rfl) (by kernel_rfl) (by kernel_rfl) (by kernel_rfl)) ?_
  intro W base args ds gs before hval0 hW hcnd hsz0 _
  have hsz : (DataW.weightsEach Tryz.prog (Tryz.f4.params.toList ++ Rows.machJamsSpec.plain.varTypes Tryz.prog) (ds ++ gs)).all (· ≤ reachBytes) = true := hsz0
  have hval : ∀ (j : Nat) t v, Tryz.f4.params[j]? = some t → args[j]? = some v → Value.okWide Tryz.prog W .any base t v := hval0
  have hW' := hW
  obtain ⟨p, q, hA0, hV, rfl, hfz, hnd⟩ := hW
  have hA : DataW.TrodAll enc Tryz.prog W 0 (fun _ => true) true Tryz.f4.params.toList args.toList ds p := hA0
  rw [Tryz.params4] at hA hval hsz
  obtain ⟨v0, vs0, d0, ds0, p0, q0, hargs, rfl, rfl, h0, r0⟩ := trodAll_cons hA
  obtain ⟨v1, vs1, d1, ds1, p1, q1, rfl, rfl, rfl, h1, r1⟩ := trodAll_cons r0
  obtain ⟨rfl, rfl, rfl⟩ := trodAll_nil r1
  obtain rfl : args = #[v0, v1] := by cases args; simp_all
  obtain ⟨rfl, rfl⟩ := trodVars_none hV
  obtain ⟨a0, len0, cap0, rfl⟩ := okWide_slice Tryz.underlying22 (hval 0 22 v0 rfl rfl)
  have k0 := h0
  have lt0 : ∀ x ∈ p0, x.block < W.heap.size := by obtain ⟨m, hm⟩ := k0; exact DataW.trod_lt m _ _ _ hm
  obtain ⟨l0, R0, y0, z0⟩ := Calc.ints_rel hsz (j := 0) (t := 22) rfl rfl Tryz.underlying22 Tryz.underlying3 (by kernel_rfl) (B := 8) (by kernel_rfl) h0
  have b0 := fun n hn => bounds_i64 (z0 n hn)
  obtain ⟨a1, rfl, rfl, rfl, w1⟩ := open_int Tryz.underlying3 (hval 1 3 v1 rfl rfl) h1
  have b1 := bounds_i64 w1
  clear hA0 hval0 hsz0 hsz
  refine (Calc.FnE.callsR (Calc.mjams_ok l0 a1) W [.slice a0 len0 cap0, .int .i64 a1] ⟨R0, ⟨.c, trivial⟩⟩).mono fun e W' ⟨he, bel⟩ => ?_
  subst he
  exact ⟨_, rfl, _, _, _, [], _, [], hW', trodAll_mk1 (shut_bool Tryz.underlying4 _), (trodAll_cons_mk (Below.trod laidOut (by kernel_rfl) (of_decide_eq_true (by kernel_rfl)) k0 bel lt0) (trodAll_cons_mk (shut_int Tryz.underlying3 w1) trodAll_mk0)), rfl, bel.frame _, fun h => by cases h⟩
def ioL : List Char := [Char.ofNat 104, Char.ofNat 97, Char.ofNat 114, Char.ofNat 110, Char.ofNat 101, Char.ofNat 115, Char.ofNat 115, Char.ofNat 32, Char.ofNat 97, Char.ofNat 51, Char.ofNat 56, Char.ofNat 54, Char.ofNat 101, Char.ofNat 55, Char.ofNat 50, Char.ofNat 52, Char.ofNat 48, Char.ofNat 50, Char.ofNat 52, Char.ofNat 49, Char.ofNat 54, Char.ofNat 102, Char.ofNat 48, Char.ofNat 99, Char.ofNat 101, Char.ofNat 97, Char.ofNat 56, Char.ofNat 99, Char.ofNat 53, Char.ofNat 53, Char.ofNat 49, Char.ofNat 100, Char.ofNat 57, Char.ofNat 56, Char.ofNat 57, Char.ofNat 48, Char.ofNat 56, Char.ofNat 55, Char.ofNat 100, Char.ofNat 100, Char.ofNat 50, Char.ofNat 53, Char.ofNat 51, Char.ofNat 51, Char.ofNat 53, Char.ofNat 99, Char.ofNat 101, Char.ofNat 49, Char.ofNat 99, Char.ofNat 53, Char.ofNat 50, Char.ofNat 100, Char.ofNat 48, Char.ofNat 56, Char.ofNat 99, Char.ofNat 52, Char.ofNat 97, Char.ofNat 101, Char.ofNat 52, Char.ofNat 100, Char.ofNat 99, Char.ofNat 55, Char.ofNat 52, Char.ofNat 52, Char.ofNat 52, Char.ofNat 48, Char.ofNat 97, Char.ofNat 97, Char.ofNat 50, Char.ofNat 52, Char.ofNat 48, Char.ofNat 102, Char.ofNat 32, Char.ofNat 99, Char.ofNat 117, Char.ofNat 116, Char.ofNat 32, Char.ofNat 97, Char.ofNat 116, Char.ofNat 32, Char.ofNat 98, Char.ofNat 97, Char.ofNat 107, Char.ofNat 101, Char.ofNat 108, Char.ofNat 105, Char.ofNat 116, Char.ofNat 101, Char.ofNat 47, Char.ofNat 98, Char.ofNat 97, Char.ofNat 107, Char.ofNat 101, Char.ofNat 116, Char.ofNat 111, Char.ofNat 112, Char.ofNat 46, Char.ofNat 77, Char.ofNat 97, Char.ofNat 99, Char.ofNat 104, Char.ofNat 77, Char.ofNat 101, Char.ofNat 109, Char.ofNat 111, Char.ofNat 114, Char.ofNat 121, Char.ofNat 32, Char.ofNat 98, Char.ofNat 97, Char.ofNat 107, Char.ofNat 101, Char.ofNat 108, Char.ofNat 105, Char.ofNat 116, Char.ofNat 101, Char.ofNat 47, Char.ofNat 98, Char.ofNat 97, Char.ofNat 107, Char.ofNat 101, Char.ofNat 107, Char.ofNat 101, Char.ofNat 101, Char.ofNat 112, Char.ofNat 49, Char.ofNat 46, Char.ofNat 77, Char.ofNat 97, Char.ofNat 99, Char.ofNat 104, Char.ofNat 74, Char.ofNat 97, Char.ofNat 109, Char.ofNat 115]
set_option maxRecDepth 100000 in
theorem io0 : Tryz.pinned.checked.prog.initOrder = "harness a386e72402416f0cea8c551d989087dd25335ce1c52d08c4ae4dc74440aa240f cut at bakelite/baketop.MachMemory bakelite/bakekeep1.MachJams" := by kernel_rfl
set_option maxRecDepth 100000 in
theorem io1 : "harness a386e72402416f0cea8c551d989087dd25335ce1c52d08c4ae4dc74440aa240f cut at bakelite/baketop.MachMemory bakelite/bakekeep1.MachJams" = String.ofList ioL := by kernel_rfl
theorem words : ∃ r, behindMainWord (wordsSigns Tryz.pinned.checked.prog.initOrder.toList) = Calc.cutW :: r := by
  rw [io0, io1, String.toList_ofList]
  exact ⟨(behindMainWord (wordsSigns ioL)).tail, by kernel_rfl⟩
theorem w1 : Tryz.pinned.checked.prog.laysLater = false := by kernel_rfl
theorem w2 : Tryz.pinned.checked.prog.bearsReflect = false := by kernel_rfl
theorem w3 : Tryz.pinned.checked.prog.doorFits [] = true := by kernel_rfl
set_option maxRecDepth 100000 in
set_option maxHeartbeats 8000000 in
theorem closed : joinedFacts Tryz.pinned.checked.prog 4 Tryz.f4 Rows.machJamsSpec Rows.machJamsRow = true := by
  obtain ⟨r, h⟩ := words
  unfold joinedFacts
  rw [Calc.mkCut _ r h, Calc.lfCut _ r h, Calc.meCut _ r h w1 w2 w3]
  clear h r
  repeat' (with_reducible refine Calc.andT ?_ ?_)
  all_goals (as_aux_lemma => kernel_rfl)
theorem over : Rows.machJamsRow.holds Tryz.pinned (OpenSpec.ofChange Rows.machJamsSpec) :=
  OpenClaim.holds_of_wide 4 Tryz.f4 rfl rfl rfl rfl rfl rfl rfl ⟨rfl, rfl, rfl, rfl, rfl⟩ rfl rfl rfl rfl rfl (by as_aux_lemma => kernel_rfl) Tryz.func4 closed
    (of_decide_eq_true (by as_aux_lemma => kernel_rfl)) (by unfold Func.isWrapper; first | (rw [if_pos (by decide +kernel)]; kernel_rfl) | (rw [if_neg (by decide +kernel)]; exact ⟨rfl, rfl⟩))
    (fun os started H enc _ => lifted os started H enc)
theorem proved : Rows.MachJamsSaid := over
#print axioms proved
end Go.Proofs.YtonhglhdlgbcnaaGreat.machJams
namespace Go.Proofs.YtonhglhdlgbcnaaGreat
/-- The row, under a short name, for the claim. -/
theorem machJams_holds : Rows.MachJamsSaid := machJams.proved
end Go.Proofs.YtonhglhdlgbcnaaGreat
