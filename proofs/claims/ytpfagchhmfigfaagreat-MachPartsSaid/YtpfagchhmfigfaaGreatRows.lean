/-
  No cell of these rows narrows 'for every input' (looked for: loops, veiled, ifaces, maps, wideKeys, modest, calm, conditions, laid).
  DERIVED. THE GIVEN ROWS OF THIS SEAT. 14 by the template 'for every input the law returns true; each argument reads behind the call as it read before'; 0 by the template 'total and deterministic' (their statements: YtpfagchhmfigfaaGreatTotals.lean).
  GIVEN WITH THE SEED: the statements are not yours to turn. If you find one false, say at which input.
  Laid BY PROGRAM, IN A SANDBOX (cutbox-rows.mjs): the forced cells as the released guide's own fill.sh prints them over the translation e6e05d373e829a59… (all of the seat's roots in one cut). By AI agents, Wed Nov 11 2026. No macro, syntax, notation, axiom, sorry.
-/
import Derived.Test.YtpfagchhmfigfaaGreatChecked
import GoSem.Claim
import GoSem.ClaimJoined
import GoSem.ClaimMapViews
import Derived.JoinedTies
import Derived.KernelRfl
namespace Go.Proofs.YtpfagchhmfigfaaGreat
/- THE CELL 'sum', in the pinned program and in every row, IS THE sha256 OF THE DUMP (.gsa) THAT YtpfagchhmfigfaaGreatProg.lean LOADS. Nothing in Lean hashes anything: it is a label: what it is worth is what the hold of that sum in a sandbox is worth. -/
noncomputable def Tryz.pinned : Pinned := { name := "ytpfagchhmfigfaagreat", sum := "e6e05d373e829a59a386057887e137ef3c98726e98c61f0c37e28eba9d8646bf", checked := Tryz.checked }
namespace Rows
def none {H : Type} : Left H := { results := [], args := [] }

/-- 'baketop.MachMemory': WHATEVER THE INPUT: true; the input reads as it did. -/
def machMemorySpec : ChangeSpec := { name := "machMemory", fn := fun _ => fun
  | [d1, d2, d3] => { results := [.lit (.bool true)], args := [d1, d2, d3] }
  | _ => none }
def machMemoryRow : OpenClaim := { program := "ytpfagchhmfigfaagreat", sum := "e6e05d373e829a59a386057887e137ef3c98726e98c61f0c37e28eba9d8646bf", func := "bakelite/baketop.MachMemory", spec := "machMemory", inPlace := ["internal/bytealg.IndexByteString", "internal/bytealg.IndexString"], unfollowed := true, recurses := true, named := ["internal/bytealg.MaxLen"], apart := false }
def MachMemorySaid : Prop := machMemoryRow.holds Tryz.pinned (OpenSpec.ofChange machMemorySpec)

/-- ITS FALSE NEIGHBOUR: 'it returns false'. Refute it at one input. -/
def machMemoryWrong : ChangeSpec := { name := "machMemory", fn := fun _ => fun
  | [d1, d2, d3] => { results := [.lit (.bool false)], args := [d1, d2, d3] }
  | _ => none }
def MachMemoryWrongFalsely : Prop := machMemoryRow.holds Tryz.pinned (OpenSpec.ofChange machMemoryWrong)

/-- 'baketop.LinkHears': WHATEVER THE INPUT: true; the input reads as it did. -/
def linkHearsSpec : ChangeSpec := { name := "linkHears", fn := fun _ => fun
  | [d1, d2, d3, d4] => { results := [.lit (.bool true)], args := [d1, d2, d3, d4] }
  | _ => none }
def linkHearsRow : OpenClaim := { program := "ytpfagchhmfigfaagreat", sum := "e6e05d373e829a59a386057887e137ef3c98726e98c61f0c37e28eba9d8646bf", func := "bakelite/baketop.LinkHears", spec := "linkHears", inPlace := ["internal/bytealg.IndexByteString", "internal/bytealg.IndexString"], unfollowed := true, recurses := true, named := ["internal/bytealg.MaxLen"], apart := false }
def LinkHearsSaid : Prop := linkHearsRow.holds Tryz.pinned (OpenSpec.ofChange linkHearsSpec)

/-- ITS FALSE NEIGHBOUR: 'it returns false'. Refute it at one input. -/
def linkHearsWrong : ChangeSpec := { name := "linkHears", fn := fun _ => fun
  | [d1, d2, d3, d4] => { results := [.lit (.bool false)], args := [d1, d2, d3, d4] }
  | _ => none }
def LinkHearsWrongFalsely : Prop := linkHearsRow.holds Tryz.pinned (OpenSpec.ofChange linkHearsWrong)

/-- 'baketop.QuickSaved': WHATEVER THE INPUT: true; the input reads as it did. -/
def quickSavedSpec : ChangeSpec := { name := "quickSaved", fn := fun _ => fun
  | [d1, d2, d3, d4] => { results := [.lit (.bool true)], args := [d1, d2, d3, d4] }
  | _ => none }
def quickSavedRow : OpenClaim := { program := "ytpfagchhmfigfaagreat", sum := "e6e05d373e829a59a386057887e137ef3c98726e98c61f0c37e28eba9d8646bf", func := "bakelite/baketop.QuickSaved", spec := "quickSaved", inPlace := ["internal/bytealg.IndexByteString", "internal/bytealg.IndexString"], unfollowed := true, recurses := true, named := ["internal/bytealg.MaxLen"], apart := false }
def QuickSavedSaid : Prop := quickSavedRow.holds Tryz.pinned (OpenSpec.ofChange quickSavedSpec)

/-- ITS FALSE NEIGHBOUR: 'it returns false'. Refute it at one input. -/
def quickSavedWrong : ChangeSpec := { name := "quickSaved", fn := fun _ => fun
  | [d1, d2, d3, d4] => { results := [.lit (.bool false)], args := [d1, d2, d3, d4] }
  | _ => none }
def QuickSavedWrongFalsely : Prop := quickSavedRow.holds Tryz.pinned (OpenSpec.ofChange quickSavedWrong)

/-- 'bakekeep1.MachPokes': WHATEVER THE INPUT: true; the input reads as it did. -/
def machPokesSpec : ChangeSpec := { name := "machPokes", fn := fun _ => fun
  | [d1, d2, d3, d4] => { results := [.lit (.bool true)], args := [d1, d2, d3, d4] }
  | _ => none }
def machPokesRow : OpenClaim := { program := "ytpfagchhmfigfaagreat", sum := "e6e05d373e829a59a386057887e137ef3c98726e98c61f0c37e28eba9d8646bf", func := "bakelite/bakekeep1.MachPokes", spec := "machPokes", inPlace := ["internal/bytealg.IndexByteString", "internal/bytealg.IndexString"], unfollowed := true, recurses := true, named := ["internal/bytealg.MaxLen"], apart := false }
def MachPokesSaid : Prop := machPokesRow.holds Tryz.pinned (OpenSpec.ofChange machPokesSpec)

/-- ITS FALSE NEIGHBOUR: 'it returns false'. Refute it at one input. -/
def machPokesWrong : ChangeSpec := { name := "machPokes", fn := fun _ => fun
  | [d1, d2, d3, d4] => { results := [.lit (.bool false)], args := [d1, d2, d3, d4] }
  | _ => none }
def MachPokesWrongFalsely : Prop := machPokesRow.holds Tryz.pinned (OpenSpec.ofChange machPokesWrong)

/-- 'bakekeep1.LinkDelays': WHATEVER THE INPUT: true; the input reads as it did. -/
def linkDelaysSpec : ChangeSpec := { name := "linkDelays", fn := fun _ => fun
  | [d1, d2] => { results := [.lit (.bool true)], args := [d1, d2] }
  | _ => none }
def linkDelaysRow : OpenClaim := { program := "ytpfagchhmfigfaagreat", sum := "e6e05d373e829a59a386057887e137ef3c98726e98c61f0c37e28eba9d8646bf", func := "bakelite/bakekeep1.LinkDelays", spec := "linkDelays", inPlace := ["internal/bytealg.IndexByteString", "internal/bytealg.IndexString"], unfollowed := true, recurses := true, named := ["internal/bytealg.MaxLen"], apart := false }
def LinkDelaysSaid : Prop := linkDelaysRow.holds Tryz.pinned (OpenSpec.ofChange linkDelaysSpec)

/-- ITS FALSE NEIGHBOUR: 'it returns false'. Refute it at one input. -/
def linkDelaysWrong : ChangeSpec := { name := "linkDelays", fn := fun _ => fun
  | [d1, d2] => { results := [.lit (.bool false)], args := [d1, d2] }
  | _ => none }
def LinkDelaysWrongFalsely : Prop := linkDelaysRow.holds Tryz.pinned (OpenSpec.ofChange linkDelaysWrong)

/-- 'bakekeep1.MachOuts': WHATEVER THE INPUT: true; the input reads as it did. -/
def machOutsSpec : ChangeSpec := { name := "machOuts", fn := fun _ => fun
  | [d1, d2, d3] => { results := [.lit (.bool true)], args := [d1, d2, d3] }
  | _ => none }
def machOutsRow : OpenClaim := { program := "ytpfagchhmfigfaagreat", sum := "e6e05d373e829a59a386057887e137ef3c98726e98c61f0c37e28eba9d8646bf", func := "bakelite/bakekeep1.MachOuts", spec := "machOuts", inPlace := ["internal/bytealg.IndexByteString", "internal/bytealg.IndexString"], unfollowed := true, recurses := true, named := ["internal/bytealg.MaxLen"], apart := false }
def MachOutsSaid : Prop := machOutsRow.holds Tryz.pinned (OpenSpec.ofChange machOutsSpec)

/-- ITS FALSE NEIGHBOUR: 'it returns false'. Refute it at one input. -/
def machOutsWrong : ChangeSpec := { name := "machOuts", fn := fun _ => fun
  | [d1, d2, d3] => { results := [.lit (.bool false)], args := [d1, d2, d3] }
  | _ => none }
def MachOutsWrongFalsely : Prop := machOutsRow.holds Tryz.pinned (OpenSpec.ofChange machOutsWrong)

/-- 'bakekeep1.MachJams': WHATEVER THE INPUT: true; the input reads as it did. -/
def machJamsSpec : ChangeSpec := { name := "machJams", fn := fun _ => fun
  | [d1, d2] => { results := [.lit (.bool true)], args := [d1, d2] }
  | _ => none }
def machJamsRow : OpenClaim := { program := "ytpfagchhmfigfaagreat", sum := "e6e05d373e829a59a386057887e137ef3c98726e98c61f0c37e28eba9d8646bf", func := "bakelite/bakekeep1.MachJams", spec := "machJams", inPlace := ["internal/bytealg.IndexByteString", "internal/bytealg.IndexString"], unfollowed := true, recurses := true, named := ["internal/bytealg.MaxLen"], apart := false }
def MachJamsSaid : Prop := machJamsRow.holds Tryz.pinned (OpenSpec.ofChange machJamsSpec)

/-- ITS FALSE NEIGHBOUR: 'it returns false'. Refute it at one input. -/
def machJamsWrong : ChangeSpec := { name := "machJams", fn := fun _ => fun
  | [d1, d2] => { results := [.lit (.bool false)], args := [d1, d2] }
  | _ => none }
def MachJamsWrongFalsely : Prop := machJamsRow.holds Tryz.pinned (OpenSpec.ofChange machJamsWrong)

/-- 'bakekeep1.MachReads': WHATEVER THE INPUT: true; the input reads as it did. -/
def machReadsSpec : ChangeSpec := { name := "machReads", fn := fun _ => fun
  | [d1, d2, d3, d4] => { results := [.lit (.bool true)], args := [d1, d2, d3, d4] }
  | _ => none }
def machReadsRow : OpenClaim := { program := "ytpfagchhmfigfaagreat", sum := "e6e05d373e829a59a386057887e137ef3c98726e98c61f0c37e28eba9d8646bf", func := "bakelite/bakekeep1.MachReads", spec := "machReads", inPlace := ["internal/bytealg.IndexByteString", "internal/bytealg.IndexString"], unfollowed := true, recurses := true, named := ["internal/bytealg.MaxLen"], apart := false }
def MachReadsSaid : Prop := machReadsRow.holds Tryz.pinned (OpenSpec.ofChange machReadsSpec)

/-- ITS FALSE NEIGHBOUR: 'it returns false'. Refute it at one input. -/
def machReadsWrong : ChangeSpec := { name := "machReads", fn := fun _ => fun
  | [d1, d2, d3, d4] => { results := [.lit (.bool false)], args := [d1, d2, d3, d4] }
  | _ => none }
def MachReadsWrongFalsely : Prop := machReadsRow.holds Tryz.pinned (OpenSpec.ofChange machReadsWrong)

/-- 'bakekeep1.MachParts': WHATEVER THE INPUT: true; the input reads as it did. -/
def machPartsSpec : ChangeSpec := { name := "machParts", fn := fun _ => fun
  | [d1, d2, d3, d4] => { results := [.lit (.bool true)], args := [d1, d2, d3, d4] }
  | _ => none }
def machPartsRow : OpenClaim := { program := "ytpfagchhmfigfaagreat", sum := "e6e05d373e829a59a386057887e137ef3c98726e98c61f0c37e28eba9d8646bf", func := "bakelite/bakekeep1.MachParts", spec := "machParts", inPlace := ["internal/bytealg.IndexByteString", "internal/bytealg.IndexString"], unfollowed := true, recurses := true, named := ["internal/bytealg.MaxLen"], apart := false }
def MachPartsSaid : Prop := machPartsRow.holds Tryz.pinned (OpenSpec.ofChange machPartsSpec)

/-- ITS FALSE NEIGHBOUR: 'it returns false'. Refute it at one input. -/
def machPartsWrong : ChangeSpec := { name := "machParts", fn := fun _ => fun
  | [d1, d2, d3, d4] => { results := [.lit (.bool false)], args := [d1, d2, d3, d4] }
  | _ => none }
def MachPartsWrongFalsely : Prop := machPartsRow.holds Tryz.pinned (OpenSpec.ofChange machPartsWrong)

/-- 'bakekeep1.LinkAlone': WHATEVER THE INPUT: true; the input reads as it did. -/
def linkAloneSpec : ChangeSpec := { name := "linkAlone", fn := fun _ => fun
  | [d1, d2, d3, d4] => { results := [.lit (.bool true)], args := [d1, d2, d3, d4] }
  | _ => none }
def linkAloneRow : OpenClaim := { program := "ytpfagchhmfigfaagreat", sum := "e6e05d373e829a59a386057887e137ef3c98726e98c61f0c37e28eba9d8646bf", func := "bakelite/bakekeep1.LinkAlone", spec := "linkAlone", inPlace := ["internal/bytealg.IndexByteString", "internal/bytealg.IndexString"], unfollowed := true, recurses := true, named := ["internal/bytealg.MaxLen"], apart := false }
def LinkAloneSaid : Prop := linkAloneRow.holds Tryz.pinned (OpenSpec.ofChange linkAloneSpec)

/-- ITS FALSE NEIGHBOUR: 'it returns false'. Refute it at one input. -/
def linkAloneWrong : ChangeSpec := { name := "linkAlone", fn := fun _ => fun
  | [d1, d2, d3, d4] => { results := [.lit (.bool false)], args := [d1, d2, d3, d4] }
  | _ => none }
def LinkAloneWrongFalsely : Prop := linkAloneRow.holds Tryz.pinned (OpenSpec.ofChange linkAloneWrong)

/-- 'bakekeep1.QuickSame': WHATEVER THE INPUT: true; the input reads as it did. -/
def quickSameSpec : ChangeSpec := { name := "quickSame", fn := fun _ => fun
  | [d1, d2, d3] => { results := [.lit (.bool true)], args := [d1, d2, d3] }
  | _ => none }
def quickSameRow : OpenClaim := { program := "ytpfagchhmfigfaagreat", sum := "e6e05d373e829a59a386057887e137ef3c98726e98c61f0c37e28eba9d8646bf", func := "bakelite/bakekeep1.QuickSame", spec := "quickSame", inPlace := ["internal/bytealg.IndexByteString", "internal/bytealg.IndexString"], unfollowed := true, recurses := true, named := ["internal/bytealg.MaxLen"], apart := false }
def QuickSameSaid : Prop := quickSameRow.holds Tryz.pinned (OpenSpec.ofChange quickSameSpec)

/-- ITS FALSE NEIGHBOUR: 'it returns false'. Refute it at one input. -/
def quickSameWrong : ChangeSpec := { name := "quickSame", fn := fun _ => fun
  | [d1, d2, d3] => { results := [.lit (.bool false)], args := [d1, d2, d3] }
  | _ => none }
def QuickSameWrongFalsely : Prop := quickSameRow.holds Tryz.pinned (OpenSpec.ofChange quickSameWrong)

/-- 'bakekeep1.QuickParts': WHATEVER THE INPUT: true; the input reads as it did. -/
def quickPartsSpec : ChangeSpec := { name := "quickParts", fn := fun _ => fun
  | [d1, d2, d3, d4] => { results := [.lit (.bool true)], args := [d1, d2, d3, d4] }
  | _ => none }
def quickPartsRow : OpenClaim := { program := "ytpfagchhmfigfaagreat", sum := "e6e05d373e829a59a386057887e137ef3c98726e98c61f0c37e28eba9d8646bf", func := "bakelite/bakekeep1.QuickParts", spec := "quickParts", inPlace := ["internal/bytealg.IndexByteString", "internal/bytealg.IndexString"], unfollowed := true, recurses := true, named := ["internal/bytealg.MaxLen"], apart := false }
def QuickPartsSaid : Prop := quickPartsRow.holds Tryz.pinned (OpenSpec.ofChange quickPartsSpec)

/-- ITS FALSE NEIGHBOUR: 'it returns false'. Refute it at one input. -/
def quickPartsWrong : ChangeSpec := { name := "quickParts", fn := fun _ => fun
  | [d1, d2, d3, d4] => { results := [.lit (.bool false)], args := [d1, d2, d3, d4] }
  | _ => none }
def QuickPartsWrongFalsely : Prop := quickPartsRow.holds Tryz.pinned (OpenSpec.ofChange quickPartsWrong)

/-- 'bakekeep1.SaveBack': WHATEVER THE INPUT: true; the input reads as it did. -/
def saveBackSpec : ChangeSpec := { name := "saveBack", fn := fun _ => fun
  | [d1, d2, d3] => { results := [.lit (.bool true)], args := [d1, d2, d3] }
  | _ => none }
def saveBackRow : OpenClaim := { program := "ytpfagchhmfigfaagreat", sum := "e6e05d373e829a59a386057887e137ef3c98726e98c61f0c37e28eba9d8646bf", func := "bakelite/bakekeep1.SaveBack", spec := "saveBack", inPlace := ["internal/bytealg.IndexByteString", "internal/bytealg.IndexString"], unfollowed := true, recurses := true, named := ["internal/bytealg.MaxLen"], apart := false }
def SaveBackSaid : Prop := saveBackRow.holds Tryz.pinned (OpenSpec.ofChange saveBackSpec)

/-- ITS FALSE NEIGHBOUR: 'it returns false'. Refute it at one input. -/
def saveBackWrong : ChangeSpec := { name := "saveBack", fn := fun _ => fun
  | [d1, d2, d3] => { results := [.lit (.bool false)], args := [d1, d2, d3] }
  | _ => none }
def SaveBackWrongFalsely : Prop := saveBackRow.holds Tryz.pinned (OpenSpec.ofChange saveBackWrong)

/-- 'bakekeep1.SaveRewinds': WHATEVER THE INPUT: true; the input reads as it did. -/
def saveRewindsSpec : ChangeSpec := { name := "saveRewinds", fn := fun _ => fun
  | [d1, d2, d3, d4, d5, d6] => { results := [.lit (.bool true)], args := [d1, d2, d3, d4, d5, d6] }
  | _ => none }
def saveRewindsRow : OpenClaim := { program := "ytpfagchhmfigfaagreat", sum := "e6e05d373e829a59a386057887e137ef3c98726e98c61f0c37e28eba9d8646bf", func := "bakelite/bakekeep1.SaveRewinds", spec := "saveRewinds", inPlace := ["internal/bytealg.IndexByteString", "internal/bytealg.IndexString"], unfollowed := true, recurses := true, named := ["internal/bytealg.MaxLen"], apart := false }
def SaveRewindsSaid : Prop := saveRewindsRow.holds Tryz.pinned (OpenSpec.ofChange saveRewindsSpec)

/-- ITS FALSE NEIGHBOUR: 'it returns false'. Refute it at one input. -/
def saveRewindsWrong : ChangeSpec := { name := "saveRewinds", fn := fun _ => fun
  | [d1, d2, d3, d4, d5, d6] => { results := [.lit (.bool false)], args := [d1, d2, d3, d4, d5, d6] }
  | _ => none }
def SaveRewindsWrongFalsely : Prop := saveRewindsRow.holds Tryz.pinned (OpenSpec.ofChange saveRewindsWrong)

/- THE SECOND FORM. 'bulk': how many values and letters a reading holds, each counted each time it is reached (what is shared counts as often as it is met; a slice's spare places count too). A statement '..UptoSaid' is the law's where the arguments, and the package variables that the reading takes, are together of bulk at most 1048576: NARROWER than '..Said'. Prove '..Said' where nothing that the law and all that it calls make is longer than what came in: it says more and counts as full. Else prove '..UptoSaid'. A law counts once. -/
mutual
def uptoBulk {H : Type} : DataW H → Nat
  | .lit (.string bytes) => bytes.length + 1
  | .lit _ => 1
  | .nil => 1
  | .ptr d => uptoBulk d + 1
  | .slice elems spare => uptoBulkAll elems + uptoBulkAll spare + 1
  | .agg parts => uptoBulkAll parts + 1
  | .iface _ d => uptoBulk d + 1
  | .map entries => uptoBulkEntries entries + 1
  | .held _ => 1
def uptoBulkAll {H : Type} : List (DataW H) → Nat
  | [] => 0
  | d :: r => uptoBulk d + uptoBulkAll r
def uptoBulkEntries {H : Type} : List (Lit × DataW H) → Nat
  | [] => 0
  | x :: r => uptoBulkEntry x + uptoBulkEntries r
def uptoBulkEntry {H : Type} : Lit × DataW H → Nat
  | (.string bytes, d) => bytes.length + uptoBulk d + 1
  | (_, d) => uptoBulk d + 1
 end
def uptoSmall : (H : Type) → List (DataW H) → Bool := fun _ ds => decide (uptoBulkAll ds ≤ 1048576)
def OpenSpec.upto (s : _root_.Go.ChangeSpec) : _root_.Go.OpenSpec := { _root_.Go.OpenSpec.ofChange s with cond := some uptoSmall }

/-- 'baketop.MachMemory', WHERE WHAT IT READS IS OF BULK AT MOST 1048576: true; the input reads as it did. -/
def machMemoryUptoRow : OpenClaim := { program := "ytpfagchhmfigfaagreat", sum := "e6e05d373e829a59a386057887e137ef3c98726e98c61f0c37e28eba9d8646bf", func := "bakelite/baketop.MachMemory", spec := "machMemory", inPlace := ["internal/bytealg.IndexByteString", "internal/bytealg.IndexString"], unfollowed := true, recurses := true, named := ["internal/bytealg.MaxLen"], apart := false, narrowed := true }
def MachMemoryUptoSaid : Prop := machMemoryUptoRow.holds Tryz.pinned (OpenSpec.upto machMemorySpec)

/-- 'baketop.LinkHears', WHERE WHAT IT READS IS OF BULK AT MOST 1048576: true; the input reads as it did. -/
def linkHearsUptoRow : OpenClaim := { program := "ytpfagchhmfigfaagreat", sum := "e6e05d373e829a59a386057887e137ef3c98726e98c61f0c37e28eba9d8646bf", func := "bakelite/baketop.LinkHears", spec := "linkHears", inPlace := ["internal/bytealg.IndexByteString", "internal/bytealg.IndexString"], unfollowed := true, recurses := true, named := ["internal/bytealg.MaxLen"], apart := false, narrowed := true }
def LinkHearsUptoSaid : Prop := linkHearsUptoRow.holds Tryz.pinned (OpenSpec.upto linkHearsSpec)

/-- 'baketop.QuickSaved', WHERE WHAT IT READS IS OF BULK AT MOST 1048576: true; the input reads as it did. -/
def quickSavedUptoRow : OpenClaim := { program := "ytpfagchhmfigfaagreat", sum := "e6e05d373e829a59a386057887e137ef3c98726e98c61f0c37e28eba9d8646bf", func := "bakelite/baketop.QuickSaved", spec := "quickSaved", inPlace := ["internal/bytealg.IndexByteString", "internal/bytealg.IndexString"], unfollowed := true, recurses := true, named := ["internal/bytealg.MaxLen"], apart := false, narrowed := true }
def QuickSavedUptoSaid : Prop := quickSavedUptoRow.holds Tryz.pinned (OpenSpec.upto quickSavedSpec)

/-- 'bakekeep1.MachPokes', WHERE WHAT IT READS IS OF BULK AT MOST 1048576: true; the input reads as it did. -/
def machPokesUptoRow : OpenClaim := { program := "ytpfagchhmfigfaagreat", sum := "e6e05d373e829a59a386057887e137ef3c98726e98c61f0c37e28eba9d8646bf", func := "bakelite/bakekeep1.MachPokes", spec := "machPokes", inPlace := ["internal/bytealg.IndexByteString", "internal/bytealg.IndexString"], unfollowed := true, recurses := true, named := ["internal/bytealg.MaxLen"], apart := false, narrowed := true }
def MachPokesUptoSaid : Prop := machPokesUptoRow.holds Tryz.pinned (OpenSpec.upto machPokesSpec)

/-- 'bakekeep1.LinkDelays', WHERE WHAT IT READS IS OF BULK AT MOST 1048576: true; the input reads as it did. -/
def linkDelaysUptoRow : OpenClaim := { program := "ytpfagchhmfigfaagreat", sum := "e6e05d373e829a59a386057887e137ef3c98726e98c61f0c37e28eba9d8646bf", func := "bakelite/bakekeep1.LinkDelays", spec := "linkDelays", inPlace := ["internal/bytealg.IndexByteString", "internal/bytealg.IndexString"], unfollowed := true, recurses := true, named := ["internal/bytealg.MaxLen"], apart := false, narrowed := true }
def LinkDelaysUptoSaid : Prop := linkDelaysUptoRow.holds Tryz.pinned (OpenSpec.upto linkDelaysSpec)

/-- 'bakekeep1.MachOuts', WHERE WHAT IT READS IS OF BULK AT MOST 1048576: true; the input reads as it did. -/
def machOutsUptoRow : OpenClaim := { program := "ytpfagchhmfigfaagreat", sum := "e6e05d373e829a59a386057887e137ef3c98726e98c61f0c37e28eba9d8646bf", func := "bakelite/bakekeep1.MachOuts", spec := "machOuts", inPlace := ["internal/bytealg.IndexByteString", "internal/bytealg.IndexString"], unfollowed := true, recurses := true, named := ["internal/bytealg.MaxLen"], apart := false, narrowed := true }
def MachOutsUptoSaid : Prop := machOutsUptoRow.holds Tryz.pinned (OpenSpec.upto machOutsSpec)

/-- 'bakekeep1.MachJams', WHERE WHAT IT READS IS OF BULK AT MOST 1048576: true; the input reads as it did. -/
def machJamsUptoRow : OpenClaim := { program := "ytpfagchhmfigfaagreat", sum := "e6e05d373e829a59a386057887e137ef3c98726e98c61f0c37e28eba9d8646bf", func := "bakelite/bakekeep1.MachJams", spec := "machJams", inPlace := ["internal/bytealg.IndexByteString", "internal/bytealg.IndexString"], unfollowed := true, recurses := true, named := ["internal/bytealg.MaxLen"], apart := false, narrowed := true }
def MachJamsUptoSaid : Prop := machJamsUptoRow.holds Tryz.pinned (OpenSpec.upto machJamsSpec)

/-- 'bakekeep1.MachReads', WHERE WHAT IT READS IS OF BULK AT MOST 1048576: true; the input reads as it did. -/
def machReadsUptoRow : OpenClaim := { program := "ytpfagchhmfigfaagreat", sum := "e6e05d373e829a59a386057887e137ef3c98726e98c61f0c37e28eba9d8646bf", func := "bakelite/bakekeep1.MachReads", spec := "machReads", inPlace := ["internal/bytealg.IndexByteString", "internal/bytealg.IndexString"], unfollowed := true, recurses := true, named := ["internal/bytealg.MaxLen"], apart := false, narrowed := true }
def MachReadsUptoSaid : Prop := machReadsUptoRow.holds Tryz.pinned (OpenSpec.upto machReadsSpec)

/-- 'bakekeep1.MachParts', WHERE WHAT IT READS IS OF BULK AT MOST 1048576: true; the input reads as it did. -/
def machPartsUptoRow : OpenClaim := { program := "ytpfagchhmfigfaagreat", sum := "e6e05d373e829a59a386057887e137ef3c98726e98c61f0c37e28eba9d8646bf", func := "bakelite/bakekeep1.MachParts", spec := "machParts", inPlace := ["internal/bytealg.IndexByteString", "internal/bytealg.IndexString"], unfollowed := true, recurses := true, named := ["internal/bytealg.MaxLen"], apart := false, narrowed := true }
def MachPartsUptoSaid : Prop := machPartsUptoRow.holds Tryz.pinned (OpenSpec.upto machPartsSpec)

/-- 'bakekeep1.LinkAlone', WHERE WHAT IT READS IS OF BULK AT MOST 1048576: true; the input reads as it did. -/
def linkAloneUptoRow : OpenClaim := { program := "ytpfagchhmfigfaagreat", sum := "e6e05d373e829a59a386057887e137ef3c98726e98c61f0c37e28eba9d8646bf", func := "bakelite/bakekeep1.LinkAlone", spec := "linkAlone", inPlace := ["internal/bytealg.IndexByteString", "internal/bytealg.IndexString"], unfollowed := true, recurses := true, named := ["internal/bytealg.MaxLen"], apart := false, narrowed := true }
def LinkAloneUptoSaid : Prop := linkAloneUptoRow.holds Tryz.pinned (OpenSpec.upto linkAloneSpec)

/-- 'bakekeep1.QuickSame', WHERE WHAT IT READS IS OF BULK AT MOST 1048576: true; the input reads as it did. -/
def quickSameUptoRow : OpenClaim := { program := "ytpfagchhmfigfaagreat", sum := "e6e05d373e829a59a386057887e137ef3c98726e98c61f0c37e28eba9d8646bf", func := "bakelite/bakekeep1.QuickSame", spec := "quickSame", inPlace := ["internal/bytealg.IndexByteString", "internal/bytealg.IndexString"], unfollowed := true, recurses := true, named := ["internal/bytealg.MaxLen"], apart := false, narrowed := true }
def QuickSameUptoSaid : Prop := quickSameUptoRow.holds Tryz.pinned (OpenSpec.upto quickSameSpec)

/-- 'bakekeep1.QuickParts', WHERE WHAT IT READS IS OF BULK AT MOST 1048576: true; the input reads as it did. -/
def quickPartsUptoRow : OpenClaim := { program := "ytpfagchhmfigfaagreat", sum := "e6e05d373e829a59a386057887e137ef3c98726e98c61f0c37e28eba9d8646bf", func := "bakelite/bakekeep1.QuickParts", spec := "quickParts", inPlace := ["internal/bytealg.IndexByteString", "internal/bytealg.IndexString"], unfollowed := true, recurses := true, named := ["internal/bytealg.MaxLen"], apart := false, narrowed := true }
def QuickPartsUptoSaid : Prop := quickPartsUptoRow.holds Tryz.pinned (OpenSpec.upto quickPartsSpec)

/-- 'bakekeep1.SaveBack', WHERE WHAT IT READS IS OF BULK AT MOST 1048576: true; the input reads as it did. -/
def saveBackUptoRow : OpenClaim := { program := "ytpfagchhmfigfaagreat", sum := "e6e05d373e829a59a386057887e137ef3c98726e98c61f0c37e28eba9d8646bf", func := "bakelite/bakekeep1.SaveBack", spec := "saveBack", inPlace := ["internal/bytealg.IndexByteString", "internal/bytealg.IndexString"], unfollowed := true, recurses := true, named := ["internal/bytealg.MaxLen"], apart := false, narrowed := true }
def SaveBackUptoSaid : Prop := saveBackUptoRow.holds Tryz.pinned (OpenSpec.upto saveBackSpec)

/-- 'bakekeep1.SaveRewinds', WHERE WHAT IT READS IS OF BULK AT MOST 1048576: true; the input reads as it did. -/
def saveRewindsUptoRow : OpenClaim := { program := "ytpfagchhmfigfaagreat", sum := "e6e05d373e829a59a386057887e137ef3c98726e98c61f0c37e28eba9d8646bf", func := "bakelite/bakekeep1.SaveRewinds", spec := "saveRewinds", inPlace := ["internal/bytealg.IndexByteString", "internal/bytealg.IndexString"], unfollowed := true, recurses := true, named := ["internal/bytealg.MaxLen"], apart := false, narrowed := true }
def SaveRewindsUptoSaid : Prop := saveRewindsUptoRow.holds Tryz.pinned (OpenSpec.upto saveRewindsSpec)

end Rows
end Go.Proofs.YtpfagchhmfigfaaGreat
