/-
  No cell of these rows narrows 'for every input' (looked for: loops, veiled, ifaces, maps, wideKeys, modest, calm, conditions, laid).
  DERIVED. THE GIVEN ROWS OF THIS SEAT. 12 by the template 'for every input the law returns true; each argument reads behind the call as it read before'; 0 by the template 'total and deterministic' (their statements: YtcgjmkbajjngaaaTotals.lean).
  GIVEN WITH THE SEED: the statements are not yours to turn. If you find one false, say at which input.
  Laid BY PROGRAM, IN A SANDBOX (cutbox-rows.mjs): the forced cells as the released guide's own fill.sh prints them over the translation 86e9d4ecdc2d37ed… (all of the seat's roots in one cut). By AI agents, Wed Nov 11 2026. No macro, syntax, notation, axiom, sorry.
-/
import Derived.Test.YtcgjmkbajjngaaaChecked
import GoSem.Claim
import GoSem.ClaimJoined
import GoSem.ClaimMapViews
import Derived.JoinedTies
import Derived.KernelRfl
namespace Go.Proofs.Ytcgjmkbajjngaaa
/- THE CELL 'sum', in the pinned program and in every row, IS THE sha256 OF THE DUMP (.gsa) THAT YtcgjmkbajjngaaaProg.lean LOADS. Nothing in Lean hashes anything: it is a label: what it is worth is what the hold of that sum in a sandbox is worth. -/
noncomputable def Try.pinned : Pinned := { name := "ytcgjmkbajjngaaa", sum := "86e9d4ecdc2d37ed6da16eae4106485cb5ec7dbfd9437a924bc27858b2be71bd", checked := Try.checked }
namespace Rows
def none {H : Type} : Left H := { results := [], args := [] }

/-- 'bakekeep1.BitPlaces': WHATEVER THE INPUT: true; the input reads as it did. -/
def bitPlacesSpec : ChangeSpec := { name := "bitPlaces", fn := fun _ => fun
  | [d1, d2, d3, d4] => { results := [.lit (.bool true)], args := [d1, d2, d3, d4] }
  | _ => none }
def bitPlacesRow : OpenClaim := { program := "ytcgjmkbajjngaaa", sum := "86e9d4ecdc2d37ed6da16eae4106485cb5ec7dbfd9437a924bc27858b2be71bd", func := "bakelite/bakekeep1.BitPlaces", spec := "bitPlaces", apart := false }
def BitPlacesSaid : Prop := bitPlacesRow.holds Try.pinned (OpenSpec.ofChange bitPlacesSpec)

/-- ITS FALSE NEIGHBOUR: 'it returns false'. Refute it at one input. -/
def bitPlacesWrong : ChangeSpec := { name := "bitPlaces", fn := fun _ => fun
  | [d1, d2, d3, d4] => { results := [.lit (.bool false)], args := [d1, d2, d3, d4] }
  | _ => none }
def BitPlacesWrongFalsely : Prop := bitPlacesRow.holds Try.pinned (OpenSpec.ofChange bitPlacesWrong)

/-- 'bakekeep1.BitBack': WHATEVER THE INPUT: true; the input reads as it did. -/
def bitBackSpec : ChangeSpec := { name := "bitBack", fn := fun _ => fun
  | [d1, d2, d3] => { results := [.lit (.bool true)], args := [d1, d2, d3] }
  | _ => none }
def bitBackRow : OpenClaim := { program := "ytcgjmkbajjngaaa", sum := "86e9d4ecdc2d37ed6da16eae4106485cb5ec7dbfd9437a924bc27858b2be71bd", func := "bakelite/bakekeep1.BitBack", spec := "bitBack", apart := false }
def BitBackSaid : Prop := bitBackRow.holds Try.pinned (OpenSpec.ofChange bitBackSpec)

/-- ITS FALSE NEIGHBOUR: 'it returns false'. Refute it at one input. -/
def bitBackWrong : ChangeSpec := { name := "bitBack", fn := fun _ => fun
  | [d1, d2, d3] => { results := [.lit (.bool false)], args := [d1, d2, d3] }
  | _ => none }
def BitBackWrongFalsely : Prop := bitBackRow.holds Try.pinned (OpenSpec.ofChange bitBackWrong)

/-- 'bakekeep1.BitTurns': WHATEVER THE INPUT: true; the input reads as it did. -/
def bitTurnsSpec : ChangeSpec := { name := "bitTurns", fn := fun _ => fun
  | [d1, d2, d3] => { results := [.lit (.bool true)], args := [d1, d2, d3] }
  | _ => none }
def bitTurnsRow : OpenClaim := { program := "ytcgjmkbajjngaaa", sum := "86e9d4ecdc2d37ed6da16eae4106485cb5ec7dbfd9437a924bc27858b2be71bd", func := "bakelite/bakekeep1.BitTurns", spec := "bitTurns", apart := false }
def BitTurnsSaid : Prop := bitTurnsRow.holds Try.pinned (OpenSpec.ofChange bitTurnsSpec)

/-- ITS FALSE NEIGHBOUR: 'it returns false'. Refute it at one input. -/
def bitTurnsWrong : ChangeSpec := { name := "bitTurns", fn := fun _ => fun
  | [d1, d2, d3] => { results := [.lit (.bool false)], args := [d1, d2, d3] }
  | _ => none }
def BitTurnsWrongFalsely : Prop := bitTurnsRow.holds Try.pinned (OpenSpec.ofChange bitTurnsWrong)

/-- 'bakekeep1.BitDecimals': WHATEVER THE INPUT: true; the input reads as it did. -/
def bitDecimalsSpec : ChangeSpec := { name := "bitDecimals", fn := fun _ => fun
  | [d] => { results := [.lit (.bool true)], args := [d] }
  | _ => none }
def bitDecimalsRow : OpenClaim := { program := "ytcgjmkbajjngaaa", sum := "86e9d4ecdc2d37ed6da16eae4106485cb5ec7dbfd9437a924bc27858b2be71bd", func := "bakelite/bakekeep1.BitDecimals", spec := "bitDecimals", apart := false }
def BitDecimalsSaid : Prop := bitDecimalsRow.holds Try.pinned (OpenSpec.ofChange bitDecimalsSpec)

/-- ITS FALSE NEIGHBOUR: 'it returns false'. Refute it at one input. -/
def bitDecimalsWrong : ChangeSpec := { name := "bitDecimals", fn := fun _ => fun
  | [d] => { results := [.lit (.bool false)], args := [d] }
  | _ => none }
def BitDecimalsWrongFalsely : Prop := bitDecimalsRow.holds Try.pinned (OpenSpec.ofChange bitDecimalsWrong)

/-- 'bakekeep1.SerialHears': WHATEVER THE INPUT: true; the input reads as it did. -/
def serialHearsSpec : ChangeSpec := { name := "serialHears", fn := fun _ => fun
  | [d1, d2] => { results := [.lit (.bool true)], args := [d1, d2] }
  | _ => none }
def serialHearsRow : OpenClaim := { program := "ytcgjmkbajjngaaa", sum := "86e9d4ecdc2d37ed6da16eae4106485cb5ec7dbfd9437a924bc27858b2be71bd", func := "bakelite/bakekeep1.SerialHears", spec := "serialHears", apart := false }
def SerialHearsSaid : Prop := serialHearsRow.holds Try.pinned (OpenSpec.ofChange serialHearsSpec)

/-- ITS FALSE NEIGHBOUR: 'it returns false'. Refute it at one input. -/
def serialHearsWrong : ChangeSpec := { name := "serialHears", fn := fun _ => fun
  | [d1, d2] => { results := [.lit (.bool false)], args := [d1, d2] }
  | _ => none }
def SerialHearsWrongFalsely : Prop := serialHearsRow.holds Try.pinned (OpenSpec.ofChange serialHearsWrong)

/-- 'bakekeep1.PinBytes': WHATEVER THE INPUT: true; the input reads as it did. -/
def pinBytesSpec : ChangeSpec := { name := "pinBytes", fn := fun _ => fun
  | [d1, d2] => { results := [.lit (.bool true)], args := [d1, d2] }
  | _ => none }
def pinBytesRow : OpenClaim := { program := "ytcgjmkbajjngaaa", sum := "86e9d4ecdc2d37ed6da16eae4106485cb5ec7dbfd9437a924bc27858b2be71bd", func := "bakelite/bakekeep1.PinBytes", spec := "pinBytes", apart := false }
def PinBytesSaid : Prop := pinBytesRow.holds Try.pinned (OpenSpec.ofChange pinBytesSpec)

/-- ITS FALSE NEIGHBOUR: 'it returns false'. Refute it at one input. -/
def pinBytesWrong : ChangeSpec := { name := "pinBytes", fn := fun _ => fun
  | [d1, d2] => { results := [.lit (.bool false)], args := [d1, d2] }
  | _ => none }
def PinBytesWrongFalsely : Prop := pinBytesRow.holds Try.pinned (OpenSpec.ofChange pinBytesWrong)

/-- 'bakekeep1.PortMask': WHATEVER THE INPUT: true; the input reads as it did. -/
def portMaskSpec : ChangeSpec := { name := "portMask", fn := fun _ => fun
  | [d1, d2, d3] => { results := [.lit (.bool true)], args := [d1, d2, d3] }
  | _ => none }
def portMaskRow : OpenClaim := { program := "ytcgjmkbajjngaaa", sum := "86e9d4ecdc2d37ed6da16eae4106485cb5ec7dbfd9437a924bc27858b2be71bd", func := "bakelite/bakekeep1.PortMask", spec := "portMask", apart := false }
def PortMaskSaid : Prop := portMaskRow.holds Try.pinned (OpenSpec.ofChange portMaskSpec)

/-- ITS FALSE NEIGHBOUR: 'it returns false'. Refute it at one input. -/
def portMaskWrong : ChangeSpec := { name := "portMask", fn := fun _ => fun
  | [d1, d2, d3] => { results := [.lit (.bool false)], args := [d1, d2, d3] }
  | _ => none }
def PortMaskWrongFalsely : Prop := portMaskRow.holds Try.pinned (OpenSpec.ofChange portMaskWrong)

/-- 'bakekeep1.TimerFires': WHATEVER THE INPUT: true; the input reads as it did. -/
def timerFiresSpec : ChangeSpec := { name := "timerFires", fn := fun _ => fun
  | [d1, d2] => { results := [.lit (.bool true)], args := [d1, d2] }
  | _ => none }
def timerFiresRow : OpenClaim := { program := "ytcgjmkbajjngaaa", sum := "86e9d4ecdc2d37ed6da16eae4106485cb5ec7dbfd9437a924bc27858b2be71bd", func := "bakelite/bakekeep1.TimerFires", spec := "timerFires", apart := false }
def TimerFiresSaid : Prop := timerFiresRow.holds Try.pinned (OpenSpec.ofChange timerFiresSpec)

/-- ITS FALSE NEIGHBOUR: 'it returns false'. Refute it at one input. -/
def timerFiresWrong : ChangeSpec := { name := "timerFires", fn := fun _ => fun
  | [d1, d2] => { results := [.lit (.bool false)], args := [d1, d2] }
  | _ => none }
def TimerFiresWrongFalsely : Prop := timerFiresRow.holds Try.pinned (OpenSpec.ofChange timerFiresWrong)

/-- 'bakekeep1.SerialSends': WHATEVER THE INPUT: true; the input reads as it did. -/
def serialSendsSpec : ChangeSpec := { name := "serialSends", fn := fun _ => fun
  | [d1, d2, d3] => { results := [.lit (.bool true)], args := [d1, d2, d3] }
  | _ => none }
def serialSendsRow : OpenClaim := { program := "ytcgjmkbajjngaaa", sum := "86e9d4ecdc2d37ed6da16eae4106485cb5ec7dbfd9437a924bc27858b2be71bd", func := "bakelite/bakekeep1.SerialSends", spec := "serialSends", apart := false }
def SerialSendsSaid : Prop := serialSendsRow.holds Try.pinned (OpenSpec.ofChange serialSendsSpec)

/-- ITS FALSE NEIGHBOUR: 'it returns false'. Refute it at one input. -/
def serialSendsWrong : ChangeSpec := { name := "serialSends", fn := fun _ => fun
  | [d1, d2, d3] => { results := [.lit (.bool false)], args := [d1, d2, d3] }
  | _ => none }
def SerialSendsWrongFalsely : Prop := serialSendsRow.holds Try.pinned (OpenSpec.ofChange serialSendsWrong)

/-- 'bakekeep1.SerialAsks': WHATEVER THE INPUT: true; the input reads as it did. -/
def serialAsksSpec : ChangeSpec := { name := "serialAsks", fn := fun _ => fun
  | [d1, d2] => { results := [.lit (.bool true)], args := [d1, d2] }
  | _ => none }
def serialAsksRow : OpenClaim := { program := "ytcgjmkbajjngaaa", sum := "86e9d4ecdc2d37ed6da16eae4106485cb5ec7dbfd9437a924bc27858b2be71bd", func := "bakelite/bakekeep1.SerialAsks", spec := "serialAsks", apart := false }
def SerialAsksSaid : Prop := serialAsksRow.holds Try.pinned (OpenSpec.ofChange serialAsksSpec)

/-- ITS FALSE NEIGHBOUR: 'it returns false'. Refute it at one input. -/
def serialAsksWrong : ChangeSpec := { name := "serialAsks", fn := fun _ => fun
  | [d1, d2] => { results := [.lit (.bool false)], args := [d1, d2] }
  | _ => none }
def SerialAsksWrongFalsely : Prop := serialAsksRow.holds Try.pinned (OpenSpec.ofChange serialAsksWrong)

/-- 'bakekeep1.TimerWaits': WHATEVER THE INPUT: true; the input reads as it did. -/
def timerWaitsSpec : ChangeSpec := { name := "timerWaits", fn := fun _ => fun
  | [d1, d2] => { results := [.lit (.bool true)], args := [d1, d2] }
  | _ => none }
def timerWaitsRow : OpenClaim := { program := "ytcgjmkbajjngaaa", sum := "86e9d4ecdc2d37ed6da16eae4106485cb5ec7dbfd9437a924bc27858b2be71bd", func := "bakelite/bakekeep1.TimerWaits", spec := "timerWaits", apart := false }
def TimerWaitsSaid : Prop := timerWaitsRow.holds Try.pinned (OpenSpec.ofChange timerWaitsSpec)

/-- ITS FALSE NEIGHBOUR: 'it returns false'. Refute it at one input. -/
def timerWaitsWrong : ChangeSpec := { name := "timerWaits", fn := fun _ => fun
  | [d1, d2] => { results := [.lit (.bool false)], args := [d1, d2] }
  | _ => none }
def TimerWaitsWrongFalsely : Prop := timerWaitsRow.holds Try.pinned (OpenSpec.ofChange timerWaitsWrong)

/-- 'bakekeep1.PinOrder': WHATEVER THE INPUT: true; the input reads as it did. -/
def pinOrderSpec : ChangeSpec := { name := "pinOrder", fn := fun _ => fun
  | [d1, d2, d3] => { results := [.lit (.bool true)], args := [d1, d2, d3] }
  | _ => none }
def pinOrderRow : OpenClaim := { program := "ytcgjmkbajjngaaa", sum := "86e9d4ecdc2d37ed6da16eae4106485cb5ec7dbfd9437a924bc27858b2be71bd", func := "bakelite/bakekeep1.PinOrder", spec := "pinOrder", inPlace := ["slices.overlaps[int]"], apart := false }
def PinOrderSaid : Prop := pinOrderRow.holds Try.pinned (OpenSpec.ofChange pinOrderSpec)

/-- ITS FALSE NEIGHBOUR: 'it returns false'. Refute it at one input. -/
def pinOrderWrong : ChangeSpec := { name := "pinOrder", fn := fun _ => fun
  | [d1, d2, d3] => { results := [.lit (.bool false)], args := [d1, d2, d3] }
  | _ => none }
def PinOrderWrongFalsely : Prop := pinOrderRow.holds Try.pinned (OpenSpec.ofChange pinOrderWrong)

/- THE SECOND FORM. 'bulk': how many values and letters a reading holds, each counted each time it is reached (what is shared counts as often as it is met; a slice's spare places count too). A statement '..UptoSaid' is the law's where the arguments, and the package variables that the reading takes, are together of bulk at most 1048576: NARROWER than '..Said'. Prove '..Said' where nothing that the law and all that it calls make is longer than what came in: it says more and counts as full. Else prove '..UptoSaid'. A law counts once. -/
mutual
def uptoBulk {H : Type} : DataW H → Nat
  | .lit (.string bytes) => bytes.length + 1
  | .lit _ => 1
  | .nil => 1
  | .ptr d => uptoBulk d + 1
  | .slice elems spare => uptoBulkAll elems + uptoBulkAll spare + 1
  | .agg parts => uptoBulkAll parts + 1
  | .iface _ d => uptoBulk d + 1
  | .map entries => uptoBulkEntries entries + 1
  | .held _ => 1
def uptoBulkAll {H : Type} : List (DataW H) → Nat
  | [] => 0
  | d :: r => uptoBulk d + uptoBulkAll r
def uptoBulkEntries {H : Type} : List (Lit × DataW H) → Nat
  | [] => 0
  | x :: r => uptoBulkEntry x + uptoBulkEntries r
def uptoBulkEntry {H : Type} : Lit × DataW H → Nat
  | (.string bytes, d) => bytes.length + uptoBulk d + 1
  | (_, d) => uptoBulk d + 1
 end
def uptoSmall : (H : Type) → List (DataW H) → Bool := fun _ ds => decide (uptoBulkAll ds ≤ 1048576)
def OpenSpec.upto (s : _root_.Go.ChangeSpec) : _root_.Go.OpenSpec := { _root_.Go.OpenSpec.ofChange s with cond := some uptoSmall }

/-- 'bakekeep1.BitPlaces', WHERE WHAT IT READS IS OF BULK AT MOST 1048576: true; the input reads as it did. -/
def bitPlacesUptoRow : OpenClaim := { program := "ytcgjmkbajjngaaa", sum := "86e9d4ecdc2d37ed6da16eae4106485cb5ec7dbfd9437a924bc27858b2be71bd", func := "bakelite/bakekeep1.BitPlaces", spec := "bitPlaces", apart := false, narrowed := true }
def BitPlacesUptoSaid : Prop := bitPlacesUptoRow.holds Try.pinned (OpenSpec.upto bitPlacesSpec)

/-- 'bakekeep1.BitBack', WHERE WHAT IT READS IS OF BULK AT MOST 1048576: true; the input reads as it did. -/
def bitBackUptoRow : OpenClaim := { program := "ytcgjmkbajjngaaa", sum := "86e9d4ecdc2d37ed6da16eae4106485cb5ec7dbfd9437a924bc27858b2be71bd", func := "bakelite/bakekeep1.BitBack", spec := "bitBack", apart := false, narrowed := true }
def BitBackUptoSaid : Prop := bitBackUptoRow.holds Try.pinned (OpenSpec.upto bitBackSpec)

/-- 'bakekeep1.BitTurns', WHERE WHAT IT READS IS OF BULK AT MOST 1048576: true; the input reads as it did. -/
def bitTurnsUptoRow : OpenClaim := { program := "ytcgjmkbajjngaaa", sum := "86e9d4ecdc2d37ed6da16eae4106485cb5ec7dbfd9437a924bc27858b2be71bd", func := "bakelite/bakekeep1.BitTurns", spec := "bitTurns", apart := false, narrowed := true }
def BitTurnsUptoSaid : Prop := bitTurnsUptoRow.holds Try.pinned (OpenSpec.upto bitTurnsSpec)

/-- 'bakekeep1.BitDecimals', WHERE WHAT IT READS IS OF BULK AT MOST 1048576: true; the input reads as it did. -/
def bitDecimalsUptoRow : OpenClaim := { program := "ytcgjmkbajjngaaa", sum := "86e9d4ecdc2d37ed6da16eae4106485cb5ec7dbfd9437a924bc27858b2be71bd", func := "bakelite/bakekeep1.BitDecimals", spec := "bitDecimals", apart := false, narrowed := true }
def BitDecimalsUptoSaid : Prop := bitDecimalsUptoRow.holds Try.pinned (OpenSpec.upto bitDecimalsSpec)

/-- 'bakekeep1.SerialHears', WHERE WHAT IT READS IS OF BULK AT MOST 1048576: true; the input reads as it did. -/
def serialHearsUptoRow : OpenClaim := { program := "ytcgjmkbajjngaaa", sum := "86e9d4ecdc2d37ed6da16eae4106485cb5ec7dbfd9437a924bc27858b2be71bd", func := "bakelite/bakekeep1.SerialHears", spec := "serialHears", apart := false, narrowed := true }
def SerialHearsUptoSaid : Prop := serialHearsUptoRow.holds Try.pinned (OpenSpec.upto serialHearsSpec)

/-- 'bakekeep1.PinBytes', WHERE WHAT IT READS IS OF BULK AT MOST 1048576: true; the input reads as it did. -/
def pinBytesUptoRow : OpenClaim := { program := "ytcgjmkbajjngaaa", sum := "86e9d4ecdc2d37ed6da16eae4106485cb5ec7dbfd9437a924bc27858b2be71bd", func := "bakelite/bakekeep1.PinBytes", spec := "pinBytes", apart := false, narrowed := true }
def PinBytesUptoSaid : Prop := pinBytesUptoRow.holds Try.pinned (OpenSpec.upto pinBytesSpec)

/-- 'bakekeep1.PortMask', WHERE WHAT IT READS IS OF BULK AT MOST 1048576: true; the input reads as it did. -/
def portMaskUptoRow : OpenClaim := { program := "ytcgjmkbajjngaaa", sum := "86e9d4ecdc2d37ed6da16eae4106485cb5ec7dbfd9437a924bc27858b2be71bd", func := "bakelite/bakekeep1.PortMask", spec := "portMask", apart := false, narrowed := true }
def PortMaskUptoSaid : Prop := portMaskUptoRow.holds Try.pinned (OpenSpec.upto portMaskSpec)

/-- 'bakekeep1.TimerFires', WHERE WHAT IT READS IS OF BULK AT MOST 1048576: true; the input reads as it did. -/
def timerFiresUptoRow : OpenClaim := { program := "ytcgjmkbajjngaaa", sum := "86e9d4ecdc2d37ed6da16eae4106485cb5ec7dbfd9437a924bc27858b2be71bd", func := "bakelite/bakekeep1.TimerFires", spec := "timerFires", apart := false, narrowed := true }
def TimerFiresUptoSaid : Prop := timerFiresUptoRow.holds Try.pinned (OpenSpec.upto timerFiresSpec)

/-- 'bakekeep1.SerialSends', WHERE WHAT IT READS IS OF BULK AT MOST 1048576: true; the input reads as it did. -/
def serialSendsUptoRow : OpenClaim := { program := "ytcgjmkbajjngaaa", sum := "86e9d4ecdc2d37ed6da16eae4106485cb5ec7dbfd9437a924bc27858b2be71bd", func := "bakelite/bakekeep1.SerialSends", spec := "serialSends", apart := false, narrowed := true }
def SerialSendsUptoSaid : Prop := serialSendsUptoRow.holds Try.pinned (OpenSpec.upto serialSendsSpec)

/-- 'bakekeep1.SerialAsks', WHERE WHAT IT READS IS OF BULK AT MOST 1048576: true; the input reads as it did. -/
def serialAsksUptoRow : OpenClaim := { program := "ytcgjmkbajjngaaa", sum := "86e9d4ecdc2d37ed6da16eae4106485cb5ec7dbfd9437a924bc27858b2be71bd", func := "bakelite/bakekeep1.SerialAsks", spec := "serialAsks", apart := false, narrowed := true }
def SerialAsksUptoSaid : Prop := serialAsksUptoRow.holds Try.pinned (OpenSpec.upto serialAsksSpec)

/-- 'bakekeep1.TimerWaits', WHERE WHAT IT READS IS OF BULK AT MOST 1048576: true; the input reads as it did. -/
def timerWaitsUptoRow : OpenClaim := { program := "ytcgjmkbajjngaaa", sum := "86e9d4ecdc2d37ed6da16eae4106485cb5ec7dbfd9437a924bc27858b2be71bd", func := "bakelite/bakekeep1.TimerWaits", spec := "timerWaits", apart := false, narrowed := true }
def TimerWaitsUptoSaid : Prop := timerWaitsUptoRow.holds Try.pinned (OpenSpec.upto timerWaitsSpec)

/-- 'bakekeep1.PinOrder', WHERE WHAT IT READS IS OF BULK AT MOST 1048576: true; the input reads as it did. -/
def pinOrderUptoRow : OpenClaim := { program := "ytcgjmkbajjngaaa", sum := "86e9d4ecdc2d37ed6da16eae4106485cb5ec7dbfd9437a924bc27858b2be71bd", func := "bakelite/bakekeep1.PinOrder", spec := "pinOrder", inPlace := ["slices.overlaps[int]"], apart := false, narrowed := true }
def PinOrderUptoSaid : Prop := pinOrderUptoRow.holds Try.pinned (OpenSpec.upto pinOrderSpec)

end Rows
end Go.Proofs.Ytcgjmkbajjngaaa
