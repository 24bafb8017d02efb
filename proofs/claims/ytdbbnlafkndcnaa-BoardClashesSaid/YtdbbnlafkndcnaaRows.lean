/-
  No cell of these rows narrows 'for every input' (looked for: loops, veiled, ifaces, maps, wideKeys, modest, calm, conditions, laid).
  DERIVED. THE GIVEN ROWS OF THIS SEAT. 3 by the template 'for every input the law returns true; each argument reads behind the call as it read before'; 0 by the template 'total and deterministic' (their statements: YtdbbnlafkndcnaaTotals.lean).
  GIVEN WITH THE SEED: the statements are not yours to turn. If you find one false, say at which input.
  Laid BY PROGRAM, IN A SANDBOX (cutbox-rows.mjs): the forced cells as the released guide's own fill.sh prints them over the translation 0d7fedcfa566f371… (all of the seat's roots in one cut). By AI agents, Wed Nov 11 2026. No macro, syntax, notation, axiom, sorry.
-/
import Derived.Test.YtdbbnlafkndcnaaChecked
import GoSem.Claim
import GoSem.ClaimJoined
import GoSem.ClaimMapViews
import Derived.JoinedTies
import Derived.KernelRfl
namespace Go.Proofs.Ytdbbnlafkndcnaa
/- THE CELL 'sum', in the pinned program and in every row, IS THE sha256 OF THE DUMP (.gsa) THAT YtdbbnlafkndcnaaProg.lean LOADS. Nothing in Lean hashes anything: it is a label: what it is worth is what the hold of that sum in a sandbox is worth. -/
noncomputable def Try.pinned : Pinned := { name := "ytdbbnlafkndcnaa", sum := "0d7fedcfa566f371eba82eced896faeb5968b17e0797f0cc9608260a82f53fbb", checked := Try.checked }
namespace Rows
def none {H : Type} : Left H := { results := [], args := [] }

/-- 'bakekeep1.PinOrder': WHATEVER THE INPUT: true; the input reads as it did. -/
def pinOrderSpec : ChangeSpec := { name := "pinOrder", fn := fun _ => fun
  | [d1, d2, d3] => { results := [.lit (.bool true)], args := [d1, d2, d3] }
  | _ => none }
def pinOrderRow : OpenClaim := { program := "ytdbbnlafkndcnaa", sum := "0d7fedcfa566f371eba82eced896faeb5968b17e0797f0cc9608260a82f53fbb", func := "bakelite/bakekeep1.PinOrder", spec := "pinOrder", inPlace := ["slices.overlaps[int]"], apart := false }
def PinOrderSaid : Prop := pinOrderRow.holds Try.pinned (OpenSpec.ofChange pinOrderSpec)

/-- ITS FALSE NEIGHBOUR: 'it returns false'. Refute it at one input. -/
def pinOrderWrong : ChangeSpec := { name := "pinOrder", fn := fun _ => fun
  | [d1, d2, d3] => { results := [.lit (.bool false)], args := [d1, d2, d3] }
  | _ => none }
def PinOrderWrongFalsely : Prop := pinOrderRow.holds Try.pinned (OpenSpec.ofChange pinOrderWrong)

/-- 'bakekeep1.TableSpoilt': WHATEVER THE INPUT: true; the input reads as it did. -/
def tableSpoiltSpec : ChangeSpec := { name := "tableSpoilt", fn := fun _ => fun
  | [d1, d2, d3] => { results := [.lit (.bool true)], args := [d1, d2, d3] }
  | _ => none }
def tableSpoiltRow : OpenClaim := { program := "ytdbbnlafkndcnaa", sum := "0d7fedcfa566f371eba82eced896faeb5968b17e0797f0cc9608260a82f53fbb", func := "bakelite/bakekeep1.TableSpoilt", spec := "tableSpoilt", inPlace := ["slices.overlaps[bakelite/api.Instr]"], unfollowed := true, recurses := true, apart := false }
def TableSpoiltSaid : Prop := tableSpoiltRow.holds Try.pinned (OpenSpec.ofChange tableSpoiltSpec)

/-- ITS FALSE NEIGHBOUR: 'it returns false'. Refute it at one input. -/
def tableSpoiltWrong : ChangeSpec := { name := "tableSpoilt", fn := fun _ => fun
  | [d1, d2, d3] => { results := [.lit (.bool false)], args := [d1, d2, d3] }
  | _ => none }
def TableSpoiltWrongFalsely : Prop := tableSpoiltRow.holds Try.pinned (OpenSpec.ofChange tableSpoiltWrong)

/-- 'bakekeep1.BoardClashes': WHATEVER THE INPUT: true; the input reads as it did. -/
def boardClashesSpec : ChangeSpec := { name := "boardClashes", fn := fun _ => fun
  | [d1, d2, d3, d4] => { results := [.lit (.bool true)], args := [d1, d2, d3, d4] }
  | _ => none }
def boardClashesRow : OpenClaim := { program := "ytdbbnlafkndcnaa", sum := "0d7fedcfa566f371eba82eced896faeb5968b17e0797f0cc9608260a82f53fbb", func := "bakelite/bakekeep1.BoardClashes", spec := "boardClashes", inPlace := ["internal/bytealg.IndexByteString", "internal/bytealg.IndexString"], unfollowed := true, recurses := true, named := ["internal/bytealg.MaxLen"], apart := false }
def BoardClashesSaid : Prop := boardClashesRow.holds Try.pinned (OpenSpec.ofChange boardClashesSpec)

/-- ITS FALSE NEIGHBOUR: 'it returns false'. Refute it at one input. -/
def boardClashesWrong : ChangeSpec := { name := "boardClashes", fn := fun _ => fun
  | [d1, d2, d3, d4] => { results := [.lit (.bool false)], args := [d1, d2, d3, d4] }
  | _ => none }
def BoardClashesWrongFalsely : Prop := boardClashesRow.holds Try.pinned (OpenSpec.ofChange boardClashesWrong)

/- THE SECOND FORM. 'bulk': how many values and letters a reading holds, each counted each time it is reached (what is shared counts as often as it is met; a slice's spare places count too). A statement '..UptoSaid' is the law's where the arguments, and the package variables that the reading takes, are together of bulk at most 1048576: NARROWER than '..Said'. Prove '..Said' where nothing that the law and all that it calls make is longer than what came in: it says more and counts as full. Else prove '..UptoSaid'. A law counts once. -/
mutual
def uptoBulk {H : Type} : DataW H → Nat
  | .lit (.string bytes) => bytes.length + 1
  | .lit _ => 1
  | .nil => 1
  | .ptr d => uptoBulk d + 1
  | .slice elems spare => uptoBulkAll elems + uptoBulkAll spare + 1
  | .agg parts => uptoBulkAll parts + 1
  | .iface _ d => uptoBulk d + 1
  | .map entries => uptoBulkEntries entries + 1
  | .held _ => 1
def uptoBulkAll {H : Type} : List (DataW H) → Nat
  | [] => 0
  | d :: r => uptoBulk d + uptoBulkAll r
def uptoBulkEntries {H : Type} : List (Lit × DataW H) → Nat
  | [] => 0
  | x :: r => uptoBulkEntry x + uptoBulkEntries r
def uptoBulkEntry {H : Type} : Lit × DataW H → Nat
  | (.string bytes, d) => bytes.length + uptoBulk d + 1
  | (_, d) => uptoBulk d + 1
 end
def uptoSmall : (H : Type) → List (DataW H) → Bool := fun _ ds => decide (uptoBulkAll ds ≤ 1048576)
def OpenSpec.upto (s : _root_.Go.ChangeSpec) : _root_.Go.OpenSpec := { _root_.Go.OpenSpec.ofChange s with cond := some uptoSmall }

/-- 'bakekeep1.PinOrder', WHERE WHAT IT READS IS OF BULK AT MOST 1048576: true; the input reads as it did. -/
def pinOrderUptoRow : OpenClaim := { program := "ytdbbnlafkndcnaa", sum := "0d7fedcfa566f371eba82eced896faeb5968b17e0797f0cc9608260a82f53fbb", func := "bakelite/bakekeep1.PinOrder", spec := "pinOrder", inPlace := ["slices.overlaps[int]"], apart := false, narrowed := true }
def PinOrderUptoSaid : Prop := pinOrderUptoRow.holds Try.pinned (OpenSpec.upto pinOrderSpec)

/-- 'bakekeep1.TableSpoilt', WHERE WHAT IT READS IS OF BULK AT MOST 1048576: true; the input reads as it did. -/
def tableSpoiltUptoRow : OpenClaim := { program := "ytdbbnlafkndcnaa", sum := "0d7fedcfa566f371eba82eced896faeb5968b17e0797f0cc9608260a82f53fbb", func := "bakelite/bakekeep1.TableSpoilt", spec := "tableSpoilt", inPlace := ["slices.overlaps[bakelite/api.Instr]"], unfollowed := true, recurses := true, apart := false, narrowed := true }
def TableSpoiltUptoSaid : Prop := tableSpoiltUptoRow.holds Try.pinned (OpenSpec.upto tableSpoiltSpec)

/-- 'bakekeep1.BoardClashes', WHERE WHAT IT READS IS OF BULK AT MOST 1048576: true; the input reads as it did. -/
def boardClashesUptoRow : OpenClaim := { program := "ytdbbnlafkndcnaa", sum := "0d7fedcfa566f371eba82eced896faeb5968b17e0797f0cc9608260a82f53fbb", func := "bakelite/bakekeep1.BoardClashes", spec := "boardClashes", inPlace := ["internal/bytealg.IndexByteString", "internal/bytealg.IndexString"], unfollowed := true, recurses := true, named := ["internal/bytealg.MaxLen"], apart := false, narrowed := true }
def BoardClashesUptoSaid : Prop := boardClashesUptoRow.holds Try.pinned (OpenSpec.upto boardClashesSpec)

end Rows
end Go.Proofs.Ytdbbnlafkndcnaa
