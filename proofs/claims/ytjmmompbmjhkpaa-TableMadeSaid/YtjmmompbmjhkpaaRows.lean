/-
  No cell of these rows narrows 'for every input' (looked for: loops, veiled, ifaces, maps, wideKeys, modest, calm, conditions, laid).
  DERIVED. THE GIVEN ROWS OF THIS SEAT. 24 by the template 'for every input the law returns true; each argument reads behind the call as it read before'; 0 by the template 'total and deterministic' (their statements: YtjmmompbmjhkpaaTotals.lean).
  GIVEN WITH THE SEED: the statements are not yours to turn. If you find one false, say at which input.
  Laid BY PROGRAM, IN A SANDBOX (cutbox-rows.mjs): the forced cells as the released guide's own fill.sh prints them over the translation bb46fc8e9dc8f7c1… (all of the seat's roots in one cut). By AI agents, Wed Nov 11 2026. No macro, syntax, notation, axiom, sorry.
-/
import Derived.Test.YtjmmompbmjhkpaaChecked
import GoSem.Claim
import GoSem.ClaimJoined
import GoSem.ClaimMapViews
import Derived.JoinedTies
import Derived.KernelRfl
namespace Go.Proofs.Ytjmmompbmjhkpaa
/- THE CELL 'sum', in the pinned program and in every row, IS THE sha256 OF THE DUMP (.gsa) THAT YtjmmompbmjhkpaaProg.lean LOADS. Nothing in Lean hashes anything: it is a label: what it is worth is what the hold of that sum in a sandbox is worth. -/
noncomputable def Try.pinned : Pinned := { name := "ytjmmompbmjhkpaa", sum := "bb46fc8e9dc8f7c1c6e72c6106d1b9db0abd5fe22f1341d65df3bacceae46241", checked := Try.checked }
namespace Rows
def none {H : Type} : Left H := { results := [], args := [] }

/-- 'bakekeep1.VideoFrames': WHATEVER THE INPUT: true; the input reads as it did. -/
def videoFramesSpec : ChangeSpec := { name := "videoFrames", fn := fun _ => fun
  | [d1, d2, d3] => { results := [.lit (.bool true)], args := [d1, d2, d3] }
  | _ => none }
def videoFramesRow : OpenClaim := { program := "ytjmmompbmjhkpaa", sum := "bb46fc8e9dc8f7c1c6e72c6106d1b9db0abd5fe22f1341d65df3bacceae46241", func := "bakelite/bakekeep1.VideoFrames", spec := "videoFrames", apart := false }
def VideoFramesSaid : Prop := videoFramesRow.holds Try.pinned (OpenSpec.ofChange videoFramesSpec)

/-- ITS FALSE NEIGHBOUR: 'it returns false'. Refute it at one input. -/
def videoFramesWrong : ChangeSpec := { name := "videoFrames", fn := fun _ => fun
  | [d1, d2, d3] => { results := [.lit (.bool false)], args := [d1, d2, d3] }
  | _ => none }
def VideoFramesWrongFalsely : Prop := videoFramesRow.holds Try.pinned (OpenSpec.ofChange videoFramesWrong)

/-- 'bakekeep1.VideoKeeps': WHATEVER THE INPUT: true; the input reads as it did. -/
def videoKeepsSpec : ChangeSpec := { name := "videoKeeps", fn := fun _ => fun
  | [d1, d2, d3, d4] => { results := [.lit (.bool true)], args := [d1, d2, d3, d4] }
  | _ => none }
def videoKeepsRow : OpenClaim := { program := "ytjmmompbmjhkpaa", sum := "bb46fc8e9dc8f7c1c6e72c6106d1b9db0abd5fe22f1341d65df3bacceae46241", func := "bakelite/bakekeep1.VideoKeeps", spec := "videoKeeps", apart := false }
def VideoKeepsSaid : Prop := videoKeepsRow.holds Try.pinned (OpenSpec.ofChange videoKeepsSpec)

/-- ITS FALSE NEIGHBOUR: 'it returns false'. Refute it at one input. -/
def videoKeepsWrong : ChangeSpec := { name := "videoKeeps", fn := fun _ => fun
  | [d1, d2, d3, d4] => { results := [.lit (.bool false)], args := [d1, d2, d3, d4] }
  | _ => none }
def VideoKeepsWrongFalsely : Prop := videoKeepsRow.holds Try.pinned (OpenSpec.ofChange videoKeepsWrong)

/-- 'bakekeep1.VideoSprites': WHATEVER THE INPUT: true; the input reads as it did. -/
def videoSpritesSpec : ChangeSpec := { name := "videoSprites", fn := fun _ => fun
  | [d1, d2, d3] => { results := [.lit (.bool true)], args := [d1, d2, d3] }
  | _ => none }
def videoSpritesRow : OpenClaim := { program := "ytjmmompbmjhkpaa", sum := "bb46fc8e9dc8f7c1c6e72c6106d1b9db0abd5fe22f1341d65df3bacceae46241", func := "bakelite/bakekeep1.VideoSprites", spec := "videoSprites", apart := false }
def VideoSpritesSaid : Prop := videoSpritesRow.holds Try.pinned (OpenSpec.ofChange videoSpritesSpec)

/-- ITS FALSE NEIGHBOUR: 'it returns false'. Refute it at one input. -/
def videoSpritesWrong : ChangeSpec := { name := "videoSprites", fn := fun _ => fun
  | [d1, d2, d3] => { results := [.lit (.bool false)], args := [d1, d2, d3] }
  | _ => none }
def VideoSpritesWrongFalsely : Prop := videoSpritesRow.holds Try.pinned (OpenSpec.ofChange videoSpritesWrong)

/-- 'bakekeep1.SoundTurns': WHATEVER THE INPUT: true; the input reads as it did. -/
def soundTurnsSpec : ChangeSpec := { name := "soundTurns", fn := fun _ => fun
  | [d1, d2] => { results := [.lit (.bool true)], args := [d1, d2] }
  | _ => none }
def soundTurnsRow : OpenClaim := { program := "ytjmmompbmjhkpaa", sum := "bb46fc8e9dc8f7c1c6e72c6106d1b9db0abd5fe22f1341d65df3bacceae46241", func := "bakelite/bakekeep1.SoundTurns", spec := "soundTurns", apart := false }
def SoundTurnsSaid : Prop := soundTurnsRow.holds Try.pinned (OpenSpec.ofChange soundTurnsSpec)

/-- ITS FALSE NEIGHBOUR: 'it returns false'. Refute it at one input. -/
def soundTurnsWrong : ChangeSpec := { name := "soundTurns", fn := fun _ => fun
  | [d1, d2] => { results := [.lit (.bool false)], args := [d1, d2] }
  | _ => none }
def SoundTurnsWrongFalsely : Prop := soundTurnsRow.holds Try.pinned (OpenSpec.ofChange soundTurnsWrong)

/-- 'bakekeep1.SoundFades': WHATEVER THE INPUT: true; the input reads as it did. -/
def soundFadesSpec : ChangeSpec := { name := "soundFades", fn := fun _ => fun
  | [d1, d2] => { results := [.lit (.bool true)], args := [d1, d2] }
  | _ => none }
def soundFadesRow : OpenClaim := { program := "ytjmmompbmjhkpaa", sum := "bb46fc8e9dc8f7c1c6e72c6106d1b9db0abd5fe22f1341d65df3bacceae46241", func := "bakelite/bakekeep1.SoundFades", spec := "soundFades", apart := false }
def SoundFadesSaid : Prop := soundFadesRow.holds Try.pinned (OpenSpec.ofChange soundFadesSpec)

/-- ITS FALSE NEIGHBOUR: 'it returns false'. Refute it at one input. -/
def soundFadesWrong : ChangeSpec := { name := "soundFades", fn := fun _ => fun
  | [d1, d2] => { results := [.lit (.bool false)], args := [d1, d2] }
  | _ => none }
def SoundFadesWrongFalsely : Prop := soundFadesRow.holds Try.pinned (OpenSpec.ofChange soundFadesWrong)

/-- 'bakekeep1.DriveWrites': WHATEVER THE INPUT: true; the input reads as it did. -/
def driveWritesSpec : ChangeSpec := { name := "driveWrites", fn := fun _ => fun
  | [d1, d2, d3, d4] => { results := [.lit (.bool true)], args := [d1, d2, d3, d4] }
  | _ => none }
def driveWritesRow : OpenClaim := { program := "ytjmmompbmjhkpaa", sum := "bb46fc8e9dc8f7c1c6e72c6106d1b9db0abd5fe22f1341d65df3bacceae46241", func := "bakelite/bakekeep1.DriveWrites", spec := "driveWrites", apart := false }
def DriveWritesSaid : Prop := driveWritesRow.holds Try.pinned (OpenSpec.ofChange driveWritesSpec)

/-- ITS FALSE NEIGHBOUR: 'it returns false'. Refute it at one input. -/
def driveWritesWrong : ChangeSpec := { name := "driveWrites", fn := fun _ => fun
  | [d1, d2, d3, d4] => { results := [.lit (.bool false)], args := [d1, d2, d3, d4] }
  | _ => none }
def DriveWritesWrongFalsely : Prop := driveWritesRow.holds Try.pinned (OpenSpec.ofChange driveWritesWrong)

/-- 'bakekeep1.DriveReads': WHATEVER THE INPUT: true; the input reads as it did. -/
def driveReadsSpec : ChangeSpec := { name := "driveReads", fn := fun _ => fun
  | [d1, d2, d3] => { results := [.lit (.bool true)], args := [d1, d2, d3] }
  | _ => none }
def driveReadsRow : OpenClaim := { program := "ytjmmompbmjhkpaa", sum := "bb46fc8e9dc8f7c1c6e72c6106d1b9db0abd5fe22f1341d65df3bacceae46241", func := "bakelite/bakekeep1.DriveReads", spec := "driveReads", apart := false }
def DriveReadsSaid : Prop := driveReadsRow.holds Try.pinned (OpenSpec.ofChange driveReadsSpec)

/-- ITS FALSE NEIGHBOUR: 'it returns false'. Refute it at one input. -/
def driveReadsWrong : ChangeSpec := { name := "driveReads", fn := fun _ => fun
  | [d1, d2, d3] => { results := [.lit (.bool false)], args := [d1, d2, d3] }
  | _ => none }
def DriveReadsWrongFalsely : Prop := driveReadsRow.holds Try.pinned (OpenSpec.ofChange driveReadsWrong)

/-- 'bakekeep1.DriveSteps': WHATEVER THE INPUT: true; the input reads as it did. -/
def driveStepsSpec : ChangeSpec := { name := "driveSteps", fn := fun _ => fun
  | [d] => { results := [.lit (.bool true)], args := [d] }
  | _ => none }
def driveStepsRow : OpenClaim := { program := "ytjmmompbmjhkpaa", sum := "bb46fc8e9dc8f7c1c6e72c6106d1b9db0abd5fe22f1341d65df3bacceae46241", func := "bakelite/bakekeep1.DriveSteps", spec := "driveSteps", apart := false }
def DriveStepsSaid : Prop := driveStepsRow.holds Try.pinned (OpenSpec.ofChange driveStepsSpec)

/-- ITS FALSE NEIGHBOUR: 'it returns false'. Refute it at one input. -/
def driveStepsWrong : ChangeSpec := { name := "driveSteps", fn := fun _ => fun
  | [d] => { results := [.lit (.bool false)], args := [d] }
  | _ => none }
def DriveStepsWrongFalsely : Prop := driveStepsRow.holds Try.pinned (OpenSpec.ofChange driveStepsWrong)

/-- 'bakekeep1.AluSums': WHATEVER THE INPUT: true; the input reads as it did. -/
def aluSumsSpec : ChangeSpec := { name := "aluSums", fn := fun _ => fun
  | [d] => { results := [.lit (.bool true)], args := [d] }
  | _ => none }
def aluSumsRow : OpenClaim := { program := "ytjmmompbmjhkpaa", sum := "bb46fc8e9dc8f7c1c6e72c6106d1b9db0abd5fe22f1341d65df3bacceae46241", func := "bakelite/bakekeep1.AluSums", spec := "aluSums", apart := false }
def AluSumsSaid : Prop := aluSumsRow.holds Try.pinned (OpenSpec.ofChange aluSumsSpec)

/-- ITS FALSE NEIGHBOUR: 'it returns false'. Refute it at one input. -/
def aluSumsWrong : ChangeSpec := { name := "aluSums", fn := fun _ => fun
  | [d] => { results := [.lit (.bool false)], args := [d] }
  | _ => none }
def AluSumsWrongFalsely : Prop := aluSumsRow.holds Try.pinned (OpenSpec.ofChange aluSumsWrong)

/-- 'bakekeep1.AluCompares': WHATEVER THE INPUT: true; the input reads as it did. -/
def aluComparesSpec : ChangeSpec := { name := "aluCompares", fn := fun _ => fun
  | [d] => { results := [.lit (.bool true)], args := [d] }
  | _ => none }
def aluComparesRow : OpenClaim := { program := "ytjmmompbmjhkpaa", sum := "bb46fc8e9dc8f7c1c6e72c6106d1b9db0abd5fe22f1341d65df3bacceae46241", func := "bakelite/bakekeep1.AluCompares", spec := "aluCompares", apart := false }
def AluComparesSaid : Prop := aluComparesRow.holds Try.pinned (OpenSpec.ofChange aluComparesSpec)

/-- ITS FALSE NEIGHBOUR: 'it returns false'. Refute it at one input. -/
def aluComparesWrong : ChangeSpec := { name := "aluCompares", fn := fun _ => fun
  | [d] => { results := [.lit (.bool false)], args := [d] }
  | _ => none }
def AluComparesWrongFalsely : Prop := aluComparesRow.holds Try.pinned (OpenSpec.ofChange aluComparesWrong)

/-- 'bakekeep1.AluShifts': WHATEVER THE INPUT: true; the input reads as it did. -/
def aluShiftsSpec : ChangeSpec := { name := "aluShifts", fn := fun _ => fun
  | [d] => { results := [.lit (.bool true)], args := [d] }
  | _ => none }
def aluShiftsRow : OpenClaim := { program := "ytjmmompbmjhkpaa", sum := "bb46fc8e9dc8f7c1c6e72c6106d1b9db0abd5fe22f1341d65df3bacceae46241", func := "bakelite/bakekeep1.AluShifts", spec := "aluShifts", apart := false }
def AluShiftsSaid : Prop := aluShiftsRow.holds Try.pinned (OpenSpec.ofChange aluShiftsSpec)

/-- ITS FALSE NEIGHBOUR: 'it returns false'. Refute it at one input. -/
def aluShiftsWrong : ChangeSpec := { name := "aluShifts", fn := fun _ => fun
  | [d] => { results := [.lit (.bool false)], args := [d] }
  | _ => none }
def AluShiftsWrongFalsely : Prop := aluShiftsRow.holds Try.pinned (OpenSpec.ofChange aluShiftsWrong)

/-- 'bakekeep1.AluBytes': WHATEVER THE INPUT: true; the input reads as it did. -/
def aluBytesSpec : ChangeSpec := { name := "aluBytes", fn := fun _ => fun
  | [d1, d2] => { results := [.lit (.bool true)], args := [d1, d2] }
  | _ => none }
def aluBytesRow : OpenClaim := { program := "ytjmmompbmjhkpaa", sum := "bb46fc8e9dc8f7c1c6e72c6106d1b9db0abd5fe22f1341d65df3bacceae46241", func := "bakelite/bakekeep1.AluBytes", spec := "aluBytes", apart := false }
def AluBytesSaid : Prop := aluBytesRow.holds Try.pinned (OpenSpec.ofChange aluBytesSpec)

/-- ITS FALSE NEIGHBOUR: 'it returns false'. Refute it at one input. -/
def aluBytesWrong : ChangeSpec := { name := "aluBytes", fn := fun _ => fun
  | [d1, d2] => { results := [.lit (.bool false)], args := [d1, d2] }
  | _ => none }
def AluBytesWrongFalsely : Prop := aluBytesRow.holds Try.pinned (OpenSpec.ofChange aluBytesWrong)

/-- 'bakekeep1.TableMade': WHATEVER THE INPUT: true; the input reads as it did. -/
def tableMadeSpec : ChangeSpec := { name := "tableMade", fn := fun _ => fun
  | [d1, d2] => { results := [.lit (.bool true)], args := [d1, d2] }
  | _ => none }
def tableMadeRow : OpenClaim := { program := "ytjmmompbmjhkpaa", sum := "bb46fc8e9dc8f7c1c6e72c6106d1b9db0abd5fe22f1341d65df3bacceae46241", func := "bakelite/bakekeep1.TableMade", spec := "tableMade", unfollowed := true, recurses := true, apart := false }
def TableMadeSaid : Prop := tableMadeRow.holds Try.pinned (OpenSpec.ofChange tableMadeSpec)

/-- ITS FALSE NEIGHBOUR: 'it returns false'. Refute it at one input. -/
def tableMadeWrong : ChangeSpec := { name := "tableMade", fn := fun _ => fun
  | [d1, d2] => { results := [.lit (.bool false)], args := [d1, d2] }
  | _ => none }
def TableMadeWrongFalsely : Prop := tableMadeRow.holds Try.pinned (OpenSpec.ofChange tableMadeWrong)

/-- 'bakekeep1.TableSpoilt': WHATEVER THE INPUT: true; the input reads as it did. -/
def tableSpoiltSpec : ChangeSpec := { name := "tableSpoilt", fn := fun _ => fun
  | [d1, d2, d3] => { results := [.lit (.bool true)], args := [d1, d2, d3] }
  | _ => none }
def tableSpoiltRow : OpenClaim := { program := "ytjmmompbmjhkpaa", sum := "bb46fc8e9dc8f7c1c6e72c6106d1b9db0abd5fe22f1341d65df3bacceae46241", func := "bakelite/bakekeep1.TableSpoilt", spec := "tableSpoilt", inPlace := ["slices.overlaps[bakelite/api.Instr]"], unfollowed := true, recurses := true, apart := false }
def TableSpoiltSaid : Prop := tableSpoiltRow.holds Try.pinned (OpenSpec.ofChange tableSpoiltSpec)

/-- ITS FALSE NEIGHBOUR: 'it returns false'. Refute it at one input. -/
def tableSpoiltWrong : ChangeSpec := { name := "tableSpoilt", fn := fun _ => fun
  | [d1, d2, d3] => { results := [.lit (.bool false)], args := [d1, d2, d3] }
  | _ => none }
def TableSpoiltWrongFalsely : Prop := tableSpoiltRow.holds Try.pinned (OpenSpec.ofChange tableSpoiltWrong)

/-- 'bakekeep1.CoreEnds': WHATEVER THE INPUT: true; the input reads as it did. -/
def coreEndsSpec : ChangeSpec := { name := "coreEnds", fn := fun _ => fun
  | [d1, d2, d3] => { results := [.lit (.bool true)], args := [d1, d2, d3] }
  | _ => none }
def coreEndsRow : OpenClaim := { program := "ytjmmompbmjhkpaa", sum := "bb46fc8e9dc8f7c1c6e72c6106d1b9db0abd5fe22f1341d65df3bacceae46241", func := "bakelite/bakekeep1.CoreEnds", spec := "coreEnds", unfollowed := true, recurses := true, apart := false }
def CoreEndsSaid : Prop := coreEndsRow.holds Try.pinned (OpenSpec.ofChange coreEndsSpec)

/-- ITS FALSE NEIGHBOUR: 'it returns false'. Refute it at one input. -/
def coreEndsWrong : ChangeSpec := { name := "coreEnds", fn := fun _ => fun
  | [d1, d2, d3] => { results := [.lit (.bool false)], args := [d1, d2, d3] }
  | _ => none }
def CoreEndsWrongFalsely : Prop := coreEndsRow.holds Try.pinned (OpenSpec.ofChange coreEndsWrong)

/-- 'bakekeep1.ChipBanks': WHATEVER THE INPUT: true; the input reads as it did. -/
def chipBanksSpec : ChangeSpec := { name := "chipBanks", fn := fun _ => fun
  | [d1, d2, d3, d4] => { results := [.lit (.bool true)], args := [d1, d2, d3, d4] }
  | _ => none }
def chipBanksRow : OpenClaim := { program := "ytjmmompbmjhkpaa", sum := "bb46fc8e9dc8f7c1c6e72c6106d1b9db0abd5fe22f1341d65df3bacceae46241", func := "bakelite/bakekeep1.ChipBanks", spec := "chipBanks", apart := false }
def ChipBanksSaid : Prop := chipBanksRow.holds Try.pinned (OpenSpec.ofChange chipBanksSpec)

/-- ITS FALSE NEIGHBOUR: 'it returns false'. Refute it at one input. -/
def chipBanksWrong : ChangeSpec := { name := "chipBanks", fn := fun _ => fun
  | [d1, d2, d3, d4] => { results := [.lit (.bool false)], args := [d1, d2, d3, d4] }
  | _ => none }
def ChipBanksWrongFalsely : Prop := chipBanksRow.holds Try.pinned (OpenSpec.ofChange chipBanksWrong)

/-- 'bakekeep1.CoreStops': WHATEVER THE INPUT: true; the input reads as it did. -/
def coreStopsSpec : ChangeSpec := { name := "coreStops", fn := fun _ => fun
  | [d1, d2, d3] => { results := [.lit (.bool true)], args := [d1, d2, d3] }
  | _ => none }
def coreStopsRow : OpenClaim := { program := "ytjmmompbmjhkpaa", sum := "bb46fc8e9dc8f7c1c6e72c6106d1b9db0abd5fe22f1341d65df3bacceae46241", func := "bakelite/bakekeep1.CoreStops", spec := "coreStops", unfollowed := true, recurses := true, apart := false }
def CoreStopsSaid : Prop := coreStopsRow.holds Try.pinned (OpenSpec.ofChange coreStopsSpec)

/-- ITS FALSE NEIGHBOUR: 'it returns false'. Refute it at one input. -/
def coreStopsWrong : ChangeSpec := { name := "coreStops", fn := fun _ => fun
  | [d1, d2, d3] => { results := [.lit (.bool false)], args := [d1, d2, d3] }
  | _ => none }
def CoreStopsWrongFalsely : Prop := coreStopsRow.holds Try.pinned (OpenSpec.ofChange coreStopsWrong)

/-- 'bakekeep1.CoreResets': WHATEVER THE INPUT: true; the input reads as it did. -/
def coreResetsSpec : ChangeSpec := { name := "coreResets", fn := fun _ => fun
  | [d1, d2] => { results := [.lit (.bool true)], args := [d1, d2] }
  | _ => none }
def coreResetsRow : OpenClaim := { program := "ytjmmompbmjhkpaa", sum := "bb46fc8e9dc8f7c1c6e72c6106d1b9db0abd5fe22f1341d65df3bacceae46241", func := "bakelite/bakekeep1.CoreResets", spec := "coreResets", unfollowed := true, recurses := true, apart := false }
def CoreResetsSaid : Prop := coreResetsRow.holds Try.pinned (OpenSpec.ofChange coreResetsSpec)

/-- ITS FALSE NEIGHBOUR: 'it returns false'. Refute it at one input. -/
def coreResetsWrong : ChangeSpec := { name := "coreResets", fn := fun _ => fun
  | [d1, d2] => { results := [.lit (.bool false)], args := [d1, d2] }
  | _ => none }
def CoreResetsWrongFalsely : Prop := coreResetsRow.holds Try.pinned (OpenSpec.ofChange coreResetsWrong)

/-- 'bakekeep1.StdStores': WHATEVER THE INPUT: true; the input reads as it did. -/
def stdStoresSpec : ChangeSpec := { name := "stdStores", fn := fun _ => fun
  | [d1, d2, d3, d4] => { results := [.lit (.bool true)], args := [d1, d2, d3, d4] }
  | _ => none }
def stdStoresRow : OpenClaim := { program := "ytjmmompbmjhkpaa", sum := "bb46fc8e9dc8f7c1c6e72c6106d1b9db0abd5fe22f1341d65df3bacceae46241", func := "bakelite/bakekeep1.StdStores", spec := "stdStores", unfollowed := true, recurses := true, apart := false }
def StdStoresSaid : Prop := stdStoresRow.holds Try.pinned (OpenSpec.ofChange stdStoresSpec)

/-- ITS FALSE NEIGHBOUR: 'it returns false'. Refute it at one input. -/
def stdStoresWrong : ChangeSpec := { name := "stdStores", fn := fun _ => fun
  | [d1, d2, d3, d4] => { results := [.lit (.bool false)], args := [d1, d2, d3, d4] }
  | _ => none }
def StdStoresWrongFalsely : Prop := stdStoresRow.holds Try.pinned (OpenSpec.ofChange stdStoresWrong)

/-- 'bakekeep1.StdStack': WHATEVER THE INPUT: true; the input reads as it did. -/
def stdStackSpec : ChangeSpec := { name := "stdStack", fn := fun _ => fun
  | [d1, d2, d3] => { results := [.lit (.bool true)], args := [d1, d2, d3] }
  | _ => none }
def stdStackRow : OpenClaim := { program := "ytjmmompbmjhkpaa", sum := "bb46fc8e9dc8f7c1c6e72c6106d1b9db0abd5fe22f1341d65df3bacceae46241", func := "bakelite/bakekeep1.StdStack", spec := "stdStack", unfollowed := true, recurses := true, apart := false }
def StdStackSaid : Prop := stdStackRow.holds Try.pinned (OpenSpec.ofChange stdStackSpec)

/-- ITS FALSE NEIGHBOUR: 'it returns false'. Refute it at one input. -/
def stdStackWrong : ChangeSpec := { name := "stdStack", fn := fun _ => fun
  | [d1, d2, d3] => { results := [.lit (.bool false)], args := [d1, d2, d3] }
  | _ => none }
def StdStackWrongFalsely : Prop := stdStackRow.holds Try.pinned (OpenSpec.ofChange stdStackWrong)

/-- 'bakekeep1.StdCounts': WHATEVER THE INPUT: true; the input reads as it did. -/
def stdCountsSpec : ChangeSpec := { name := "stdCounts", fn := fun _ => fun
  | [d1, d2] => { results := [.lit (.bool true)], args := [d1, d2] }
  | _ => none }
def stdCountsRow : OpenClaim := { program := "ytjmmompbmjhkpaa", sum := "bb46fc8e9dc8f7c1c6e72c6106d1b9db0abd5fe22f1341d65df3bacceae46241", func := "bakelite/bakekeep1.StdCounts", spec := "stdCounts", unfollowed := true, recurses := true, apart := false }
def StdCountsSaid : Prop := stdCountsRow.holds Try.pinned (OpenSpec.ofChange stdCountsSpec)

/-- ITS FALSE NEIGHBOUR: 'it returns false'. Refute it at one input. -/
def stdCountsWrong : ChangeSpec := { name := "stdCounts", fn := fun _ => fun
  | [d1, d2] => { results := [.lit (.bool false)], args := [d1, d2] }
  | _ => none }
def StdCountsWrongFalsely : Prop := stdCountsRow.holds Try.pinned (OpenSpec.ofChange stdCountsWrong)

/-- 'bakekeep1.StdAnswers': WHATEVER THE INPUT: true; the input reads as it did. -/
def stdAnswersSpec : ChangeSpec := { name := "stdAnswers", fn := fun _ => fun
  | [d1, d2] => { results := [.lit (.bool true)], args := [d1, d2] }
  | _ => none }
def stdAnswersRow : OpenClaim := { program := "ytjmmompbmjhkpaa", sum := "bb46fc8e9dc8f7c1c6e72c6106d1b9db0abd5fe22f1341d65df3bacceae46241", func := "bakelite/bakekeep1.StdAnswers", spec := "stdAnswers", unfollowed := true, recurses := true, apart := false }
def StdAnswersSaid : Prop := stdAnswersRow.holds Try.pinned (OpenSpec.ofChange stdAnswersSpec)

/-- ITS FALSE NEIGHBOUR: 'it returns false'. Refute it at one input. -/
def stdAnswersWrong : ChangeSpec := { name := "stdAnswers", fn := fun _ => fun
  | [d1, d2] => { results := [.lit (.bool false)], args := [d1, d2] }
  | _ => none }
def StdAnswersWrongFalsely : Prop := stdAnswersRow.holds Try.pinned (OpenSpec.ofChange stdAnswersWrong)

/-- 'bakekeep1.WholeTimes': WHATEVER THE INPUT: true; the input reads as it did. -/
def wholeTimesSpec : ChangeSpec := { name := "wholeTimes", fn := fun _ => fun
  | [d1, d2, d3] => { results := [.lit (.bool true)], args := [d1, d2, d3] }
  | _ => none }
def wholeTimesRow : OpenClaim := { program := "ytjmmompbmjhkpaa", sum := "bb46fc8e9dc8f7c1c6e72c6106d1b9db0abd5fe22f1341d65df3bacceae46241", func := "bakelite/bakekeep1.WholeTimes", spec := "wholeTimes", unfollowed := true, recurses := true, apart := false }
def WholeTimesSaid : Prop := wholeTimesRow.holds Try.pinned (OpenSpec.ofChange wholeTimesSpec)

/-- ITS FALSE NEIGHBOUR: 'it returns false'. Refute it at one input. -/
def wholeTimesWrong : ChangeSpec := { name := "wholeTimes", fn := fun _ => fun
  | [d1, d2, d3] => { results := [.lit (.bool false)], args := [d1, d2, d3] }
  | _ => none }
def WholeTimesWrongFalsely : Prop := wholeTimesRow.holds Try.pinned (OpenSpec.ofChange wholeTimesWrong)

/-- 'bakekeep1.WholeKeeps': WHATEVER THE INPUT: true; the input reads as it did. -/
def wholeKeepsSpec : ChangeSpec := { name := "wholeKeeps", fn := fun _ => fun
  | [d1, d2, d3] => { results := [.lit (.bool true)], args := [d1, d2, d3] }
  | _ => none }
def wholeKeepsRow : OpenClaim := { program := "ytjmmompbmjhkpaa", sum := "bb46fc8e9dc8f7c1c6e72c6106d1b9db0abd5fe22f1341d65df3bacceae46241", func := "bakelite/bakekeep1.WholeKeeps", spec := "wholeKeeps", unfollowed := true, recurses := true, apart := false }
def WholeKeepsSaid : Prop := wholeKeepsRow.holds Try.pinned (OpenSpec.ofChange wholeKeepsSpec)

/-- ITS FALSE NEIGHBOUR: 'it returns false'. Refute it at one input. -/
def wholeKeepsWrong : ChangeSpec := { name := "wholeKeeps", fn := fun _ => fun
  | [d1, d2, d3] => { results := [.lit (.bool false)], args := [d1, d2, d3] }
  | _ => none }
def WholeKeepsWrongFalsely : Prop := wholeKeepsRow.holds Try.pinned (OpenSpec.ofChange wholeKeepsWrong)

/- THE SECOND FORM. 'bulk': how many values and letters a reading holds, each counted each time it is reached (what is shared counts as often as it is met; a slice's spare places count too). A statement '..UptoSaid' is the law's where the arguments, and the package variables that the reading takes, are together of bulk at most 1048576: NARROWER than '..Said'. Prove '..Said' where nothing that the law and all that it calls make is longer than what came in: it says more and counts as full. Else prove '..UptoSaid'. A law counts once. -/
mutual
def uptoBulk {H : Type} : DataW H → Nat
  | .lit (.string bytes) => bytes.length + 1
  | .lit _ => 1
  | .nil => 1
  | .ptr d => uptoBulk d + 1
  | .slice elems spare => uptoBulkAll elems + uptoBulkAll spare + 1
  | .agg parts => uptoBulkAll parts + 1
  | .iface _ d => uptoBulk d + 1
  | .map entries => uptoBulkEntries entries + 1
  | .held _ => 1
def uptoBulkAll {H : Type} : List (DataW H) → Nat
  | [] => 0
  | d :: r => uptoBulk d + uptoBulkAll r
def uptoBulkEntries {H : Type} : List (Lit × DataW H) → Nat
  | [] => 0
  | x :: r => uptoBulkEntry x + uptoBulkEntries r
def uptoBulkEntry {H : Type} : Lit × DataW H → Nat
  | (.string bytes, d) => bytes.length + uptoBulk d + 1
  | (_, d) => uptoBulk d + 1
 end
def uptoSmall : (H : Type) → List (DataW H) → Bool := fun _ ds => decide (uptoBulkAll ds ≤ 1048576)
def OpenSpec.upto (s : _root_.Go.ChangeSpec) : _root_.Go.OpenSpec := { _root_.Go.OpenSpec.ofChange s with cond := some uptoSmall }

/-- 'bakekeep1.VideoFrames', WHERE WHAT IT READS IS OF BULK AT MOST 1048576: true; the input reads as it did. -/
def videoFramesUptoRow : OpenClaim := { program := "ytjmmompbmjhkpaa", sum := "bb46fc8e9dc8f7c1c6e72c6106d1b9db0abd5fe22f1341d65df3bacceae46241", func := "bakelite/bakekeep1.VideoFrames", spec := "videoFrames", apart := false, narrowed := true }
def VideoFramesUptoSaid : Prop := videoFramesUptoRow.holds Try.pinned (OpenSpec.upto videoFramesSpec)

/-- 'bakekeep1.VideoKeeps', WHERE WHAT IT READS IS OF BULK AT MOST 1048576: true; the input reads as it did. -/
def videoKeepsUptoRow : OpenClaim := { program := "ytjmmompbmjhkpaa", sum := "bb46fc8e9dc8f7c1c6e72c6106d1b9db0abd5fe22f1341d65df3bacceae46241", func := "bakelite/bakekeep1.VideoKeeps", spec := "videoKeeps", apart := false, narrowed := true }
def VideoKeepsUptoSaid : Prop := videoKeepsUptoRow.holds Try.pinned (OpenSpec.upto videoKeepsSpec)

/-- 'bakekeep1.VideoSprites', WHERE WHAT IT READS IS OF BULK AT MOST 1048576: true; the input reads as it did. -/
def videoSpritesUptoRow : OpenClaim := { program := "ytjmmompbmjhkpaa", sum := "bb46fc8e9dc8f7c1c6e72c6106d1b9db0abd5fe22f1341d65df3bacceae46241", func := "bakelite/bakekeep1.VideoSprites", spec := "videoSprites", apart := false, narrowed := true }
def VideoSpritesUptoSaid : Prop := videoSpritesUptoRow.holds Try.pinned (OpenSpec.upto videoSpritesSpec)

/-- 'bakekeep1.SoundTurns', WHERE WHAT IT READS IS OF BULK AT MOST 1048576: true; the input reads as it did. -/
def soundTurnsUptoRow : OpenClaim := { program := "ytjmmompbmjhkpaa", sum := "bb46fc8e9dc8f7c1c6e72c6106d1b9db0abd5fe22f1341d65df3bacceae46241", func := "bakelite/bakekeep1.SoundTurns", spec := "soundTurns", apart := false, narrowed := true }
def SoundTurnsUptoSaid : Prop := soundTurnsUptoRow.holds Try.pinned (OpenSpec.upto soundTurnsSpec)

/-- 'bakekeep1.SoundFades', WHERE WHAT IT READS IS OF BULK AT MOST 1048576: true; the input reads as it did. -/
def soundFadesUptoRow : OpenClaim := { program := "ytjmmompbmjhkpaa", sum := "bb46fc8e9dc8f7c1c6e72c6106d1b9db0abd5fe22f1341d65df3bacceae46241", func := "bakelite/bakekeep1.SoundFades", spec := "soundFades", apart := false, narrowed := true }
def SoundFadesUptoSaid : Prop := soundFadesUptoRow.holds Try.pinned (OpenSpec.upto soundFadesSpec)

/-- 'bakekeep1.DriveWrites', WHERE WHAT IT READS IS OF BULK AT MOST 1048576: true; the input reads as it did. -/
def driveWritesUptoRow : OpenClaim := { program := "ytjmmompbmjhkpaa", sum := "bb46fc8e9dc8f7c1c6e72c6106d1b9db0abd5fe22f1341d65df3bacceae46241", func := "bakelite/bakekeep1.DriveWrites", spec := "driveWrites", apart := false, narrowed := true }
def DriveWritesUptoSaid : Prop := driveWritesUptoRow.holds Try.pinned (OpenSpec.upto driveWritesSpec)

/-- 'bakekeep1.DriveReads', WHERE WHAT IT READS IS OF BULK AT MOST 1048576: true; the input reads as it did. -/
def driveReadsUptoRow : OpenClaim := { program := "ytjmmompbmjhkpaa", sum := "bb46fc8e9dc8f7c1c6e72c6106d1b9db0abd5fe22f1341d65df3bacceae46241", func := "bakelite/bakekeep1.DriveReads", spec := "driveReads", apart := false, narrowed := true }
def DriveReadsUptoSaid : Prop := driveReadsUptoRow.holds Try.pinned (OpenSpec.upto driveReadsSpec)

/-- 'bakekeep1.DriveSteps', WHERE WHAT IT READS IS OF BULK AT MOST 1048576: true; the input reads as it did. -/
def driveStepsUptoRow : OpenClaim := { program := "ytjmmompbmjhkpaa", sum := "bb46fc8e9dc8f7c1c6e72c6106d1b9db0abd5fe22f1341d65df3bacceae46241", func := "bakelite/bakekeep1.DriveSteps", spec := "driveSteps", apart := false, narrowed := true }
def DriveStepsUptoSaid : Prop := driveStepsUptoRow.holds Try.pinned (OpenSpec.upto driveStepsSpec)

/-- 'bakekeep1.AluSums', WHERE WHAT IT READS IS OF BULK AT MOST 1048576: true; the input reads as it did. -/
def aluSumsUptoRow : OpenClaim := { program := "ytjmmompbmjhkpaa", sum := "bb46fc8e9dc8f7c1c6e72c6106d1b9db0abd5fe22f1341d65df3bacceae46241", func := "bakelite/bakekeep1.AluSums", spec := "aluSums", apart := false, narrowed := true }
def AluSumsUptoSaid : Prop := aluSumsUptoRow.holds Try.pinned (OpenSpec.upto aluSumsSpec)

/-- 'bakekeep1.AluCompares', WHERE WHAT IT READS IS OF BULK AT MOST 1048576: true; the input reads as it did. -/
def aluComparesUptoRow : OpenClaim := { program := "ytjmmompbmjhkpaa", sum := "bb46fc8e9dc8f7c1c6e72c6106d1b9db0abd5fe22f1341d65df3bacceae46241", func := "bakelite/bakekeep1.AluCompares", spec := "aluCompares", apart := false, narrowed := true }
def AluComparesUptoSaid : Prop := aluComparesUptoRow.holds Try.pinned (OpenSpec.upto aluComparesSpec)

/-- 'bakekeep1.AluShifts', WHERE WHAT IT READS IS OF BULK AT MOST 1048576: true; the input reads as it did. -/
def aluShiftsUptoRow : OpenClaim := { program := "ytjmmompbmjhkpaa", sum := "bb46fc8e9dc8f7c1c6e72c6106d1b9db0abd5fe22f1341d65df3bacceae46241", func := "bakelite/bakekeep1.AluShifts", spec := "aluShifts", apart := false, narrowed := true }
def AluShiftsUptoSaid : Prop := aluShiftsUptoRow.holds Try.pinned (OpenSpec.upto aluShiftsSpec)

/-- 'bakekeep1.AluBytes', WHERE WHAT IT READS IS OF BULK AT MOST 1048576: true; the input reads as it did. -/
def aluBytesUptoRow : OpenClaim := { program := "ytjmmompbmjhkpaa", sum := "bb46fc8e9dc8f7c1c6e72c6106d1b9db0abd5fe22f1341d65df3bacceae46241", func := "bakelite/bakekeep1.AluBytes", spec := "aluBytes", apart := false, narrowed := true }
def AluBytesUptoSaid : Prop := aluBytesUptoRow.holds Try.pinned (OpenSpec.upto aluBytesSpec)

/-- 'bakekeep1.TableMade', WHERE WHAT IT READS IS OF BULK AT MOST 1048576: true; the input reads as it did. -/
def tableMadeUptoRow : OpenClaim := { program := "ytjmmompbmjhkpaa", sum := "bb46fc8e9dc8f7c1c6e72c6106d1b9db0abd5fe22f1341d65df3bacceae46241", func := "bakelite/bakekeep1.TableMade", spec := "tableMade", unfollowed := true, recurses := true, apart := false, narrowed := true }
def TableMadeUptoSaid : Prop := tableMadeUptoRow.holds Try.pinned (OpenSpec.upto tableMadeSpec)

/-- 'bakekeep1.TableSpoilt', WHERE WHAT IT READS IS OF BULK AT MOST 1048576: true; the input reads as it did. -/
def tableSpoiltUptoRow : OpenClaim := { program := "ytjmmompbmjhkpaa", sum := "bb46fc8e9dc8f7c1c6e72c6106d1b9db0abd5fe22f1341d65df3bacceae46241", func := "bakelite/bakekeep1.TableSpoilt", spec := "tableSpoilt", inPlace := ["slices.overlaps[bakelite/api.Instr]"], unfollowed := true, recurses := true, apart := false, narrowed := true }
def TableSpoiltUptoSaid : Prop := tableSpoiltUptoRow.holds Try.pinned (OpenSpec.upto tableSpoiltSpec)

/-- 'bakekeep1.CoreEnds', WHERE WHAT IT READS IS OF BULK AT MOST 1048576: true; the input reads as it did. -/
def coreEndsUptoRow : OpenClaim := { program := "ytjmmompbmjhkpaa", sum := "bb46fc8e9dc8f7c1c6e72c6106d1b9db0abd5fe22f1341d65df3bacceae46241", func := "bakelite/bakekeep1.CoreEnds", spec := "coreEnds", unfollowed := true, recurses := true, apart := false, narrowed := true }
def CoreEndsUptoSaid : Prop := coreEndsUptoRow.holds Try.pinned (OpenSpec.upto coreEndsSpec)

/-- 'bakekeep1.ChipBanks', WHERE WHAT IT READS IS OF BULK AT MOST 1048576: true; the input reads as it did. -/
def chipBanksUptoRow : OpenClaim := { program := "ytjmmompbmjhkpaa", sum := "bb46fc8e9dc8f7c1c6e72c6106d1b9db0abd5fe22f1341d65df3bacceae46241", func := "bakelite/bakekeep1.ChipBanks", spec := "chipBanks", apart := false, narrowed := true }
def ChipBanksUptoSaid : Prop := chipBanksUptoRow.holds Try.pinned (OpenSpec.upto chipBanksSpec)

/-- 'bakekeep1.CoreStops', WHERE WHAT IT READS IS OF BULK AT MOST 1048576: true; the input reads as it did. -/
def coreStopsUptoRow : OpenClaim := { program := "ytjmmompbmjhkpaa", sum := "bb46fc8e9dc8f7c1c6e72c6106d1b9db0abd5fe22f1341d65df3bacceae46241", func := "bakelite/bakekeep1.CoreStops", spec := "coreStops", unfollowed := true, recurses := true, apart := false, narrowed := true }
def CoreStopsUptoSaid : Prop := coreStopsUptoRow.holds Try.pinned (OpenSpec.upto coreStopsSpec)

/-- 'bakekeep1.CoreResets', WHERE WHAT IT READS IS OF BULK AT MOST 1048576: true; the input reads as it did. -/
def coreResetsUptoRow : OpenClaim := { program := "ytjmmompbmjhkpaa", sum := "bb46fc8e9dc8f7c1c6e72c6106d1b9db0abd5fe22f1341d65df3bacceae46241", func := "bakelite/bakekeep1.CoreResets", spec := "coreResets", unfollowed := true, recurses := true, apart := false, narrowed := true }
def CoreResetsUptoSaid : Prop := coreResetsUptoRow.holds Try.pinned (OpenSpec.upto coreResetsSpec)

/-- 'bakekeep1.StdStores', WHERE WHAT IT READS IS OF BULK AT MOST 1048576: true; the input reads as it did. -/
def stdStoresUptoRow : OpenClaim := { program := "ytjmmompbmjhkpaa", sum := "bb46fc8e9dc8f7c1c6e72c6106d1b9db0abd5fe22f1341d65df3bacceae46241", func := "bakelite/bakekeep1.StdStores", spec := "stdStores", unfollowed := true, recurses := true, apart := false, narrowed := true }
def StdStoresUptoSaid : Prop := stdStoresUptoRow.holds Try.pinned (OpenSpec.upto stdStoresSpec)

/-- 'bakekeep1.StdStack', WHERE WHAT IT READS IS OF BULK AT MOST 1048576: true; the input reads as it did. -/
def stdStackUptoRow : OpenClaim := { program := "ytjmmompbmjhkpaa", sum := "bb46fc8e9dc8f7c1c6e72c6106d1b9db0abd5fe22f1341d65df3bacceae46241", func := "bakelite/bakekeep1.StdStack", spec := "stdStack", unfollowed := true, recurses := true, apart := false, narrowed := true }
def StdStackUptoSaid : Prop := stdStackUptoRow.holds Try.pinned (OpenSpec.upto stdStackSpec)

/-- 'bakekeep1.StdCounts', WHERE WHAT IT READS IS OF BULK AT MOST 1048576: true; the input reads as it did. -/
def stdCountsUptoRow : OpenClaim := { program := "ytjmmompbmjhkpaa", sum := "bb46fc8e9dc8f7c1c6e72c6106d1b9db0abd5fe22f1341d65df3bacceae46241", func := "bakelite/bakekeep1.StdCounts", spec := "stdCounts", unfollowed := true, recurses := true, apart := false, narrowed := true }
def StdCountsUptoSaid : Prop := stdCountsUptoRow.holds Try.pinned (OpenSpec.upto stdCountsSpec)

/-- 'bakekeep1.StdAnswers', WHERE WHAT IT READS IS OF BULK AT MOST 1048576: true; the input reads as it did. -/
def stdAnswersUptoRow : OpenClaim := { program := "ytjmmompbmjhkpaa", sum := "bb46fc8e9dc8f7c1c6e72c6106d1b9db0abd5fe22f1341d65df3bacceae46241", func := "bakelite/bakekeep1.StdAnswers", spec := "stdAnswers", unfollowed := true, recurses := true, apart := false, narrowed := true }
def StdAnswersUptoSaid : Prop := stdAnswersUptoRow.holds Try.pinned (OpenSpec.upto stdAnswersSpec)

/-- 'bakekeep1.WholeTimes', WHERE WHAT IT READS IS OF BULK AT MOST 1048576: true; the input reads as it did. -/
def wholeTimesUptoRow : OpenClaim := { program := "ytjmmompbmjhkpaa", sum := "bb46fc8e9dc8f7c1c6e72c6106d1b9db0abd5fe22f1341d65df3bacceae46241", func := "bakelite/bakekeep1.WholeTimes", spec := "wholeTimes", unfollowed := true, recurses := true, apart := false, narrowed := true }
def WholeTimesUptoSaid : Prop := wholeTimesUptoRow.holds Try.pinned (OpenSpec.upto wholeTimesSpec)

/-- 'bakekeep1.WholeKeeps', WHERE WHAT IT READS IS OF BULK AT MOST 1048576: true; the input reads as it did. -/
def wholeKeepsUptoRow : OpenClaim := { program := "ytjmmompbmjhkpaa", sum := "bb46fc8e9dc8f7c1c6e72c6106d1b9db0abd5fe22f1341d65df3bacceae46241", func := "bakelite/bakekeep1.WholeKeeps", spec := "wholeKeeps", unfollowed := true, recurses := true, apart := false, narrowed := true }
def WholeKeepsUptoSaid : Prop := wholeKeepsUptoRow.holds Try.pinned (OpenSpec.upto wholeKeepsSpec)

end Rows
end Go.Proofs.Ytjmmompbmjhkpaa
