/-
  No cell of these rows narrows 'for every input' (looked for: loops, veiled, ifaces, maps, wideKeys, modest, calm, conditions, laid).
  DERIVED. THE GIVEN ROWS OF THIS SEAT. 25 by the template 'for every input the law returns true; each argument reads behind the call as it read before'; 0 by the template 'total and deterministic' (their statements: YtkanfpmmgaipnaaTotals.lean).
  GIVEN WITH THE SEED: the statements are not yours to turn. If you find one false, say at which input.
  Laid BY PROGRAM, IN A SANDBOX (cutbox-rows.mjs): the forced cells as the released guide's own fill.sh prints them over the translation aafa778f627a5819… (all of the seat's roots in one cut). By AI agents, Wed Nov 11 2026. No macro, syntax, notation, axiom, sorry.
-/
import Derived.Test.YtkanfpmmgaipnaaChecked
import GoSem.Claim
import GoSem.ClaimJoined
import GoSem.ClaimMapViews
import Derived.JoinedTies
import Derived.KernelRfl
namespace Go.Proofs.Ytkanfpmmgaipnaa
/- THE CELL 'sum', in the pinned program and in every row, IS THE sha256 OF THE DUMP (.gsa) THAT YtkanfpmmgaipnaaProg.lean LOADS. Nothing in Lean hashes anything: it is a label: what it is worth is what the hold of that sum in a sandbox is worth. -/
noncomputable def Try.pinned : Pinned := { name := "ytkanfpmmgaipnaa", sum := "aafa778f627a58198611432c705ec99ed7079b4cc27db73dce0aa6dd1726bf12", checked := Try.checked }
namespace Rows
def none {H : Type} : Left H := { results := [], args := [] }

/-- 'bollardlaw3.DeviceLasts': WHATEVER THE INPUT: true; the input reads as it did. -/
def deviceLastsSpec : ChangeSpec := { name := "deviceLasts", fn := fun _ => fun
  | [d1, d2, d3] => { results := [.lit (.bool true)], args := [d1, d2, d3] }
  | _ => none }
def deviceLastsRow : OpenClaim := { program := "ytkanfpmmgaipnaa", sum := "aafa778f627a58198611432c705ec99ed7079b4cc27db73dce0aa6dd1726bf12", func := "bollard/bollardlaw3.DeviceLasts", spec := "deviceLasts", unfollowed := true, recurses := true, plainKeys := false, apart := false }
def DeviceLastsSaid : Prop := deviceLastsRow.holds Try.pinned (OpenSpec.ofChange deviceLastsSpec)

/-- ITS FALSE NEIGHBOUR: 'it returns false'. Refute it at one input. -/
def deviceLastsWrong : ChangeSpec := { name := "deviceLasts", fn := fun _ => fun
  | [d1, d2, d3] => { results := [.lit (.bool false)], args := [d1, d2, d3] }
  | _ => none }
def DeviceLastsWrongFalsely : Prop := deviceLastsRow.holds Try.pinned (OpenSpec.ofChange deviceLastsWrong)

/-- 'bollardlaw3.DeviceNone': WHATEVER THE INPUT: true; the input reads as it did. -/
def deviceNoneSpec : ChangeSpec := { name := "deviceNone", fn := fun _ => fun
  | [d1, d2] => { results := [.lit (.bool true)], args := [d1, d2] }
  | _ => none }
def deviceNoneRow : OpenClaim := { program := "ytkanfpmmgaipnaa", sum := "aafa778f627a58198611432c705ec99ed7079b4cc27db73dce0aa6dd1726bf12", func := "bollard/bollardlaw3.DeviceNone", spec := "deviceNone", unfollowed := true, recurses := true, plainKeys := false, apart := false }
def DeviceNoneSaid : Prop := deviceNoneRow.holds Try.pinned (OpenSpec.ofChange deviceNoneSpec)

/-- ITS FALSE NEIGHBOUR: 'it returns false'. Refute it at one input. -/
def deviceNoneWrong : ChangeSpec := { name := "deviceNone", fn := fun _ => fun
  | [d1, d2] => { results := [.lit (.bool false)], args := [d1, d2] }
  | _ => none }
def DeviceNoneWrongFalsely : Prop := deviceNoneRow.holds Try.pinned (OpenSpec.ofChange deviceNoneWrong)

/-- 'bollardlaw3.DeviceFlush': WHATEVER THE INPUT: true; the input reads as it did. -/
def deviceFlushSpec : ChangeSpec := { name := "deviceFlush", fn := fun _ => fun
  | [d1, d2] => { results := [.lit (.bool true)], args := [d1, d2] }
  | _ => none }
def deviceFlushRow : OpenClaim := { program := "ytkanfpmmgaipnaa", sum := "aafa778f627a58198611432c705ec99ed7079b4cc27db73dce0aa6dd1726bf12", func := "bollard/bollardlaw3.DeviceFlush", spec := "deviceFlush", unfollowed := true, recurses := true, plainKeys := false, apart := false }
def DeviceFlushSaid : Prop := deviceFlushRow.holds Try.pinned (OpenSpec.ofChange deviceFlushSpec)

/-- ITS FALSE NEIGHBOUR: 'it returns false'. Refute it at one input. -/
def deviceFlushWrong : ChangeSpec := { name := "deviceFlush", fn := fun _ => fun
  | [d1, d2] => { results := [.lit (.bool false)], args := [d1, d2] }
  | _ => none }
def DeviceFlushWrongFalsely : Prop := deviceFlushRow.holds Try.pinned (OpenSpec.ofChange deviceFlushWrong)

/-- 'bollardlaw3.DeviceSizes': WHATEVER THE INPUT: true; the input reads as it did. -/
def deviceSizesSpec : ChangeSpec := { name := "deviceSizes", fn := fun _ => fun
  | [d] => { results := [.lit (.bool true)], args := [d] }
  | _ => none }
def deviceSizesRow : OpenClaim := { program := "ytkanfpmmgaipnaa", sum := "aafa778f627a58198611432c705ec99ed7079b4cc27db73dce0aa6dd1726bf12", func := "bollard/bollardlaw3.DeviceSizes", spec := "deviceSizes", unfollowed := true, recurses := true, plainKeys := false, apart := false }
def DeviceSizesSaid : Prop := deviceSizesRow.holds Try.pinned (OpenSpec.ofChange deviceSizesSpec)

/-- ITS FALSE NEIGHBOUR: 'it returns false'. Refute it at one input. -/
def deviceSizesWrong : ChangeSpec := { name := "deviceSizes", fn := fun _ => fun
  | [d] => { results := [.lit (.bool false)], args := [d] }
  | _ => none }
def DeviceSizesWrongFalsely : Prop := deviceSizesRow.holds Try.pinned (OpenSpec.ofChange deviceSizesWrong)

/-- 'bollardlaw3.DeviceCuts': WHATEVER THE INPUT: true; the input reads as it did. -/
def deviceCutsSpec : ChangeSpec := { name := "deviceCuts", fn := fun _ => fun
  | [d1, d2] => { results := [.lit (.bool true)], args := [d1, d2] }
  | _ => none }
def deviceCutsRow : OpenClaim := { program := "ytkanfpmmgaipnaa", sum := "aafa778f627a58198611432c705ec99ed7079b4cc27db73dce0aa6dd1726bf12", func := "bollard/bollardlaw3.DeviceCuts", spec := "deviceCuts", unfollowed := true, recurses := true, plainKeys := false, apart := false }
def DeviceCutsSaid : Prop := deviceCutsRow.holds Try.pinned (OpenSpec.ofChange deviceCutsSpec)

/-- ITS FALSE NEIGHBOUR: 'it returns false'. Refute it at one input. -/
def deviceCutsWrong : ChangeSpec := { name := "deviceCuts", fn := fun _ => fun
  | [d1, d2] => { results := [.lit (.bool false)], args := [d1, d2] }
  | _ => none }
def DeviceCutsWrongFalsely : Prop := deviceCutsRow.holds Try.pinned (OpenSpec.ofChange deviceCutsWrong)

/-- 'bollardlaw3.DeviceSelf': WHATEVER THE INPUT: true; the input reads as it did. -/
def deviceSelfSpec : ChangeSpec := { name := "deviceSelf", fn := fun _ => fun
  | [d1, d2] => { results := [.lit (.bool true)], args := [d1, d2] }
  | _ => none }
def deviceSelfRow : OpenClaim := { program := "ytkanfpmmgaipnaa", sum := "aafa778f627a58198611432c705ec99ed7079b4cc27db73dce0aa6dd1726bf12", func := "bollard/bollardlaw3.DeviceSelf", spec := "deviceSelf", inPlace := ["maps.clone"], unfollowed := true, recurses := true, plainKeys := false, apart := false }
def DeviceSelfSaid : Prop := deviceSelfRow.holds Try.pinned (OpenSpec.ofChange deviceSelfSpec)

/-- ITS FALSE NEIGHBOUR: 'it returns false'. Refute it at one input. -/
def deviceSelfWrong : ChangeSpec := { name := "deviceSelf", fn := fun _ => fun
  | [d1, d2] => { results := [.lit (.bool false)], args := [d1, d2] }
  | _ => none }
def DeviceSelfWrongFalsely : Prop := deviceSelfRow.holds Try.pinned (OpenSpec.ofChange deviceSelfWrong)

/-- 'bollardlaw3.DevicePlay': WHATEVER THE INPUT: true; the input reads as it did. -/
def devicePlaySpec : ChangeSpec := { name := "devicePlay", fn := fun _ => fun
  | [d1, d2] => { results := [.lit (.bool true)], args := [d1, d2] }
  | _ => none }
def devicePlayRow : OpenClaim := { program := "ytkanfpmmgaipnaa", sum := "aafa778f627a58198611432c705ec99ed7079b4cc27db73dce0aa6dd1726bf12", func := "bollard/bollardlaw3.DevicePlay", spec := "devicePlay", inPlace := ["maps.clone"], unfollowed := true, recurses := true, plainKeys := false, apart := false }
def DevicePlaySaid : Prop := devicePlayRow.holds Try.pinned (OpenSpec.ofChange devicePlaySpec)

/-- ITS FALSE NEIGHBOUR: 'it returns false'. Refute it at one input. -/
def devicePlayWrong : ChangeSpec := { name := "devicePlay", fn := fun _ => fun
  | [d1, d2] => { results := [.lit (.bool false)], args := [d1, d2] }
  | _ => none }
def DevicePlayWrongFalsely : Prop := devicePlayRow.holds Try.pinned (OpenSpec.ofChange devicePlayWrong)

/-- 'bollardlaw3.DeviceNothing': WHATEVER THE INPUT: true; the input reads as it did. -/
def deviceNothingSpec : ChangeSpec := { name := "deviceNothing", fn := fun _ => fun
  | [d1, d2] => { results := [.lit (.bool true)], args := [d1, d2] }
  | _ => none }
def deviceNothingRow : OpenClaim := { program := "ytkanfpmmgaipnaa", sum := "aafa778f627a58198611432c705ec99ed7079b4cc27db73dce0aa6dd1726bf12", func := "bollard/bollardlaw3.DeviceNothing", spec := "deviceNothing", inPlace := ["maps.clone"], unfollowed := true, recurses := true, plainKeys := false, apart := false }
def DeviceNothingSaid : Prop := deviceNothingRow.holds Try.pinned (OpenSpec.ofChange deviceNothingSpec)

/-- ITS FALSE NEIGHBOUR: 'it returns false'. Refute it at one input. -/
def deviceNothingWrong : ChangeSpec := { name := "deviceNothing", fn := fun _ => fun
  | [d1, d2] => { results := [.lit (.bool false)], args := [d1, d2] }
  | _ => none }
def DeviceNothingWrongFalsely : Prop := deviceNothingRow.holds Try.pinned (OpenSpec.ofChange deviceNothingWrong)

/-- 'bollardlaw4.JournalRefuses': WHATEVER THE INPUT: true; the input reads as it did. -/
def journalRefusesSpec : ChangeSpec := { name := "journalRefuses", fn := fun _ => fun
  | [d1, d2, d3, d4, d5] => { results := [.lit (.bool true)], args := [d1, d2, d3, d4, d5] }
  | _ => none }
def journalRefusesRow : OpenClaim := { program := "ytkanfpmmgaipnaa", sum := "aafa778f627a58198611432c705ec99ed7079b4cc27db73dce0aa6dd1726bf12", func := "bollard/bollardlaw4.JournalRefuses", spec := "journalRefuses", unfollowed := true, recurses := true, plainKeys := false, apart := false }
def JournalRefusesSaid : Prop := journalRefusesRow.holds Try.pinned (OpenSpec.ofChange journalRefusesSpec)

/-- ITS FALSE NEIGHBOUR: 'it returns false'. Refute it at one input. -/
def journalRefusesWrong : ChangeSpec := { name := "journalRefuses", fn := fun _ => fun
  | [d1, d2, d3, d4, d5] => { results := [.lit (.bool false)], args := [d1, d2, d3, d4, d5] }
  | _ => none }
def JournalRefusesWrongFalsely : Prop := journalRefusesRow.holds Try.pinned (OpenSpec.ofChange journalRefusesWrong)

/-- 'bollardlaw4.JournalBig': WHATEVER THE INPUT: true; the input reads as it did. -/
def journalBigSpec : ChangeSpec := { name := "journalBig", fn := fun _ => fun
  | [d] => { results := [.lit (.bool true)], args := [d] }
  | _ => none }
def journalBigRow : OpenClaim := { program := "ytkanfpmmgaipnaa", sum := "aafa778f627a58198611432c705ec99ed7079b4cc27db73dce0aa6dd1726bf12", func := "bollard/bollardlaw4.JournalBig", spec := "journalBig", unfollowed := true, recurses := true, plainKeys := false, apart := false }
def JournalBigSaid : Prop := journalBigRow.holds Try.pinned (OpenSpec.ofChange journalBigSpec)

/-- ITS FALSE NEIGHBOUR: 'it returns false'. Refute it at one input. -/
def journalBigWrong : ChangeSpec := { name := "journalBig", fn := fun _ => fun
  | [d] => { results := [.lit (.bool false)], args := [d] }
  | _ => none }
def JournalBigWrongFalsely : Prop := journalBigRow.holds Try.pinned (OpenSpec.ofChange journalBigWrong)

/-- 'bollardlaw4.JournalOwn': WHATEVER THE INPUT: true; the input reads as it did. -/
def journalOwnSpec : ChangeSpec := { name := "journalOwn", fn := fun _ => fun
  | [d1, d2] => { results := [.lit (.bool true)], args := [d1, d2] }
  | _ => none }
def journalOwnRow : OpenClaim := { program := "ytkanfpmmgaipnaa", sum := "aafa778f627a58198611432c705ec99ed7079b4cc27db73dce0aa6dd1726bf12", func := "bollard/bollardlaw4.JournalOwn", spec := "journalOwn", unfollowed := true, recurses := true, plainKeys := false, apart := false }
def JournalOwnSaid : Prop := journalOwnRow.holds Try.pinned (OpenSpec.ofChange journalOwnSpec)

/-- ITS FALSE NEIGHBOUR: 'it returns false'. Refute it at one input. -/
def journalOwnWrong : ChangeSpec := { name := "journalOwn", fn := fun _ => fun
  | [d1, d2] => { results := [.lit (.bool false)], args := [d1, d2] }
  | _ => none }
def JournalOwnWrongFalsely : Prop := journalOwnRow.holds Try.pinned (OpenSpec.ofChange journalOwnWrong)

/-- 'bollardlaw4.JournalPlays': WHATEVER THE INPUT: true; the input reads as it did. -/
def journalPlaysSpec : ChangeSpec := { name := "journalPlays", fn := fun _ => fun
  | [d] => { results := [.lit (.bool true)], args := [d] }
  | _ => none }
def journalPlaysRow : OpenClaim := { program := "ytkanfpmmgaipnaa", sum := "aafa778f627a58198611432c705ec99ed7079b4cc27db73dce0aa6dd1726bf12", func := "bollard/bollardlaw4.JournalPlays", spec := "journalPlays", unfollowed := true, recurses := true, plainKeys := false, apart := false }
def JournalPlaysSaid : Prop := journalPlaysRow.holds Try.pinned (OpenSpec.ofChange journalPlaysSpec)

/-- ITS FALSE NEIGHBOUR: 'it returns false'. Refute it at one input. -/
def journalPlaysWrong : ChangeSpec := { name := "journalPlays", fn := fun _ => fun
  | [d] => { results := [.lit (.bool false)], args := [d] }
  | _ => none }
def JournalPlaysWrongFalsely : Prop := journalPlaysRow.holds Try.pinned (OpenSpec.ofChange journalPlaysWrong)

/-- 'bollardlaw4.JournalNothing': WHATEVER THE INPUT: true; the input reads as it did. -/
def journalNothingSpec : ChangeSpec := { name := "journalNothing", fn := fun _ => fun
  | [d1, d2] => { results := [.lit (.bool true)], args := [d1, d2] }
  | _ => none }
def journalNothingRow : OpenClaim := { program := "ytkanfpmmgaipnaa", sum := "aafa778f627a58198611432c705ec99ed7079b4cc27db73dce0aa6dd1726bf12", func := "bollard/bollardlaw4.JournalNothing", spec := "journalNothing", unfollowed := true, recurses := true, plainKeys := false, apart := false }
def JournalNothingSaid : Prop := journalNothingRow.holds Try.pinned (OpenSpec.ofChange journalNothingSpec)

/-- ITS FALSE NEIGHBOUR: 'it returns false'. Refute it at one input. -/
def journalNothingWrong : ChangeSpec := { name := "journalNothing", fn := fun _ => fun
  | [d1, d2] => { results := [.lit (.bool false)], args := [d1, d2] }
  | _ => none }
def JournalNothingWrongFalsely : Prop := journalNothingRow.holds Try.pinned (OpenSpec.ofChange journalNothingWrong)

/-- 'bollardlaw4.JournalHomes': WHATEVER THE INPUT: true; the input reads as it did. -/
def journalHomesSpec : ChangeSpec := { name := "journalHomes", fn := fun _ => fun
  | [d1, d2] => { results := [.lit (.bool true)], args := [d1, d2] }
  | _ => none }
def journalHomesRow : OpenClaim := { program := "ytkanfpmmgaipnaa", sum := "aafa778f627a58198611432c705ec99ed7079b4cc27db73dce0aa6dd1726bf12", func := "bollard/bollardlaw4.JournalHomes", spec := "journalHomes", unfollowed := true, recurses := true, plainKeys := false, apart := false }
def JournalHomesSaid : Prop := journalHomesRow.holds Try.pinned (OpenSpec.ofChange journalHomesSpec)

/-- ITS FALSE NEIGHBOUR: 'it returns false'. Refute it at one input. -/
def journalHomesWrong : ChangeSpec := { name := "journalHomes", fn := fun _ => fun
  | [d1, d2] => { results := [.lit (.bool false)], args := [d1, d2] }
  | _ => none }
def JournalHomesWrongFalsely : Prop := journalHomesRow.holds Try.pinned (OpenSpec.ofChange journalHomesWrong)

/-- 'bollardlaw4.JournalLong': WHATEVER THE INPUT: true; the input reads as it did. -/
def journalLongSpec : ChangeSpec := { name := "journalLong", fn := fun _ => fun
  | [d1, d2, d3] => { results := [.lit (.bool true)], args := [d1, d2, d3] }
  | _ => none }
def journalLongRow : OpenClaim := { program := "ytkanfpmmgaipnaa", sum := "aafa778f627a58198611432c705ec99ed7079b4cc27db73dce0aa6dd1726bf12", func := "bollard/bollardlaw4.JournalLong", spec := "journalLong", unfollowed := true, recurses := true, plainKeys := false, apart := false }
def JournalLongSaid : Prop := journalLongRow.holds Try.pinned (OpenSpec.ofChange journalLongSpec)

/-- ITS FALSE NEIGHBOUR: 'it returns false'. Refute it at one input. -/
def journalLongWrong : ChangeSpec := { name := "journalLong", fn := fun _ => fun
  | [d1, d2, d3] => { results := [.lit (.bool false)], args := [d1, d2, d3] }
  | _ => none }
def JournalLongWrongFalsely : Prop := journalLongRow.holds Try.pinned (OpenSpec.ofChange journalLongWrong)

/-- 'bollardlaw4.JournalTwice': WHATEVER THE INPUT: true; the input reads as it did. -/
def journalTwiceSpec : ChangeSpec := { name := "journalTwice", fn := fun _ => fun
  | [d1, d2, d3] => { results := [.lit (.bool true)], args := [d1, d2, d3] }
  | _ => none }
def journalTwiceRow : OpenClaim := { program := "ytkanfpmmgaipnaa", sum := "aafa778f627a58198611432c705ec99ed7079b4cc27db73dce0aa6dd1726bf12", func := "bollard/bollardlaw4.JournalTwice", spec := "journalTwice", unfollowed := true, recurses := true, plainKeys := false, apart := false }
def JournalTwiceSaid : Prop := journalTwiceRow.holds Try.pinned (OpenSpec.ofChange journalTwiceSpec)

/-- ITS FALSE NEIGHBOUR: 'it returns false'. Refute it at one input. -/
def journalTwiceWrong : ChangeSpec := { name := "journalTwice", fn := fun _ => fun
  | [d1, d2, d3] => { results := [.lit (.bool false)], args := [d1, d2, d3] }
  | _ => none }
def JournalTwiceWrongFalsely : Prop := journalTwiceRow.holds Try.pinned (OpenSpec.ofChange journalTwiceWrong)

/-- 'bollardlaw4.JournalCrash': WHATEVER THE INPUT: true; the input reads as it did. -/
def journalCrashSpec : ChangeSpec := { name := "journalCrash", fn := fun _ => fun
  | [d1, d2, d3, d4] => { results := [.lit (.bool true)], args := [d1, d2, d3, d4] }
  | _ => none }
def journalCrashRow : OpenClaim := { program := "ytkanfpmmgaipnaa", sum := "aafa778f627a58198611432c705ec99ed7079b4cc27db73dce0aa6dd1726bf12", func := "bollard/bollardlaw4.JournalCrash", spec := "journalCrash", unfollowed := true, recurses := true, plainKeys := false, apart := false }
def JournalCrashSaid : Prop := journalCrashRow.holds Try.pinned (OpenSpec.ofChange journalCrashSpec)

/-- ITS FALSE NEIGHBOUR: 'it returns false'. Refute it at one input. -/
def journalCrashWrong : ChangeSpec := { name := "journalCrash", fn := fun _ => fun
  | [d1, d2, d3, d4] => { results := [.lit (.bool false)], args := [d1, d2, d3, d4] }
  | _ => none }
def JournalCrashWrongFalsely : Prop := journalCrashRow.holds Try.pinned (OpenSpec.ofChange journalCrashWrong)

/-- 'bollardlaw4.JournalDead': WHATEVER THE INPUT: true; the input reads as it did. -/
def journalDeadSpec : ChangeSpec := { name := "journalDead", fn := fun _ => fun
  | [d1, d2] => { results := [.lit (.bool true)], args := [d1, d2] }
  | _ => none }
def journalDeadRow : OpenClaim := { program := "ytkanfpmmgaipnaa", sum := "aafa778f627a58198611432c705ec99ed7079b4cc27db73dce0aa6dd1726bf12", func := "bollard/bollardlaw4.JournalDead", spec := "journalDead", unfollowed := true, recurses := true, plainKeys := false, apart := false }
def JournalDeadSaid : Prop := journalDeadRow.holds Try.pinned (OpenSpec.ofChange journalDeadSpec)

/-- ITS FALSE NEIGHBOUR: 'it returns false'. Refute it at one input. -/
def journalDeadWrong : ChangeSpec := { name := "journalDead", fn := fun _ => fun
  | [d1, d2] => { results := [.lit (.bool false)], args := [d1, d2] }
  | _ => none }
def JournalDeadWrongFalsely : Prop := journalDeadRow.holds Try.pinned (OpenSpec.ofChange journalDeadWrong)

/-- 'bollardlaw4.JournalSynced': WHATEVER THE INPUT: true; the input reads as it did. -/
def journalSyncedSpec : ChangeSpec := { name := "journalSynced", fn := fun _ => fun
  | [d1, d2] => { results := [.lit (.bool true)], args := [d1, d2] }
  | _ => none }
def journalSyncedRow : OpenClaim := { program := "ytkanfpmmgaipnaa", sum := "aafa778f627a58198611432c705ec99ed7079b4cc27db73dce0aa6dd1726bf12", func := "bollard/bollardlaw4.JournalSynced", spec := "journalSynced", unfollowed := true, recurses := true, plainKeys := false, apart := false }
def JournalSyncedSaid : Prop := journalSyncedRow.holds Try.pinned (OpenSpec.ofChange journalSyncedSpec)

/-- ITS FALSE NEIGHBOUR: 'it returns false'. Refute it at one input. -/
def journalSyncedWrong : ChangeSpec := { name := "journalSynced", fn := fun _ => fun
  | [d1, d2] => { results := [.lit (.bool false)], args := [d1, d2] }
  | _ => none }
def JournalSyncedWrongFalsely : Prop := journalSyncedRow.holds Try.pinned (OpenSpec.ofChange journalSyncedWrong)

/-- 'bollardlaw5.CachePlays': WHATEVER THE INPUT: true; the input reads as it did. -/
def cachePlaysSpec : ChangeSpec := { name := "cachePlays", fn := fun _ => fun
  | [d] => { results := [.lit (.bool true)], args := [d] }
  | _ => none }
def cachePlaysRow : OpenClaim := { program := "ytkanfpmmgaipnaa", sum := "aafa778f627a58198611432c705ec99ed7079b4cc27db73dce0aa6dd1726bf12", func := "bollard/bollardlaw5.CachePlays", spec := "cachePlays", unfollowed := true, recurses := true, plainKeys := false, apart := false }
def CachePlaysSaid : Prop := cachePlaysRow.holds Try.pinned (OpenSpec.ofChange cachePlaysSpec)

/-- ITS FALSE NEIGHBOUR: 'it returns false'. Refute it at one input. -/
def cachePlaysWrong : ChangeSpec := { name := "cachePlays", fn := fun _ => fun
  | [d] => { results := [.lit (.bool false)], args := [d] }
  | _ => none }
def CachePlaysWrongFalsely : Prop := cachePlaysRow.holds Try.pinned (OpenSpec.ofChange cachePlaysWrong)

/-- 'bollardlaw5.CacheNothing': WHATEVER THE INPUT: true; the input reads as it did. -/
def cacheNothingSpec : ChangeSpec := { name := "cacheNothing", fn := fun _ => fun
  | [d1, d2] => { results := [.lit (.bool true)], args := [d1, d2] }
  | _ => none }
def cacheNothingRow : OpenClaim := { program := "ytkanfpmmgaipnaa", sum := "aafa778f627a58198611432c705ec99ed7079b4cc27db73dce0aa6dd1726bf12", func := "bollard/bollardlaw5.CacheNothing", spec := "cacheNothing", unfollowed := true, recurses := true, plainKeys := false, apart := false }
def CacheNothingSaid : Prop := cacheNothingRow.holds Try.pinned (OpenSpec.ofChange cacheNothingSpec)

/-- ITS FALSE NEIGHBOUR: 'it returns false'. Refute it at one input. -/
def cacheNothingWrong : ChangeSpec := { name := "cacheNothing", fn := fun _ => fun
  | [d1, d2] => { results := [.lit (.bool false)], args := [d1, d2] }
  | _ => none }
def CacheNothingWrongFalsely : Prop := cacheNothingRow.holds Try.pinned (OpenSpec.ofChange cacheNothingWrong)

/-- 'bollardlaw5.CacheOver': WHATEVER THE INPUT: true; the input reads as it did. -/
def cacheOverSpec : ChangeSpec := { name := "cacheOver", fn := fun _ => fun
  | [d1, d2] => { results := [.lit (.bool true)], args := [d1, d2] }
  | _ => none }
def cacheOverRow : OpenClaim := { program := "ytkanfpmmgaipnaa", sum := "aafa778f627a58198611432c705ec99ed7079b4cc27db73dce0aa6dd1726bf12", func := "bollard/bollardlaw5.CacheOver", spec := "cacheOver", unfollowed := true, recurses := true, plainKeys := false, apart := false }
def CacheOverSaid : Prop := cacheOverRow.holds Try.pinned (OpenSpec.ofChange cacheOverSpec)

/-- ITS FALSE NEIGHBOUR: 'it returns false'. Refute it at one input. -/
def cacheOverWrong : ChangeSpec := { name := "cacheOver", fn := fun _ => fun
  | [d1, d2] => { results := [.lit (.bool false)], args := [d1, d2] }
  | _ => none }
def CacheOverWrongFalsely : Prop := cacheOverRow.holds Try.pinned (OpenSpec.ofChange cacheOverWrong)

/-- 'bollardlaw5.CacheOwn': WHATEVER THE INPUT: true; the input reads as it did. -/
def cacheOwnSpec : ChangeSpec := { name := "cacheOwn", fn := fun _ => fun
  | [d1, d2] => { results := [.lit (.bool true)], args := [d1, d2] }
  | _ => none }
def cacheOwnRow : OpenClaim := { program := "ytkanfpmmgaipnaa", sum := "aafa778f627a58198611432c705ec99ed7079b4cc27db73dce0aa6dd1726bf12", func := "bollard/bollardlaw5.CacheOwn", spec := "cacheOwn", unfollowed := true, recurses := true, plainKeys := false, apart := false }
def CacheOwnSaid : Prop := cacheOwnRow.holds Try.pinned (OpenSpec.ofChange cacheOwnSpec)

/-- ITS FALSE NEIGHBOUR: 'it returns false'. Refute it at one input. -/
def cacheOwnWrong : ChangeSpec := { name := "cacheOwn", fn := fun _ => fun
  | [d1, d2] => { results := [.lit (.bool false)], args := [d1, d2] }
  | _ => none }
def CacheOwnWrongFalsely : Prop := cacheOwnRow.holds Try.pinned (OpenSpec.ofChange cacheOwnWrong)

/-- 'bollardlaw5.CacheCounts': WHATEVER THE INPUT: true; the input reads as it did. -/
def cacheCountsSpec : ChangeSpec := { name := "cacheCounts", fn := fun _ => fun
  | [d] => { results := [.lit (.bool true)], args := [d] }
  | _ => none }
def cacheCountsRow : OpenClaim := { program := "ytkanfpmmgaipnaa", sum := "aafa778f627a58198611432c705ec99ed7079b4cc27db73dce0aa6dd1726bf12", func := "bollard/bollardlaw5.CacheCounts", spec := "cacheCounts", unfollowed := true, recurses := true, plainKeys := false, apart := false }
def CacheCountsSaid : Prop := cacheCountsRow.holds Try.pinned (OpenSpec.ofChange cacheCountsSpec)

/-- ITS FALSE NEIGHBOUR: 'it returns false'. Refute it at one input. -/
def cacheCountsWrong : ChangeSpec := { name := "cacheCounts", fn := fun _ => fun
  | [d] => { results := [.lit (.bool false)], args := [d] }
  | _ => none }
def CacheCountsWrongFalsely : Prop := cacheCountsRow.holds Try.pinned (OpenSpec.ofChange cacheCountsWrong)

/-- 'bollardlaw5.CacheWhole': WHATEVER THE INPUT: true; the input reads as it did. -/
def cacheWholeSpec : ChangeSpec := { name := "cacheWhole", fn := fun _ => fun
  | [d1, d2, d3] => { results := [.lit (.bool true)], args := [d1, d2, d3] }
  | _ => none }
def cacheWholeRow : OpenClaim := { program := "ytkanfpmmgaipnaa", sum := "aafa778f627a58198611432c705ec99ed7079b4cc27db73dce0aa6dd1726bf12", func := "bollard/bollardlaw5.CacheWhole", spec := "cacheWhole", unfollowed := true, recurses := true, plainKeys := false, apart := false }
def CacheWholeSaid : Prop := cacheWholeRow.holds Try.pinned (OpenSpec.ofChange cacheWholeSpec)

/-- ITS FALSE NEIGHBOUR: 'it returns false'. Refute it at one input. -/
def cacheWholeWrong : ChangeSpec := { name := "cacheWhole", fn := fun _ => fun
  | [d1, d2, d3] => { results := [.lit (.bool false)], args := [d1, d2, d3] }
  | _ => none }
def CacheWholeWrongFalsely : Prop := cacheWholeRow.holds Try.pinned (OpenSpec.ofChange cacheWholeWrong)

/- THE SECOND FORM. 'bulk': how many values and letters a reading holds, each counted each time it is reached (what is shared counts as often as it is met; a slice's spare places count too). A statement '..UptoSaid' is the law's where the arguments, and the package variables that the reading takes, are together of bulk at most 1048576: NARROWER than '..Said'. Prove '..Said' where nothing that the law and all that it calls make is longer than what came in: it says more and counts as full. Else prove '..UptoSaid'. A law counts once. -/
mutual
def uptoBulk {H : Type} : DataW H → Nat
  | .lit (.string bytes) => bytes.length + 1
  | .lit _ => 1
  | .nil => 1
  | .ptr d => uptoBulk d + 1
  | .slice elems spare => uptoBulkAll elems + uptoBulkAll spare + 1
  | .agg parts => uptoBulkAll parts + 1
  | .iface _ d => uptoBulk d + 1
  | .map entries => uptoBulkEntries entries + 1
  | .held _ => 1
def uptoBulkAll {H : Type} : List (DataW H) → Nat
  | [] => 0
  | d :: r => uptoBulk d + uptoBulkAll r
def uptoBulkEntries {H : Type} : List (Lit × DataW H) → Nat
  | [] => 0
  | x :: r => uptoBulkEntry x + uptoBulkEntries r
def uptoBulkEntry {H : Type} : Lit × DataW H → Nat
  | (.string bytes, d) => bytes.length + uptoBulk d + 1
  | (_, d) => uptoBulk d + 1
 end
def uptoSmall : (H : Type) → List (DataW H) → Bool := fun _ ds => decide (uptoBulkAll ds ≤ 1048576)
def OpenSpec.upto (s : _root_.Go.ChangeSpec) : _root_.Go.OpenSpec := { _root_.Go.OpenSpec.ofChange s with cond := some uptoSmall }

/-- 'bollardlaw3.DeviceLasts', WHERE WHAT IT READS IS OF BULK AT MOST 1048576: true; the input reads as it did. -/
def deviceLastsUptoRow : OpenClaim := { program := "ytkanfpmmgaipnaa", sum := "aafa778f627a58198611432c705ec99ed7079b4cc27db73dce0aa6dd1726bf12", func := "bollard/bollardlaw3.DeviceLasts", spec := "deviceLasts", unfollowed := true, recurses := true, plainKeys := false, apart := false, narrowed := true }
def DeviceLastsUptoSaid : Prop := deviceLastsUptoRow.holds Try.pinned (OpenSpec.upto deviceLastsSpec)

/-- 'bollardlaw3.DeviceNone', WHERE WHAT IT READS IS OF BULK AT MOST 1048576: true; the input reads as it did. -/
def deviceNoneUptoRow : OpenClaim := { program := "ytkanfpmmgaipnaa", sum := "aafa778f627a58198611432c705ec99ed7079b4cc27db73dce0aa6dd1726bf12", func := "bollard/bollardlaw3.DeviceNone", spec := "deviceNone", unfollowed := true, recurses := true, plainKeys := false, apart := false, narrowed := true }
def DeviceNoneUptoSaid : Prop := deviceNoneUptoRow.holds Try.pinned (OpenSpec.upto deviceNoneSpec)

/-- 'bollardlaw3.DeviceFlush', WHERE WHAT IT READS IS OF BULK AT MOST 1048576: true; the input reads as it did. -/
def deviceFlushUptoRow : OpenClaim := { program := "ytkanfpmmgaipnaa", sum := "aafa778f627a58198611432c705ec99ed7079b4cc27db73dce0aa6dd1726bf12", func := "bollard/bollardlaw3.DeviceFlush", spec := "deviceFlush", unfollowed := true, recurses := true, plainKeys := false, apart := false, narrowed := true }
def DeviceFlushUptoSaid : Prop := deviceFlushUptoRow.holds Try.pinned (OpenSpec.upto deviceFlushSpec)

/-- 'bollardlaw3.DeviceSizes', WHERE WHAT IT READS IS OF BULK AT MOST 1048576: true; the input reads as it did. -/
def deviceSizesUptoRow : OpenClaim := { program := "ytkanfpmmgaipnaa", sum := "aafa778f627a58198611432c705ec99ed7079b4cc27db73dce0aa6dd1726bf12", func := "bollard/bollardlaw3.DeviceSizes", spec := "deviceSizes", unfollowed := true, recurses := true, plainKeys := false, apart := false, narrowed := true }
def DeviceSizesUptoSaid : Prop := deviceSizesUptoRow.holds Try.pinned (OpenSpec.upto deviceSizesSpec)

/-- 'bollardlaw3.DeviceCuts', WHERE WHAT IT READS IS OF BULK AT MOST 1048576: true; the input reads as it did. -/
def deviceCutsUptoRow : OpenClaim := { program := "ytkanfpmmgaipnaa", sum := "aafa778f627a58198611432c705ec99ed7079b4cc27db73dce0aa6dd1726bf12", func := "bollard/bollardlaw3.DeviceCuts", spec := "deviceCuts", unfollowed := true, recurses := true, plainKeys := false, apart := false, narrowed := true }
def DeviceCutsUptoSaid : Prop := deviceCutsUptoRow.holds Try.pinned (OpenSpec.upto deviceCutsSpec)

/-- 'bollardlaw3.DeviceSelf', WHERE WHAT IT READS IS OF BULK AT MOST 1048576: true; the input reads as it did. -/
def deviceSelfUptoRow : OpenClaim := { program := "ytkanfpmmgaipnaa", sum := "aafa778f627a58198611432c705ec99ed7079b4cc27db73dce0aa6dd1726bf12", func := "bollard/bollardlaw3.DeviceSelf", spec := "deviceSelf", inPlace := ["maps.clone"], unfollowed := true, recurses := true, plainKeys := false, apart := false, narrowed := true }
def DeviceSelfUptoSaid : Prop := deviceSelfUptoRow.holds Try.pinned (OpenSpec.upto deviceSelfSpec)

/-- 'bollardlaw3.DevicePlay', WHERE WHAT IT READS IS OF BULK AT MOST 1048576: true; the input reads as it did. -/
def devicePlayUptoRow : OpenClaim := { program := "ytkanfpmmgaipnaa", sum := "aafa778f627a58198611432c705ec99ed7079b4cc27db73dce0aa6dd1726bf12", func := "bollard/bollardlaw3.DevicePlay", spec := "devicePlay", inPlace := ["maps.clone"], unfollowed := true, recurses := true, plainKeys := false, apart := false, narrowed := true }
def DevicePlayUptoSaid : Prop := devicePlayUptoRow.holds Try.pinned (OpenSpec.upto devicePlaySpec)

/-- 'bollardlaw3.DeviceNothing', WHERE WHAT IT READS IS OF BULK AT MOST 1048576: true; the input reads as it did. -/
def deviceNothingUptoRow : OpenClaim := { program := "ytkanfpmmgaipnaa", sum := "aafa778f627a58198611432c705ec99ed7079b4cc27db73dce0aa6dd1726bf12", func := "bollard/bollardlaw3.DeviceNothing", spec := "deviceNothing", inPlace := ["maps.clone"], unfollowed := true, recurses := true, plainKeys := false, apart := false, narrowed := true }
def DeviceNothingUptoSaid : Prop := deviceNothingUptoRow.holds Try.pinned (OpenSpec.upto deviceNothingSpec)

/-- 'bollardlaw4.JournalRefuses', WHERE WHAT IT READS IS OF BULK AT MOST 1048576: true; the input reads as it did. -/
def journalRefusesUptoRow : OpenClaim := { program := "ytkanfpmmgaipnaa", sum := "aafa778f627a58198611432c705ec99ed7079b4cc27db73dce0aa6dd1726bf12", func := "bollard/bollardlaw4.JournalRefuses", spec := "journalRefuses", unfollowed := true, recurses := true, plainKeys := false, apart := false, narrowed := true }
def JournalRefusesUptoSaid : Prop := journalRefusesUptoRow.holds Try.pinned (OpenSpec.upto journalRefusesSpec)

/-- 'bollardlaw4.JournalBig', WHERE WHAT IT READS IS OF BULK AT MOST 1048576: true; the input reads as it did. -/
def journalBigUptoRow : OpenClaim := { program := "ytkanfpmmgaipnaa", sum := "aafa778f627a58198611432c705ec99ed7079b4cc27db73dce0aa6dd1726bf12", func := "bollard/bollardlaw4.JournalBig", spec := "journalBig", unfollowed := true, recurses := true, plainKeys := false, apart := false, narrowed := true }
def JournalBigUptoSaid : Prop := journalBigUptoRow.holds Try.pinned (OpenSpec.upto journalBigSpec)

/-- 'bollardlaw4.JournalOwn', WHERE WHAT IT READS IS OF BULK AT MOST 1048576: true; the input reads as it did. -/
def journalOwnUptoRow : OpenClaim := { program := "ytkanfpmmgaipnaa", sum := "aafa778f627a58198611432c705ec99ed7079b4cc27db73dce0aa6dd1726bf12", func := "bollard/bollardlaw4.JournalOwn", spec := "journalOwn", unfollowed := true, recurses := true, plainKeys := false, apart := false, narrowed := true }
def JournalOwnUptoSaid : Prop := journalOwnUptoRow.holds Try.pinned (OpenSpec.upto journalOwnSpec)

/-- 'bollardlaw4.JournalPlays', WHERE WHAT IT READS IS OF BULK AT MOST 1048576: true; the input reads as it did. -/
def journalPlaysUptoRow : OpenClaim := { program := "ytkanfpmmgaipnaa", sum := "aafa778f627a58198611432c705ec99ed7079b4cc27db73dce0aa6dd1726bf12", func := "bollard/bollardlaw4.JournalPlays", spec := "journalPlays", unfollowed := true, recurses := true, plainKeys := false, apart := false, narrowed := true }
def JournalPlaysUptoSaid : Prop := journalPlaysUptoRow.holds Try.pinned (OpenSpec.upto journalPlaysSpec)

/-- 'bollardlaw4.JournalNothing', WHERE WHAT IT READS IS OF BULK AT MOST 1048576: true; the input reads as it did. -/
def journalNothingUptoRow : OpenClaim := { program := "ytkanfpmmgaipnaa", sum := "aafa778f627a58198611432c705ec99ed7079b4cc27db73dce0aa6dd1726bf12", func := "bollard/bollardlaw4.JournalNothing", spec := "journalNothing", unfollowed := true, recurses := true, plainKeys := false, apart := false, narrowed := true }
def JournalNothingUptoSaid : Prop := journalNothingUptoRow.holds Try.pinned (OpenSpec.upto journalNothingSpec)

/-- 'bollardlaw4.JournalHomes', WHERE WHAT IT READS IS OF BULK AT MOST 1048576: true; the input reads as it did. -/
def journalHomesUptoRow : OpenClaim := { program := "ytkanfpmmgaipnaa", sum := "aafa778f627a58198611432c705ec99ed7079b4cc27db73dce0aa6dd1726bf12", func := "bollard/bollardlaw4.JournalHomes", spec := "journalHomes", unfollowed := true, recurses := true, plainKeys := false, apart := false, narrowed := true }
def JournalHomesUptoSaid : Prop := journalHomesUptoRow.holds Try.pinned (OpenSpec.upto journalHomesSpec)

/-- 'bollardlaw4.JournalLong', WHERE WHAT IT READS IS OF BULK AT MOST 1048576: true; the input reads as it did. -/
def journalLongUptoRow : OpenClaim := { program := "ytkanfpmmgaipnaa", sum := "aafa778f627a58198611432c705ec99ed7079b4cc27db73dce0aa6dd1726bf12", func := "bollard/bollardlaw4.JournalLong", spec := "journalLong", unfollowed := true, recurses := true, plainKeys := false, apart := false, narrowed := true }
def JournalLongUptoSaid : Prop := journalLongUptoRow.holds Try.pinned (OpenSpec.upto journalLongSpec)

/-- 'bollardlaw4.JournalTwice', WHERE WHAT IT READS IS OF BULK AT MOST 1048576: true; the input reads as it did. -/
def journalTwiceUptoRow : OpenClaim := { program := "ytkanfpmmgaipnaa", sum := "aafa778f627a58198611432c705ec99ed7079b4cc27db73dce0aa6dd1726bf12", func := "bollard/bollardlaw4.JournalTwice", spec := "journalTwice", unfollowed := true, recurses := true, plainKeys := false, apart := false, narrowed := true }
def JournalTwiceUptoSaid : Prop := journalTwiceUptoRow.holds Try.pinned (OpenSpec.upto journalTwiceSpec)

/-- 'bollardlaw4.JournalCrash', WHERE WHAT IT READS IS OF BULK AT MOST 1048576: true; the input reads as it did. -/
def journalCrashUptoRow : OpenClaim := { program := "ytkanfpmmgaipnaa", sum := "aafa778f627a58198611432c705ec99ed7079b4cc27db73dce0aa6dd1726bf12", func := "bollard/bollardlaw4.JournalCrash", spec := "journalCrash", unfollowed := true, recurses := true, plainKeys := false, apart := false, narrowed := true }
def JournalCrashUptoSaid : Prop := journalCrashUptoRow.holds Try.pinned (OpenSpec.upto journalCrashSpec)

/-- 'bollardlaw4.JournalDead', WHERE WHAT IT READS IS OF BULK AT MOST 1048576: true; the input reads as it did. -/
def journalDeadUptoRow : OpenClaim := { program := "ytkanfpmmgaipnaa", sum := "aafa778f627a58198611432c705ec99ed7079b4cc27db73dce0aa6dd1726bf12", func := "bollard/bollardlaw4.JournalDead", spec := "journalDead", unfollowed := true, recurses := true, plainKeys := false, apart := false, narrowed := true }
def JournalDeadUptoSaid : Prop := journalDeadUptoRow.holds Try.pinned (OpenSpec.upto journalDeadSpec)

/-- 'bollardlaw4.JournalSynced', WHERE WHAT IT READS IS OF BULK AT MOST 1048576: true; the input reads as it did. -/
def journalSyncedUptoRow : OpenClaim := { program := "ytkanfpmmgaipnaa", sum := "aafa778f627a58198611432c705ec99ed7079b4cc27db73dce0aa6dd1726bf12", func := "bollard/bollardlaw4.JournalSynced", spec := "journalSynced", unfollowed := true, recurses := true, plainKeys := false, apart := false, narrowed := true }
def JournalSyncedUptoSaid : Prop := journalSyncedUptoRow.holds Try.pinned (OpenSpec.upto journalSyncedSpec)

/-- 'bollardlaw5.CachePlays', WHERE WHAT IT READS IS OF BULK AT MOST 1048576: true; the input reads as it did. -/
def cachePlaysUptoRow : OpenClaim := { program := "ytkanfpmmgaipnaa", sum := "aafa778f627a58198611432c705ec99ed7079b4cc27db73dce0aa6dd1726bf12", func := "bollard/bollardlaw5.CachePlays", spec := "cachePlays", unfollowed := true, recurses := true, plainKeys := false, apart := false, narrowed := true }
def CachePlaysUptoSaid : Prop := cachePlaysUptoRow.holds Try.pinned (OpenSpec.upto cachePlaysSpec)

/-- 'bollardlaw5.CacheNothing', WHERE WHAT IT READS IS OF BULK AT MOST 1048576: true; the input reads as it did. -/
def cacheNothingUptoRow : OpenClaim := { program := "ytkanfpmmgaipnaa", sum := "aafa778f627a58198611432c705ec99ed7079b4cc27db73dce0aa6dd1726bf12", func := "bollard/bollardlaw5.CacheNothing", spec := "cacheNothing", unfollowed := true, recurses := true, plainKeys := false, apart := false, narrowed := true }
def CacheNothingUptoSaid : Prop := cacheNothingUptoRow.holds Try.pinned (OpenSpec.upto cacheNothingSpec)

/-- 'bollardlaw5.CacheOver', WHERE WHAT IT READS IS OF BULK AT MOST 1048576: true; the input reads as it did. -/
def cacheOverUptoRow : OpenClaim := { program := "ytkanfpmmgaipnaa", sum := "aafa778f627a58198611432c705ec99ed7079b4cc27db73dce0aa6dd1726bf12", func := "bollard/bollardlaw5.CacheOver", spec := "cacheOver", unfollowed := true, recurses := true, plainKeys := false, apart := false, narrowed := true }
def CacheOverUptoSaid : Prop := cacheOverUptoRow.holds Try.pinned (OpenSpec.upto cacheOverSpec)

/-- 'bollardlaw5.CacheOwn', WHERE WHAT IT READS IS OF BULK AT MOST 1048576: true; the input reads as it did. -/
def cacheOwnUptoRow : OpenClaim := { program := "ytkanfpmmgaipnaa", sum := "aafa778f627a58198611432c705ec99ed7079b4cc27db73dce0aa6dd1726bf12", func := "bollard/bollardlaw5.CacheOwn", spec := "cacheOwn", unfollowed := true, recurses := true, plainKeys := false, apart := false, narrowed := true }
def CacheOwnUptoSaid : Prop := cacheOwnUptoRow.holds Try.pinned (OpenSpec.upto cacheOwnSpec)

/-- 'bollardlaw5.CacheCounts', WHERE WHAT IT READS IS OF BULK AT MOST 1048576: true; the input reads as it did. -/
def cacheCountsUptoRow : OpenClaim := { program := "ytkanfpmmgaipnaa", sum := "aafa778f627a58198611432c705ec99ed7079b4cc27db73dce0aa6dd1726bf12", func := "bollard/bollardlaw5.CacheCounts", spec := "cacheCounts", unfollowed := true, recurses := true, plainKeys := false, apart := false, narrowed := true }
def CacheCountsUptoSaid : Prop := cacheCountsUptoRow.holds Try.pinned (OpenSpec.upto cacheCountsSpec)

/-- 'bollardlaw5.CacheWhole', WHERE WHAT IT READS IS OF BULK AT MOST 1048576: true; the input reads as it did. -/
def cacheWholeUptoRow : OpenClaim := { program := "ytkanfpmmgaipnaa", sum := "aafa778f627a58198611432c705ec99ed7079b4cc27db73dce0aa6dd1726bf12", func := "bollard/bollardlaw5.CacheWhole", spec := "cacheWhole", unfollowed := true, recurses := true, plainKeys := false, apart := false, narrowed := true }
def CacheWholeUptoSaid : Prop := cacheWholeUptoRow.holds Try.pinned (OpenSpec.upto cacheWholeSpec)

end Rows
end Go.Proofs.Ytkanfpmmgaipnaa
