/-
  NARROWER THAN 'FOR EVERY INPUT', by the rows' own cells (each row's printed sentence says how): JournalPuts: laid · JournalReads: laid · SystemIn: laid · JournalCut: laid · JournalSpoilt: laid · SystemCut: laid · JournalMore: laid · JournalRest: laid · JournalRecovers: laid · StoreAdds: laid · StoreGrows: laid · StoreSame: laid · StoreProves: laid · StoreHolds: laid · StoreSaves: laid · StoreOpens: laid · StoreTwice: laid.
  DERIVED. THE GIVEN ROWS OF THIS SEAT. 17 by the template 'for every input the law returns true; each argument reads behind the call as it read before'; 0 by the template 'total and deterministic' (their statements: YtgpohndnkecbeaaDoorTotals.lean).
  GIVEN WITH THE SEED: the statements are not yours to turn. If you find one false, say at which input.
  Laid BY PROGRAM, IN A SANDBOX (cutbox-rows.mjs): the forced cells as the released guide's own fill.sh prints them over the translation 6beacc6c3e7ae15f… (all of the seat's roots in one cut). By AI agents, Wed Nov 11 2026. No macro, syntax, notation, axiom, sorry.
-/
import Derived.Test.YtgpohndnkecbeaaDoorChecked
import GoSem.Claim
import GoSem.ClaimJoined
import GoSem.ClaimMapViews
import Derived.JoinedTies
import Derived.KernelRfl
namespace Go.Proofs.YtgpohndnkecbeaaDoor
/- THE CELL 'sum', in the pinned program and in every row, IS THE sha256 OF THE DUMP (.gsa) THAT YtgpohndnkecbeaaDoorProg.lean LOADS. Nothing in Lean hashes anything: it is a label: what it is worth is what the hold of that sum in a sandbox is worth. -/
noncomputable def Tryd.pinned : Pinned := { name := "ytgpohndnkecbeaadoor", sum := "6beacc6c3e7ae15fd372d6292730ca4c661d296f356a103cf6a9e704aeb70930", checked := Tryd.checked }
namespace Rows
def none {H : Type} : Left H := { results := [], args := [] }

/- WHAT THE LISTED PACKAGE-LEVEL VARIABLES READ AS WHEN THE CALL BEGINS. Each datum BY PROGRAM (the guide's laid-datum.mjs) off the statement by which the dump's own 'gosem.cut.vars' lays the variable. In a bare row this is a premise. The card (YtgpohndnkecbeaaDoorCards.lean) ties it to the program's text. -/
def laid_seedcorn_digest_turns {H : Type} : DataW H := .agg [.lit (.int .i64 7), .lit (.int .i64 9), .lit (.int .i64 13), .lit (.int .i64 18)]

/-- 'seedcornlaw41.JournalPuts': WHATEVER THE INPUT: true; the input reads as it did. -/
def journalPutsSpec : ChangeSpec := { name := "journalPuts", fn := fun _ => fun
  | [d] => { results := [.lit (.bool true)], args := [d] }
  | _ => none }
def journalPutsRow : OpenClaim := { program := "ytgpohndnkecbeaadoor", sum := "6beacc6c3e7ae15fd372d6292730ca4c661d296f356a103cf6a9e704aeb70930", func := "seedcorn/seedcornlaw41.JournalPuts", spec := "journalPuts", inPlace := ["internal/abi.NoEscape", "internal/bytealg.MakeNoZero"], unfollowed := true, recurses := true, named := ["seedcorn/digest.turns"], apart := false, laid := [("seedcorn/digest.turns", laid_seedcorn_digest_turns)] }
def JournalPutsSaid : Prop := journalPutsRow.holds Tryd.pinned (OpenSpec.ofChange journalPutsSpec)

/-- ITS FALSE NEIGHBOUR: 'it returns false'. Refute it at one input. -/
def journalPutsWrong : ChangeSpec := { name := "journalPuts", fn := fun _ => fun
  | [d] => { results := [.lit (.bool false)], args := [d] }
  | _ => none }
def JournalPutsWrongFalsely : Prop := journalPutsRow.holds Tryd.pinned (OpenSpec.ofChange journalPutsWrong)

/-- 'seedcornlaw41.JournalReads': WHATEVER THE INPUT: true; the input reads as it did. -/
def journalReadsSpec : ChangeSpec := { name := "journalReads", fn := fun _ => fun
  | [d] => { results := [.lit (.bool true)], args := [d] }
  | _ => none }
def journalReadsRow : OpenClaim := { program := "ytgpohndnkecbeaadoor", sum := "6beacc6c3e7ae15fd372d6292730ca4c661d296f356a103cf6a9e704aeb70930", func := "seedcorn/seedcornlaw41.JournalReads", spec := "journalReads", inPlace := ["internal/abi.NoEscape", "internal/bytealg.MakeNoZero"], unfollowed := true, recurses := true, named := ["seedcorn/digest.turns"], apart := false, laid := [("seedcorn/digest.turns", laid_seedcorn_digest_turns)] }
def JournalReadsSaid : Prop := journalReadsRow.holds Tryd.pinned (OpenSpec.ofChange journalReadsSpec)

/-- ITS FALSE NEIGHBOUR: 'it returns false'. Refute it at one input. -/
def journalReadsWrong : ChangeSpec := { name := "journalReads", fn := fun _ => fun
  | [d] => { results := [.lit (.bool false)], args := [d] }
  | _ => none }
def JournalReadsWrongFalsely : Prop := journalReadsRow.holds Tryd.pinned (OpenSpec.ofChange journalReadsWrong)

/-- 'seedcorntop.SystemIn': WHATEVER THE INPUT: true; the input reads as it did. -/
def systemInSpec : ChangeSpec := { name := "systemIn", fn := fun _ => fun
  | [d1, d2] => { results := [.lit (.bool true)], args := [d1, d2] }
  | _ => none }
def systemInRow : OpenClaim := { program := "ytgpohndnkecbeaadoor", sum := "6beacc6c3e7ae15fd372d6292730ca4c661d296f356a103cf6a9e704aeb70930", func := "seedcorn/seedcorntop.SystemIn", spec := "systemIn", inPlace := ["internal/abi.NoEscape", "internal/bytealg.MakeNoZero"], unfollowed := true, recurses := true, named := ["seedcorn/digest.turns"], apart := false, laid := [("seedcorn/digest.turns", laid_seedcorn_digest_turns)] }
def SystemInSaid : Prop := systemInRow.holds Tryd.pinned (OpenSpec.ofChange systemInSpec)

/-- ITS FALSE NEIGHBOUR: 'it returns false'. Refute it at one input. -/
def systemInWrong : ChangeSpec := { name := "systemIn", fn := fun _ => fun
  | [d1, d2] => { results := [.lit (.bool false)], args := [d1, d2] }
  | _ => none }
def SystemInWrongFalsely : Prop := systemInRow.holds Tryd.pinned (OpenSpec.ofChange systemInWrong)

/-- 'seedcornlaw41.JournalCut': WHATEVER THE INPUT: true; the input reads as it did. -/
def journalCutSpec : ChangeSpec := { name := "journalCut", fn := fun _ => fun
  | [d1, d2] => { results := [.lit (.bool true)], args := [d1, d2] }
  | _ => none }
def journalCutRow : OpenClaim := { program := "ytgpohndnkecbeaadoor", sum := "6beacc6c3e7ae15fd372d6292730ca4c661d296f356a103cf6a9e704aeb70930", func := "seedcorn/seedcornlaw41.JournalCut", spec := "journalCut", inPlace := ["internal/abi.NoEscape", "internal/bytealg.MakeNoZero"], unfollowed := true, recurses := true, named := ["seedcorn/digest.turns"], apart := false, laid := [("seedcorn/digest.turns", laid_seedcorn_digest_turns)] }
def JournalCutSaid : Prop := journalCutRow.holds Tryd.pinned (OpenSpec.ofChange journalCutSpec)

/-- ITS FALSE NEIGHBOUR: 'it returns false'. Refute it at one input. -/
def journalCutWrong : ChangeSpec := { name := "journalCut", fn := fun _ => fun
  | [d1, d2] => { results := [.lit (.bool false)], args := [d1, d2] }
  | _ => none }
def JournalCutWrongFalsely : Prop := journalCutRow.holds Tryd.pinned (OpenSpec.ofChange journalCutWrong)

/-- 'seedcornlaw41.JournalSpoilt': WHATEVER THE INPUT: true; the input reads as it did. -/
def journalSpoiltSpec : ChangeSpec := { name := "journalSpoilt", fn := fun _ => fun
  | [d1, d2, d3] => { results := [.lit (.bool true)], args := [d1, d2, d3] }
  | _ => none }
def journalSpoiltRow : OpenClaim := { program := "ytgpohndnkecbeaadoor", sum := "6beacc6c3e7ae15fd372d6292730ca4c661d296f356a103cf6a9e704aeb70930", func := "seedcorn/seedcornlaw41.JournalSpoilt", spec := "journalSpoilt", inPlace := ["internal/abi.NoEscape", "internal/bytealg.MakeNoZero"], unfollowed := true, recurses := true, named := ["seedcorn/digest.turns"], apart := false, laid := [("seedcorn/digest.turns", laid_seedcorn_digest_turns)] }
def JournalSpoiltSaid : Prop := journalSpoiltRow.holds Tryd.pinned (OpenSpec.ofChange journalSpoiltSpec)

/-- ITS FALSE NEIGHBOUR: 'it returns false'. Refute it at one input. -/
def journalSpoiltWrong : ChangeSpec := { name := "journalSpoilt", fn := fun _ => fun
  | [d1, d2, d3] => { results := [.lit (.bool false)], args := [d1, d2, d3] }
  | _ => none }
def JournalSpoiltWrongFalsely : Prop := journalSpoiltRow.holds Tryd.pinned (OpenSpec.ofChange journalSpoiltWrong)

/-- 'seedcorntop.SystemCut': WHATEVER THE INPUT: true; the input reads as it did. -/
def systemCutSpec : ChangeSpec := { name := "systemCut", fn := fun _ => fun
  | [d1, d2] => { results := [.lit (.bool true)], args := [d1, d2] }
  | _ => none }
def systemCutRow : OpenClaim := { program := "ytgpohndnkecbeaadoor", sum := "6beacc6c3e7ae15fd372d6292730ca4c661d296f356a103cf6a9e704aeb70930", func := "seedcorn/seedcorntop.SystemCut", spec := "systemCut", inPlace := ["internal/abi.NoEscape", "internal/bytealg.MakeNoZero"], unfollowed := true, recurses := true, named := ["seedcorn/digest.turns"], apart := false, laid := [("seedcorn/digest.turns", laid_seedcorn_digest_turns)] }
def SystemCutSaid : Prop := systemCutRow.holds Tryd.pinned (OpenSpec.ofChange systemCutSpec)

/-- ITS FALSE NEIGHBOUR: 'it returns false'. Refute it at one input. -/
def systemCutWrong : ChangeSpec := { name := "systemCut", fn := fun _ => fun
  | [d1, d2] => { results := [.lit (.bool false)], args := [d1, d2] }
  | _ => none }
def SystemCutWrongFalsely : Prop := systemCutRow.holds Tryd.pinned (OpenSpec.ofChange systemCutWrong)

/-- 'seedcornlaw41.JournalMore': WHATEVER THE INPUT: true; the input reads as it did. -/
def journalMoreSpec : ChangeSpec := { name := "journalMore", fn := fun _ => fun
  | [d1, d2, d3] => { results := [.lit (.bool true)], args := [d1, d2, d3] }
  | _ => none }
def journalMoreRow : OpenClaim := { program := "ytgpohndnkecbeaadoor", sum := "6beacc6c3e7ae15fd372d6292730ca4c661d296f356a103cf6a9e704aeb70930", func := "seedcorn/seedcornlaw41.JournalMore", spec := "journalMore", inPlace := ["internal/abi.NoEscape", "internal/bytealg.MakeNoZero"], unfollowed := true, recurses := true, named := ["seedcorn/digest.turns"], apart := false, laid := [("seedcorn/digest.turns", laid_seedcorn_digest_turns)] }
def JournalMoreSaid : Prop := journalMoreRow.holds Tryd.pinned (OpenSpec.ofChange journalMoreSpec)

/-- ITS FALSE NEIGHBOUR: 'it returns false'. Refute it at one input. -/
def journalMoreWrong : ChangeSpec := { name := "journalMore", fn := fun _ => fun
  | [d1, d2, d3] => { results := [.lit (.bool false)], args := [d1, d2, d3] }
  | _ => none }
def JournalMoreWrongFalsely : Prop := journalMoreRow.holds Tryd.pinned (OpenSpec.ofChange journalMoreWrong)

/-- 'seedcornlaw41.JournalRest': WHATEVER THE INPUT: true; the input reads as it did. -/
def journalRestSpec : ChangeSpec := { name := "journalRest", fn := fun _ => fun
  | [d] => { results := [.lit (.bool true)], args := [d] }
  | _ => none }
def journalRestRow : OpenClaim := { program := "ytgpohndnkecbeaadoor", sum := "6beacc6c3e7ae15fd372d6292730ca4c661d296f356a103cf6a9e704aeb70930", func := "seedcorn/seedcornlaw41.JournalRest", spec := "journalRest", inPlace := ["internal/abi.NoEscape", "internal/bytealg.MakeNoZero"], unfollowed := true, recurses := true, named := ["seedcorn/digest.turns"], apart := false, laid := [("seedcorn/digest.turns", laid_seedcorn_digest_turns)] }
def JournalRestSaid : Prop := journalRestRow.holds Tryd.pinned (OpenSpec.ofChange journalRestSpec)

/-- ITS FALSE NEIGHBOUR: 'it returns false'. Refute it at one input. -/
def journalRestWrong : ChangeSpec := { name := "journalRest", fn := fun _ => fun
  | [d] => { results := [.lit (.bool false)], args := [d] }
  | _ => none }
def JournalRestWrongFalsely : Prop := journalRestRow.holds Tryd.pinned (OpenSpec.ofChange journalRestWrong)

/-- 'seedcornlaw41.JournalRecovers': WHATEVER THE INPUT: true; the input reads as it did. -/
def journalRecoversSpec : ChangeSpec := { name := "journalRecovers", fn := fun _ => fun
  | [d1, d2, d3] => { results := [.lit (.bool true)], args := [d1, d2, d3] }
  | _ => none }
def journalRecoversRow : OpenClaim := { program := "ytgpohndnkecbeaadoor", sum := "6beacc6c3e7ae15fd372d6292730ca4c661d296f356a103cf6a9e704aeb70930", func := "seedcorn/seedcornlaw41.JournalRecovers", spec := "journalRecovers", inPlace := ["internal/abi.NoEscape", "internal/bytealg.MakeNoZero"], unfollowed := true, recurses := true, named := ["seedcorn/digest.turns"], apart := false, laid := [("seedcorn/digest.turns", laid_seedcorn_digest_turns)] }
def JournalRecoversSaid : Prop := journalRecoversRow.holds Tryd.pinned (OpenSpec.ofChange journalRecoversSpec)

/-- ITS FALSE NEIGHBOUR: 'it returns false'. Refute it at one input. -/
def journalRecoversWrong : ChangeSpec := { name := "journalRecovers", fn := fun _ => fun
  | [d1, d2, d3] => { results := [.lit (.bool false)], args := [d1, d2, d3] }
  | _ => none }
def JournalRecoversWrongFalsely : Prop := journalRecoversRow.holds Tryd.pinned (OpenSpec.ofChange journalRecoversWrong)

/-- 'seedcornlaw42.StoreAdds': WHATEVER THE INPUT: true; the input reads as it did. -/
def storeAddsSpec : ChangeSpec := { name := "storeAdds", fn := fun _ => fun
  | [d1, d2, d3] => { results := [.lit (.bool true)], args := [d1, d2, d3] }
  | _ => none }
def storeAddsRow : OpenClaim := { program := "ytgpohndnkecbeaadoor", sum := "6beacc6c3e7ae15fd372d6292730ca4c661d296f356a103cf6a9e704aeb70930", func := "seedcorn/seedcornlaw42.StoreAdds", spec := "storeAdds", inPlace := ["internal/abi.NoEscape", "internal/bytealg.MakeNoZero"], unfollowed := true, recurses := true, named := ["seedcorn/digest.turns"], apart := false, laid := [("seedcorn/digest.turns", laid_seedcorn_digest_turns)] }
def StoreAddsSaid : Prop := storeAddsRow.holds Tryd.pinned (OpenSpec.ofChange storeAddsSpec)

/-- ITS FALSE NEIGHBOUR: 'it returns false'. Refute it at one input. -/
def storeAddsWrong : ChangeSpec := { name := "storeAdds", fn := fun _ => fun
  | [d1, d2, d3] => { results := [.lit (.bool false)], args := [d1, d2, d3] }
  | _ => none }
def StoreAddsWrongFalsely : Prop := storeAddsRow.holds Tryd.pinned (OpenSpec.ofChange storeAddsWrong)

/-- 'seedcornlaw42.StoreGrows': WHATEVER THE INPUT: true; the input reads as it did. -/
def storeGrowsSpec : ChangeSpec := { name := "storeGrows", fn := fun _ => fun
  | [d1, d2] => { results := [.lit (.bool true)], args := [d1, d2] }
  | _ => none }
def storeGrowsRow : OpenClaim := { program := "ytgpohndnkecbeaadoor", sum := "6beacc6c3e7ae15fd372d6292730ca4c661d296f356a103cf6a9e704aeb70930", func := "seedcorn/seedcornlaw42.StoreGrows", spec := "storeGrows", inPlace := ["internal/abi.NoEscape", "internal/bytealg.MakeNoZero"], unfollowed := true, recurses := true, named := ["seedcorn/digest.turns"], apart := false, laid := [("seedcorn/digest.turns", laid_seedcorn_digest_turns)] }
def StoreGrowsSaid : Prop := storeGrowsRow.holds Tryd.pinned (OpenSpec.ofChange storeGrowsSpec)

/-- ITS FALSE NEIGHBOUR: 'it returns false'. Refute it at one input. -/
def storeGrowsWrong : ChangeSpec := { name := "storeGrows", fn := fun _ => fun
  | [d1, d2] => { results := [.lit (.bool false)], args := [d1, d2] }
  | _ => none }
def StoreGrowsWrongFalsely : Prop := storeGrowsRow.holds Tryd.pinned (OpenSpec.ofChange storeGrowsWrong)

/-- 'seedcornlaw42.StoreSame': WHATEVER THE INPUT: true; the input reads as it did. -/
def storeSameSpec : ChangeSpec := { name := "storeSame", fn := fun _ => fun
  | [d1, d2] => { results := [.lit (.bool true)], args := [d1, d2] }
  | _ => none }
def storeSameRow : OpenClaim := { program := "ytgpohndnkecbeaadoor", sum := "6beacc6c3e7ae15fd372d6292730ca4c661d296f356a103cf6a9e704aeb70930", func := "seedcorn/seedcornlaw42.StoreSame", spec := "storeSame", inPlace := ["internal/abi.NoEscape", "internal/bytealg.MakeNoZero"], unfollowed := true, recurses := true, named := ["seedcorn/digest.turns"], apart := false, laid := [("seedcorn/digest.turns", laid_seedcorn_digest_turns)] }
def StoreSameSaid : Prop := storeSameRow.holds Tryd.pinned (OpenSpec.ofChange storeSameSpec)

/-- ITS FALSE NEIGHBOUR: 'it returns false'. Refute it at one input. -/
def storeSameWrong : ChangeSpec := { name := "storeSame", fn := fun _ => fun
  | [d1, d2] => { results := [.lit (.bool false)], args := [d1, d2] }
  | _ => none }
def StoreSameWrongFalsely : Prop := storeSameRow.holds Tryd.pinned (OpenSpec.ofChange storeSameWrong)

/-- 'seedcornlaw42.StoreProves': WHATEVER THE INPUT: true; the input reads as it did. -/
def storeProvesSpec : ChangeSpec := { name := "storeProves", fn := fun _ => fun
  | [d1, d2] => { results := [.lit (.bool true)], args := [d1, d2] }
  | _ => none }
def storeProvesRow : OpenClaim := { program := "ytgpohndnkecbeaadoor", sum := "6beacc6c3e7ae15fd372d6292730ca4c661d296f356a103cf6a9e704aeb70930", func := "seedcorn/seedcornlaw42.StoreProves", spec := "storeProves", inPlace := ["internal/abi.NoEscape", "internal/bytealg.MakeNoZero"], unfollowed := true, recurses := true, named := ["seedcorn/digest.turns"], apart := false, laid := [("seedcorn/digest.turns", laid_seedcorn_digest_turns)] }
def StoreProvesSaid : Prop := storeProvesRow.holds Tryd.pinned (OpenSpec.ofChange storeProvesSpec)

/-- ITS FALSE NEIGHBOUR: 'it returns false'. Refute it at one input. -/
def storeProvesWrong : ChangeSpec := { name := "storeProves", fn := fun _ => fun
  | [d1, d2] => { results := [.lit (.bool false)], args := [d1, d2] }
  | _ => none }
def StoreProvesWrongFalsely : Prop := storeProvesRow.holds Tryd.pinned (OpenSpec.ofChange storeProvesWrong)

/-- 'seedcornlaw42.StoreHolds': WHATEVER THE INPUT: true; the input reads as it did. -/
def storeHoldsSpec : ChangeSpec := { name := "storeHolds", fn := fun _ => fun
  | [d1, d2] => { results := [.lit (.bool true)], args := [d1, d2] }
  | _ => none }
def storeHoldsRow : OpenClaim := { program := "ytgpohndnkecbeaadoor", sum := "6beacc6c3e7ae15fd372d6292730ca4c661d296f356a103cf6a9e704aeb70930", func := "seedcorn/seedcornlaw42.StoreHolds", spec := "storeHolds", inPlace := ["internal/abi.NoEscape", "internal/bytealg.MakeNoZero"], unfollowed := true, recurses := true, named := ["seedcorn/digest.turns"], apart := false, laid := [("seedcorn/digest.turns", laid_seedcorn_digest_turns)] }
def StoreHoldsSaid : Prop := storeHoldsRow.holds Tryd.pinned (OpenSpec.ofChange storeHoldsSpec)

/-- ITS FALSE NEIGHBOUR: 'it returns false'. Refute it at one input. -/
def storeHoldsWrong : ChangeSpec := { name := "storeHolds", fn := fun _ => fun
  | [d1, d2] => { results := [.lit (.bool false)], args := [d1, d2] }
  | _ => none }
def StoreHoldsWrongFalsely : Prop := storeHoldsRow.holds Tryd.pinned (OpenSpec.ofChange storeHoldsWrong)

/-- 'seedcornlaw42.StoreSaves': WHATEVER THE INPUT: true; the input reads as it did. -/
def storeSavesSpec : ChangeSpec := { name := "storeSaves", fn := fun _ => fun
  | [d1, d2] => { results := [.lit (.bool true)], args := [d1, d2] }
  | _ => none }
def storeSavesRow : OpenClaim := { program := "ytgpohndnkecbeaadoor", sum := "6beacc6c3e7ae15fd372d6292730ca4c661d296f356a103cf6a9e704aeb70930", func := "seedcorn/seedcornlaw42.StoreSaves", spec := "storeSaves", inPlace := ["internal/abi.NoEscape", "internal/bytealg.MakeNoZero"], unfollowed := true, recurses := true, named := ["seedcorn/digest.turns"], apart := false, laid := [("seedcorn/digest.turns", laid_seedcorn_digest_turns)] }
def StoreSavesSaid : Prop := storeSavesRow.holds Tryd.pinned (OpenSpec.ofChange storeSavesSpec)

/-- ITS FALSE NEIGHBOUR: 'it returns false'. Refute it at one input. -/
def storeSavesWrong : ChangeSpec := { name := "storeSaves", fn := fun _ => fun
  | [d1, d2] => { results := [.lit (.bool false)], args := [d1, d2] }
  | _ => none }
def StoreSavesWrongFalsely : Prop := storeSavesRow.holds Tryd.pinned (OpenSpec.ofChange storeSavesWrong)

/-- 'seedcornlaw42.StoreOpens': WHATEVER THE INPUT: true; the input reads as it did. -/
def storeOpensSpec : ChangeSpec := { name := "storeOpens", fn := fun _ => fun
  | [d1, d2] => { results := [.lit (.bool true)], args := [d1, d2] }
  | _ => none }
def storeOpensRow : OpenClaim := { program := "ytgpohndnkecbeaadoor", sum := "6beacc6c3e7ae15fd372d6292730ca4c661d296f356a103cf6a9e704aeb70930", func := "seedcorn/seedcornlaw42.StoreOpens", spec := "storeOpens", inPlace := ["internal/abi.NoEscape", "internal/bytealg.MakeNoZero"], unfollowed := true, recurses := true, named := ["seedcorn/digest.turns"], apart := false, laid := [("seedcorn/digest.turns", laid_seedcorn_digest_turns)] }
def StoreOpensSaid : Prop := storeOpensRow.holds Tryd.pinned (OpenSpec.ofChange storeOpensSpec)

/-- ITS FALSE NEIGHBOUR: 'it returns false'. Refute it at one input. -/
def storeOpensWrong : ChangeSpec := { name := "storeOpens", fn := fun _ => fun
  | [d1, d2] => { results := [.lit (.bool false)], args := [d1, d2] }
  | _ => none }
def StoreOpensWrongFalsely : Prop := storeOpensRow.holds Tryd.pinned (OpenSpec.ofChange storeOpensWrong)

/-- 'seedcornlaw42.StoreTwice': WHATEVER THE INPUT: true; the input reads as it did. -/
def storeTwiceSpec : ChangeSpec := { name := "storeTwice", fn := fun _ => fun
  | [d] => { results := [.lit (.bool true)], args := [d] }
  | _ => none }
def storeTwiceRow : OpenClaim := { program := "ytgpohndnkecbeaadoor", sum := "6beacc6c3e7ae15fd372d6292730ca4c661d296f356a103cf6a9e704aeb70930", func := "seedcorn/seedcornlaw42.StoreTwice", spec := "storeTwice", inPlace := ["internal/abi.NoEscape", "internal/bytealg.MakeNoZero"], unfollowed := true, recurses := true, named := ["seedcorn/digest.turns"], apart := false, laid := [("seedcorn/digest.turns", laid_seedcorn_digest_turns)] }
def StoreTwiceSaid : Prop := storeTwiceRow.holds Tryd.pinned (OpenSpec.ofChange storeTwiceSpec)

/-- ITS FALSE NEIGHBOUR: 'it returns false'. Refute it at one input. -/
def storeTwiceWrong : ChangeSpec := { name := "storeTwice", fn := fun _ => fun
  | [d] => { results := [.lit (.bool false)], args := [d] }
  | _ => none }
def StoreTwiceWrongFalsely : Prop := storeTwiceRow.holds Tryd.pinned (OpenSpec.ofChange storeTwiceWrong)

/- THE SECOND FORM. 'bulk': how many values and letters a reading holds, each counted each time it is reached (what is shared counts as often as it is met; a slice's spare places count too). A statement '..UptoSaid' is the law's where the arguments, and the package variables that the reading takes, are together of bulk at most 1048576: NARROWER than '..Said'. Prove '..Said' where nothing that the law and all that it calls make is longer than what came in: it says more and counts as full. Else prove '..UptoSaid'. A law counts once. -/
mutual
def uptoBulk {H : Type} : DataW H → Nat
  | .lit (.string bytes) => bytes.length + 1
  | .lit _ => 1
  | .nil => 1
  | .ptr d => uptoBulk d + 1
  | .slice elems spare => uptoBulkAll elems + uptoBulkAll spare + 1
  | .agg parts => uptoBulkAll parts + 1
  | .iface _ d => uptoBulk d + 1
  | .map entries => uptoBulkEntries entries + 1
  | .held _ => 1
def uptoBulkAll {H : Type} : List (DataW H) → Nat
  | [] => 0
  | d :: r => uptoBulk d + uptoBulkAll r
def uptoBulkEntries {H : Type} : List (Lit × DataW H) → Nat
  | [] => 0
  | x :: r => uptoBulkEntry x + uptoBulkEntries r
def uptoBulkEntry {H : Type} : Lit × DataW H → Nat
  | (.string bytes, d) => bytes.length + uptoBulk d + 1
  | (_, d) => uptoBulk d + 1
 end
def uptoSmall : (H : Type) → List (DataW H) → Bool := fun _ ds => decide (uptoBulkAll ds ≤ 1048576)
def OpenSpec.upto (s : _root_.Go.ChangeSpec) : _root_.Go.OpenSpec := { _root_.Go.OpenSpec.ofChange s with cond := some uptoSmall }

/-- 'seedcornlaw41.JournalPuts', WHERE WHAT IT READS IS OF BULK AT MOST 1048576: true; the input reads as it did. -/
def journalPutsUptoRow : OpenClaim := { program := "ytgpohndnkecbeaadoor", sum := "6beacc6c3e7ae15fd372d6292730ca4c661d296f356a103cf6a9e704aeb70930", func := "seedcorn/seedcornlaw41.JournalPuts", spec := "journalPuts", inPlace := ["internal/abi.NoEscape", "internal/bytealg.MakeNoZero"], unfollowed := true, recurses := true, named := ["seedcorn/digest.turns"], apart := false, laid := [("seedcorn/digest.turns", laid_seedcorn_digest_turns)], narrowed := true }
def JournalPutsUptoSaid : Prop := journalPutsUptoRow.holds Tryd.pinned (OpenSpec.upto journalPutsSpec)

/-- 'seedcornlaw41.JournalReads', WHERE WHAT IT READS IS OF BULK AT MOST 1048576: true; the input reads as it did. -/
def journalReadsUptoRow : OpenClaim := { program := "ytgpohndnkecbeaadoor", sum := "6beacc6c3e7ae15fd372d6292730ca4c661d296f356a103cf6a9e704aeb70930", func := "seedcorn/seedcornlaw41.JournalReads", spec := "journalReads", inPlace := ["internal/abi.NoEscape", "internal/bytealg.MakeNoZero"], unfollowed := true, recurses := true, named := ["seedcorn/digest.turns"], apart := false, laid := [("seedcorn/digest.turns", laid_seedcorn_digest_turns)], narrowed := true }
def JournalReadsUptoSaid : Prop := journalReadsUptoRow.holds Tryd.pinned (OpenSpec.upto journalReadsSpec)

/-- 'seedcorntop.SystemIn', WHERE WHAT IT READS IS OF BULK AT MOST 1048576: true; the input reads as it did. -/
def systemInUptoRow : OpenClaim := { program := "ytgpohndnkecbeaadoor", sum := "6beacc6c3e7ae15fd372d6292730ca4c661d296f356a103cf6a9e704aeb70930", func := "seedcorn/seedcorntop.SystemIn", spec := "systemIn", inPlace := ["internal/abi.NoEscape", "internal/bytealg.MakeNoZero"], unfollowed := true, recurses := true, named := ["seedcorn/digest.turns"], apart := false, laid := [("seedcorn/digest.turns", laid_seedcorn_digest_turns)], narrowed := true }
def SystemInUptoSaid : Prop := systemInUptoRow.holds Tryd.pinned (OpenSpec.upto systemInSpec)

/-- 'seedcornlaw41.JournalCut', WHERE WHAT IT READS IS OF BULK AT MOST 1048576: true; the input reads as it did. -/
def journalCutUptoRow : OpenClaim := { program := "ytgpohndnkecbeaadoor", sum := "6beacc6c3e7ae15fd372d6292730ca4c661d296f356a103cf6a9e704aeb70930", func := "seedcorn/seedcornlaw41.JournalCut", spec := "journalCut", inPlace := ["internal/abi.NoEscape", "internal/bytealg.MakeNoZero"], unfollowed := true, recurses := true, named := ["seedcorn/digest.turns"], apart := false, laid := [("seedcorn/digest.turns", laid_seedcorn_digest_turns)], narrowed := true }
def JournalCutUptoSaid : Prop := journalCutUptoRow.holds Tryd.pinned (OpenSpec.upto journalCutSpec)

/-- 'seedcornlaw41.JournalSpoilt', WHERE WHAT IT READS IS OF BULK AT MOST 1048576: true; the input reads as it did. -/
def journalSpoiltUptoRow : OpenClaim := { program := "ytgpohndnkecbeaadoor", sum := "6beacc6c3e7ae15fd372d6292730ca4c661d296f356a103cf6a9e704aeb70930", func := "seedcorn/seedcornlaw41.JournalSpoilt", spec := "journalSpoilt", inPlace := ["internal/abi.NoEscape", "internal/bytealg.MakeNoZero"], unfollowed := true, recurses := true, named := ["seedcorn/digest.turns"], apart := false, laid := [("seedcorn/digest.turns", laid_seedcorn_digest_turns)], narrowed := true }
def JournalSpoiltUptoSaid : Prop := journalSpoiltUptoRow.holds Tryd.pinned (OpenSpec.upto journalSpoiltSpec)

/-- 'seedcorntop.SystemCut', WHERE WHAT IT READS IS OF BULK AT MOST 1048576: true; the input reads as it did. -/
def systemCutUptoRow : OpenClaim := { program := "ytgpohndnkecbeaadoor", sum := "6beacc6c3e7ae15fd372d6292730ca4c661d296f356a103cf6a9e704aeb70930", func := "seedcorn/seedcorntop.SystemCut", spec := "systemCut", inPlace := ["internal/abi.NoEscape", "internal/bytealg.MakeNoZero"], unfollowed := true, recurses := true, named := ["seedcorn/digest.turns"], apart := false, laid := [("seedcorn/digest.turns", laid_seedcorn_digest_turns)], narrowed := true }
def SystemCutUptoSaid : Prop := systemCutUptoRow.holds Tryd.pinned (OpenSpec.upto systemCutSpec)

/-- 'seedcornlaw41.JournalMore', WHERE WHAT IT READS IS OF BULK AT MOST 1048576: true; the input reads as it did. -/
def journalMoreUptoRow : OpenClaim := { program := "ytgpohndnkecbeaadoor", sum := "6beacc6c3e7ae15fd372d6292730ca4c661d296f356a103cf6a9e704aeb70930", func := "seedcorn/seedcornlaw41.JournalMore", spec := "journalMore", inPlace := ["internal/abi.NoEscape", "internal/bytealg.MakeNoZero"], unfollowed := true, recurses := true, named := ["seedcorn/digest.turns"], apart := false, laid := [("seedcorn/digest.turns", laid_seedcorn_digest_turns)], narrowed := true }
def JournalMoreUptoSaid : Prop := journalMoreUptoRow.holds Tryd.pinned (OpenSpec.upto journalMoreSpec)

/-- 'seedcornlaw41.JournalRest', WHERE WHAT IT READS IS OF BULK AT MOST 1048576: true; the input reads as it did. -/
def journalRestUptoRow : OpenClaim := { program := "ytgpohndnkecbeaadoor", sum := "6beacc6c3e7ae15fd372d6292730ca4c661d296f356a103cf6a9e704aeb70930", func := "seedcorn/seedcornlaw41.JournalRest", spec := "journalRest", inPlace := ["internal/abi.NoEscape", "internal/bytealg.MakeNoZero"], unfollowed := true, recurses := true, named := ["seedcorn/digest.turns"], apart := false, laid := [("seedcorn/digest.turns", laid_seedcorn_digest_turns)], narrowed := true }
def JournalRestUptoSaid : Prop := journalRestUptoRow.holds Tryd.pinned (OpenSpec.upto journalRestSpec)

/-- 'seedcornlaw41.JournalRecovers', WHERE WHAT IT READS IS OF BULK AT MOST 1048576: true; the input reads as it did. -/
def journalRecoversUptoRow : OpenClaim := { program := "ytgpohndnkecbeaadoor", sum := "6beacc6c3e7ae15fd372d6292730ca4c661d296f356a103cf6a9e704aeb70930", func := "seedcorn/seedcornlaw41.JournalRecovers", spec := "journalRecovers", inPlace := ["internal/abi.NoEscape", "internal/bytealg.MakeNoZero"], unfollowed := true, recurses := true, named := ["seedcorn/digest.turns"], apart := false, laid := [("seedcorn/digest.turns", laid_seedcorn_digest_turns)], narrowed := true }
def JournalRecoversUptoSaid : Prop := journalRecoversUptoRow.holds Tryd.pinned (OpenSpec.upto journalRecoversSpec)

/-- 'seedcornlaw42.StoreAdds', WHERE WHAT IT READS IS OF BULK AT MOST 1048576: true; the input reads as it did. -/
def storeAddsUptoRow : OpenClaim := { program := "ytgpohndnkecbeaadoor", sum := "6beacc6c3e7ae15fd372d6292730ca4c661d296f356a103cf6a9e704aeb70930", func := "seedcorn/seedcornlaw42.StoreAdds", spec := "storeAdds", inPlace := ["internal/abi.NoEscape", "internal/bytealg.MakeNoZero"], unfollowed := true, recurses := true, named := ["seedcorn/digest.turns"], apart := false, laid := [("seedcorn/digest.turns", laid_seedcorn_digest_turns)], narrowed := true }
def StoreAddsUptoSaid : Prop := storeAddsUptoRow.holds Tryd.pinned (OpenSpec.upto storeAddsSpec)

/-- 'seedcornlaw42.StoreGrows', WHERE WHAT IT READS IS OF BULK AT MOST 1048576: true; the input reads as it did. -/
def storeGrowsUptoRow : OpenClaim := { program := "ytgpohndnkecbeaadoor", sum := "6beacc6c3e7ae15fd372d6292730ca4c661d296f356a103cf6a9e704aeb70930", func := "seedcorn/seedcornlaw42.StoreGrows", spec := "storeGrows", inPlace := ["internal/abi.NoEscape", "internal/bytealg.MakeNoZero"], unfollowed := true, recurses := true, named := ["seedcorn/digest.turns"], apart := false, laid := [("seedcorn/digest.turns", laid_seedcorn_digest_turns)], narrowed := true }
def StoreGrowsUptoSaid : Prop := storeGrowsUptoRow.holds Tryd.pinned (OpenSpec.upto storeGrowsSpec)

/-- 'seedcornlaw42.StoreSame', WHERE WHAT IT READS IS OF BULK AT MOST 1048576: true; the input reads as it did. -/
def storeSameUptoRow : OpenClaim := { program := "ytgpohndnkecbeaadoor", sum := "6beacc6c3e7ae15fd372d6292730ca4c661d296f356a103cf6a9e704aeb70930", func := "seedcorn/seedcornlaw42.StoreSame", spec := "storeSame", inPlace := ["internal/abi.NoEscape", "internal/bytealg.MakeNoZero"], unfollowed := true, recurses := true, named := ["seedcorn/digest.turns"], apart := false, laid := [("seedcorn/digest.turns", laid_seedcorn_digest_turns)], narrowed := true }
def StoreSameUptoSaid : Prop := storeSameUptoRow.holds Tryd.pinned (OpenSpec.upto storeSameSpec)

/-- 'seedcornlaw42.StoreProves', WHERE WHAT IT READS IS OF BULK AT MOST 1048576: true; the input reads as it did. -/
def storeProvesUptoRow : OpenClaim := { program := "ytgpohndnkecbeaadoor", sum := "6beacc6c3e7ae15fd372d6292730ca4c661d296f356a103cf6a9e704aeb70930", func := "seedcorn/seedcornlaw42.StoreProves", spec := "storeProves", inPlace := ["internal/abi.NoEscape", "internal/bytealg.MakeNoZero"], unfollowed := true, recurses := true, named := ["seedcorn/digest.turns"], apart := false, laid := [("seedcorn/digest.turns", laid_seedcorn_digest_turns)], narrowed := true }
def StoreProvesUptoSaid : Prop := storeProvesUptoRow.holds Tryd.pinned (OpenSpec.upto storeProvesSpec)

/-- 'seedcornlaw42.StoreHolds', WHERE WHAT IT READS IS OF BULK AT MOST 1048576: true; the input reads as it did. -/
def storeHoldsUptoRow : OpenClaim := { program := "ytgpohndnkecbeaadoor", sum := "6beacc6c3e7ae15fd372d6292730ca4c661d296f356a103cf6a9e704aeb70930", func := "seedcorn/seedcornlaw42.StoreHolds", spec := "storeHolds", inPlace := ["internal/abi.NoEscape", "internal/bytealg.MakeNoZero"], unfollowed := true, recurses := true, named := ["seedcorn/digest.turns"], apart := false, laid := [("seedcorn/digest.turns", laid_seedcorn_digest_turns)], narrowed := true }
def StoreHoldsUptoSaid : Prop := storeHoldsUptoRow.holds Tryd.pinned (OpenSpec.upto storeHoldsSpec)

/-- 'seedcornlaw42.StoreSaves', WHERE WHAT IT READS IS OF BULK AT MOST 1048576: true; the input reads as it did. -/
def storeSavesUptoRow : OpenClaim := { program := "ytgpohndnkecbeaadoor", sum := "6beacc6c3e7ae15fd372d6292730ca4c661d296f356a103cf6a9e704aeb70930", func := "seedcorn/seedcornlaw42.StoreSaves", spec := "storeSaves", inPlace := ["internal/abi.NoEscape", "internal/bytealg.MakeNoZero"], unfollowed := true, recurses := true, named := ["seedcorn/digest.turns"], apart := false, laid := [("seedcorn/digest.turns", laid_seedcorn_digest_turns)], narrowed := true }
def StoreSavesUptoSaid : Prop := storeSavesUptoRow.holds Tryd.pinned (OpenSpec.upto storeSavesSpec)

/-- 'seedcornlaw42.StoreOpens', WHERE WHAT IT READS IS OF BULK AT MOST 1048576: true; the input reads as it did. -/
def storeOpensUptoRow : OpenClaim := { program := "ytgpohndnkecbeaadoor", sum := "6beacc6c3e7ae15fd372d6292730ca4c661d296f356a103cf6a9e704aeb70930", func := "seedcorn/seedcornlaw42.StoreOpens", spec := "storeOpens", inPlace := ["internal/abi.NoEscape", "internal/bytealg.MakeNoZero"], unfollowed := true, recurses := true, named := ["seedcorn/digest.turns"], apart := false, laid := [("seedcorn/digest.turns", laid_seedcorn_digest_turns)], narrowed := true }
def StoreOpensUptoSaid : Prop := storeOpensUptoRow.holds Tryd.pinned (OpenSpec.upto storeOpensSpec)

/-- 'seedcornlaw42.StoreTwice', WHERE WHAT IT READS IS OF BULK AT MOST 1048576: true; the input reads as it did. -/
def storeTwiceUptoRow : OpenClaim := { program := "ytgpohndnkecbeaadoor", sum := "6beacc6c3e7ae15fd372d6292730ca4c661d296f356a103cf6a9e704aeb70930", func := "seedcorn/seedcornlaw42.StoreTwice", spec := "storeTwice", inPlace := ["internal/abi.NoEscape", "internal/bytealg.MakeNoZero"], unfollowed := true, recurses := true, named := ["seedcorn/digest.turns"], apart := false, laid := [("seedcorn/digest.turns", laid_seedcorn_digest_turns)], narrowed := true }
def StoreTwiceUptoSaid : Prop := storeTwiceUptoRow.holds Tryd.pinned (OpenSpec.upto storeTwiceSpec)

end Rows
end Go.Proofs.YtgpohndnkecbeaaDoor
