/-
  No cell of these rows narrows 'for every input' (looked for: loops, veiled, ifaces, maps, wideKeys, modest, calm, conditions, laid).
  DERIVED. THE GIVEN ROWS OF THIS SEAT. 27 by the template 'for every input the law returns true; each argument reads behind the call as it read before'; 0 by the template 'total and deterministic' (their statements: YtgpkmepalmdmeaaTotals.lean).
  GIVEN WITH THE SEED: the statements are not yours to turn. If you find one false, say at which input.
  Laid BY PROGRAM, IN A SANDBOX (cutbox-rows.mjs): the forced cells as the released guide's own fill.sh prints them over the translation 7216780ceb931edc… (all of the seat's roots in one cut). By AI agents, Wed Nov 11 2026. No macro, syntax, notation, axiom, sorry.
-/
import Derived.Test.YtgpkmepalmdmeaaChecked
import GoSem.Claim
import GoSem.ClaimJoined
import GoSem.ClaimMapViews
import Derived.JoinedTies
import Derived.KernelRfl
namespace Go.Proofs.Ytgpkmepalmdmeaa
/- THE CELL 'sum', in the pinned program and in every row, IS THE sha256 OF THE DUMP (.gsa) THAT YtgpkmepalmdmeaaProg.lean LOADS. Nothing in Lean hashes anything: it is a label: what it is worth is what the hold of that sum in a sandbox is worth. -/
noncomputable def Try.pinned : Pinned := { name := "ytgpkmepalmdmeaa", sum := "7216780ceb931edc8f2e1c6241f1748cc0ed1404121abd5b40f33a122e580350", checked := Try.checked }
namespace Rows
def none {H : Type} : Left H := { results := [], args := [] }

/-- 'forkheadlaw22.PruningExact': WHATEVER THE INPUT: true; the input reads as it did. -/
def pruningExactSpec : ChangeSpec := { name := "pruningExact", fn := fun _ => fun
  | [d1, d2] => { results := [.lit (.bool true)], args := [d1, d2] }
  | _ => none }
def pruningExactRow : OpenClaim := { program := "ytgpkmepalmdmeaa", sum := "7216780ceb931edc8f2e1c6241f1748cc0ed1404121abd5b40f33a122e580350", func := "forkhead/forkheadlaw22.PruningExact", spec := "pruningExact", recurses := true, plainKeys := false, apart := false }
def PruningExactSaid : Prop := pruningExactRow.holds Try.pinned (OpenSpec.ofChange pruningExactSpec)

/-- ITS FALSE NEIGHBOUR: 'it returns false'. Refute it at one input. -/
def pruningExactWrong : ChangeSpec := { name := "pruningExact", fn := fun _ => fun
  | [d1, d2] => { results := [.lit (.bool false)], args := [d1, d2] }
  | _ => none }
def PruningExactWrongFalsely : Prop := pruningExactRow.holds Try.pinned (OpenSpec.ofChange pruningExactWrong)

/-- 'forkheadlaw22.PruningTwice': WHATEVER THE INPUT: true; the input reads as it did. -/
def pruningTwiceSpec : ChangeSpec := { name := "pruningTwice", fn := fun _ => fun
  | [d1, d2, d3] => { results := [.lit (.bool true)], args := [d1, d2, d3] }
  | _ => none }
def pruningTwiceRow : OpenClaim := { program := "ytgpkmepalmdmeaa", sum := "7216780ceb931edc8f2e1c6241f1748cc0ed1404121abd5b40f33a122e580350", func := "forkhead/forkheadlaw22.PruningTwice", spec := "pruningTwice", recurses := true, plainKeys := false, apart := false }
def PruningTwiceSaid : Prop := pruningTwiceRow.holds Try.pinned (OpenSpec.ofChange pruningTwiceSpec)

/-- ITS FALSE NEIGHBOUR: 'it returns false'. Refute it at one input. -/
def pruningTwiceWrong : ChangeSpec := { name := "pruningTwice", fn := fun _ => fun
  | [d1, d2, d3] => { results := [.lit (.bool false)], args := [d1, d2, d3] }
  | _ => none }
def PruningTwiceWrongFalsely : Prop := pruningTwiceRow.holds Try.pinned (OpenSpec.ofChange pruningTwiceWrong)

/-- 'forkheadlaw22.PruningWeights': WHATEVER THE INPUT: true; the input reads as it did. -/
def pruningWeightsSpec : ChangeSpec := { name := "pruningWeights", fn := fun _ => fun
  | [d1, d2, d3] => { results := [.lit (.bool true)], args := [d1, d2, d3] }
  | _ => none }
def pruningWeightsRow : OpenClaim := { program := "ytgpkmepalmdmeaa", sum := "7216780ceb931edc8f2e1c6241f1748cc0ed1404121abd5b40f33a122e580350", func := "forkhead/forkheadlaw22.PruningWeights", spec := "pruningWeights", plainKeys := false, apart := false }
def PruningWeightsSaid : Prop := pruningWeightsRow.holds Try.pinned (OpenSpec.ofChange pruningWeightsSpec)

/-- ITS FALSE NEIGHBOUR: 'it returns false'. Refute it at one input. -/
def pruningWeightsWrong : ChangeSpec := { name := "pruningWeights", fn := fun _ => fun
  | [d1, d2, d3] => { results := [.lit (.bool false)], args := [d1, d2, d3] }
  | _ => none }
def PruningWeightsWrongFalsely : Prop := pruningWeightsRow.holds Try.pinned (OpenSpec.ofChange pruningWeightsWrong)

/-- 'forkheadlaw12.AncestrySlots': WHATEVER THE INPUT: true; the input reads as it did. -/
def ancestrySlotsSpec : ChangeSpec := { name := "ancestrySlots", fn := fun _ => fun
  | [d1, d2, d3] => { results := [.lit (.bool true)], args := [d1, d2, d3] }
  | _ => none }
def ancestrySlotsRow : OpenClaim := { program := "ytgpkmepalmdmeaa", sum := "7216780ceb931edc8f2e1c6241f1748cc0ed1404121abd5b40f33a122e580350", func := "forkhead/forkheadlaw12.AncestrySlots", spec := "ancestrySlots", recurses := true, plainKeys := false, apart := false }
def AncestrySlotsSaid : Prop := ancestrySlotsRow.holds Try.pinned (OpenSpec.ofChange ancestrySlotsSpec)

/-- ITS FALSE NEIGHBOUR: 'it returns false'. Refute it at one input. -/
def ancestrySlotsWrong : ChangeSpec := { name := "ancestrySlots", fn := fun _ => fun
  | [d1, d2, d3] => { results := [.lit (.bool false)], args := [d1, d2, d3] }
  | _ => none }
def AncestrySlotsWrongFalsely : Prop := ancestrySlotsRow.holds Try.pinned (OpenSpec.ofChange ancestrySlotsWrong)

/-- 'forkheadlaw12.AncestryLater': WHATEVER THE INPUT: true; the input reads as it did. -/
def ancestryLaterSpec : ChangeSpec := { name := "ancestryLater", fn := fun _ => fun
  | [d1, d2, d3, d4] => { results := [.lit (.bool true)], args := [d1, d2, d3, d4] }
  | _ => none }
def ancestryLaterRow : OpenClaim := { program := "ytgpkmepalmdmeaa", sum := "7216780ceb931edc8f2e1c6241f1748cc0ed1404121abd5b40f33a122e580350", func := "forkhead/forkheadlaw12.AncestryLater", spec := "ancestryLater", plainKeys := false, apart := false }
def AncestryLaterSaid : Prop := ancestryLaterRow.holds Try.pinned (OpenSpec.ofChange ancestryLaterSpec)

/-- ITS FALSE NEIGHBOUR: 'it returns false'. Refute it at one input. -/
def ancestryLaterWrong : ChangeSpec := { name := "ancestryLater", fn := fun _ => fun
  | [d1, d2, d3, d4] => { results := [.lit (.bool false)], args := [d1, d2, d3, d4] }
  | _ => none }
def AncestryLaterWrongFalsely : Prop := ancestryLaterRow.holds Try.pinned (OpenSpec.ofChange ancestryLaterWrong)

/-- 'forkheadlaw12.AncestryPaths': WHATEVER THE INPUT: true; the input reads as it did. -/
def ancestryPathsSpec : ChangeSpec := { name := "ancestryPaths", fn := fun _ => fun
  | [d1, d2, d3] => { results := [.lit (.bool true)], args := [d1, d2, d3] }
  | _ => none }
def ancestryPathsRow : OpenClaim := { program := "ytgpkmepalmdmeaa", sum := "7216780ceb931edc8f2e1c6241f1748cc0ed1404121abd5b40f33a122e580350", func := "forkhead/forkheadlaw12.AncestryPaths", spec := "ancestryPaths", recurses := true, plainKeys := false, apart := false }
def AncestryPathsSaid : Prop := ancestryPathsRow.holds Try.pinned (OpenSpec.ofChange ancestryPathsSpec)

/-- ITS FALSE NEIGHBOUR: 'it returns false'. Refute it at one input. -/
def ancestryPathsWrong : ChangeSpec := { name := "ancestryPaths", fn := fun _ => fun
  | [d1, d2, d3] => { results := [.lit (.bool false)], args := [d1, d2, d3] }
  | _ => none }
def AncestryPathsWrongFalsely : Prop := ancestryPathsRow.holds Try.pinned (OpenSpec.ofChange ancestryPathsWrong)

/-- 'forkheadlaw12.AncestryOrder': WHATEVER THE INPUT: true; the input reads as it did. -/
def ancestryOrderSpec : ChangeSpec := { name := "ancestryOrder", fn := fun _ => fun
  | [d1, d2, d3, d4] => { results := [.lit (.bool true)], args := [d1, d2, d3, d4] }
  | _ => none }
def ancestryOrderRow : OpenClaim := { program := "ytgpkmepalmdmeaa", sum := "7216780ceb931edc8f2e1c6241f1748cc0ed1404121abd5b40f33a122e580350", func := "forkhead/forkheadlaw12.AncestryOrder", spec := "ancestryOrder", plainKeys := false, apart := false }
def AncestryOrderSaid : Prop := ancestryOrderRow.holds Try.pinned (OpenSpec.ofChange ancestryOrderSpec)

/-- ITS FALSE NEIGHBOUR: 'it returns false'. Refute it at one input. -/
def ancestryOrderWrong : ChangeSpec := { name := "ancestryOrder", fn := fun _ => fun
  | [d1, d2, d3, d4] => { results := [.lit (.bool false)], args := [d1, d2, d3, d4] }
  | _ => none }
def AncestryOrderWrongFalsely : Prop := ancestryOrderRow.holds Try.pinned (OpenSpec.ofChange ancestryOrderWrong)

/-- 'forkheadlaw22.PruningKeeps': WHATEVER THE INPUT: true; the input reads as it did. -/
def pruningKeepsSpec : ChangeSpec := { name := "pruningKeeps", fn := fun _ => fun
  | [d1, d2, d3, d4] => { results := [.lit (.bool true)], args := [d1, d2, d3, d4] }
  | _ => none }
def pruningKeepsRow : OpenClaim := { program := "ytgpkmepalmdmeaa", sum := "7216780ceb931edc8f2e1c6241f1748cc0ed1404121abd5b40f33a122e580350", func := "forkhead/forkheadlaw22.PruningKeeps", spec := "pruningKeeps", recurses := true, plainKeys := false, apart := false }
def PruningKeepsSaid : Prop := pruningKeepsRow.holds Try.pinned (OpenSpec.ofChange pruningKeepsSpec)

/-- ITS FALSE NEIGHBOUR: 'it returns false'. Refute it at one input. -/
def pruningKeepsWrong : ChangeSpec := { name := "pruningKeeps", fn := fun _ => fun
  | [d1, d2, d3, d4] => { results := [.lit (.bool false)], args := [d1, d2, d3, d4] }
  | _ => none }
def PruningKeepsWrongFalsely : Prop := pruningKeepsRow.holds Try.pinned (OpenSpec.ofChange pruningKeepsWrong)

/-- 'forkheadlaw12.AncestryCommon': WHATEVER THE INPUT: true; the input reads as it did. -/
def ancestryCommonSpec : ChangeSpec := { name := "ancestryCommon", fn := fun _ => fun
  | [d1, d2] => { results := [.lit (.bool true)], args := [d1, d2] }
  | _ => none }
def ancestryCommonRow : OpenClaim := { program := "ytgpkmepalmdmeaa", sum := "7216780ceb931edc8f2e1c6241f1748cc0ed1404121abd5b40f33a122e580350", func := "forkhead/forkheadlaw12.AncestryCommon", spec := "ancestryCommon", recurses := true, plainKeys := false, apart := false }
def AncestryCommonSaid : Prop := ancestryCommonRow.holds Try.pinned (OpenSpec.ofChange ancestryCommonSpec)

/-- ITS FALSE NEIGHBOUR: 'it returns false'. Refute it at one input. -/
def ancestryCommonWrong : ChangeSpec := { name := "ancestryCommon", fn := fun _ => fun
  | [d1, d2] => { results := [.lit (.bool false)], args := [d1, d2] }
  | _ => none }
def AncestryCommonWrongFalsely : Prop := ancestryCommonRow.holds Try.pinned (OpenSpec.ofChange ancestryCommonWrong)

/-- 'forkheadlaw12.AncestryMeets': WHATEVER THE INPUT: true; the input reads as it did. -/
def ancestryMeetsSpec : ChangeSpec := { name := "ancestryMeets", fn := fun _ => fun
  | [d1, d2, d3] => { results := [.lit (.bool true)], args := [d1, d2, d3] }
  | _ => none }
def ancestryMeetsRow : OpenClaim := { program := "ytgpkmepalmdmeaa", sum := "7216780ceb931edc8f2e1c6241f1748cc0ed1404121abd5b40f33a122e580350", func := "forkhead/forkheadlaw12.AncestryMeets", spec := "ancestryMeets", plainKeys := false, apart := false }
def AncestryMeetsSaid : Prop := ancestryMeetsRow.holds Try.pinned (OpenSpec.ofChange ancestryMeetsSpec)

/-- ITS FALSE NEIGHBOUR: 'it returns false'. Refute it at one input. -/
def ancestryMeetsWrong : ChangeSpec := { name := "ancestryMeets", fn := fun _ => fun
  | [d1, d2, d3] => { results := [.lit (.bool false)], args := [d1, d2, d3] }
  | _ => none }
def AncestryMeetsWrongFalsely : Prop := ancestryMeetsRow.holds Try.pinned (OpenSpec.ofChange ancestryMeetsWrong)

/-- 'forkheadlaw11.BlocktreeFull': WHATEVER THE INPUT: true; the input reads as it did. -/
def blocktreeFullSpec : ChangeSpec := { name := "blocktreeFull", fn := fun _ => fun
  | [d] => { results := [.lit (.bool true)], args := [d] }
  | _ => none }
def blocktreeFullRow : OpenClaim := { program := "ytgpkmepalmdmeaa", sum := "7216780ceb931edc8f2e1c6241f1748cc0ed1404121abd5b40f33a122e580350", func := "forkhead/forkheadlaw11.BlocktreeFull", spec := "blocktreeFull", unfollowed := true, recurses := true, plainKeys := false, apart := false }
def BlocktreeFullSaid : Prop := blocktreeFullRow.holds Try.pinned (OpenSpec.ofChange blocktreeFullSpec)

/-- ITS FALSE NEIGHBOUR: 'it returns false'. Refute it at one input. -/
def blocktreeFullWrong : ChangeSpec := { name := "blocktreeFull", fn := fun _ => fun
  | [d] => { results := [.lit (.bool false)], args := [d] }
  | _ => none }
def BlocktreeFullWrongFalsely : Prop := blocktreeFullRow.holds Try.pinned (OpenSpec.ofChange blocktreeFullWrong)

/-- 'forkheadlaw11.BlocktreeLooks': WHATEVER THE INPUT: true; the input reads as it did. -/
def blocktreeLooksSpec : ChangeSpec := { name := "blocktreeLooks", fn := fun _ => fun
  | [d1, d2, d3, d4] => { results := [.lit (.bool true)], args := [d1, d2, d3, d4] }
  | _ => none }
def blocktreeLooksRow : OpenClaim := { program := "ytgpkmepalmdmeaa", sum := "7216780ceb931edc8f2e1c6241f1748cc0ed1404121abd5b40f33a122e580350", func := "forkhead/forkheadlaw11.BlocktreeLooks", spec := "blocktreeLooks", unfollowed := true, recurses := true, plainKeys := false, apart := false }
def BlocktreeLooksSaid : Prop := blocktreeLooksRow.holds Try.pinned (OpenSpec.ofChange blocktreeLooksSpec)

/-- ITS FALSE NEIGHBOUR: 'it returns false'. Refute it at one input. -/
def blocktreeLooksWrong : ChangeSpec := { name := "blocktreeLooks", fn := fun _ => fun
  | [d1, d2, d3, d4] => { results := [.lit (.bool false)], args := [d1, d2, d3, d4] }
  | _ => none }
def BlocktreeLooksWrongFalsely : Prop := blocktreeLooksRow.holds Try.pinned (OpenSpec.ofChange blocktreeLooksWrong)

/-- 'forkheadlaw11.BlocktreeFamilies': WHATEVER THE INPUT: true; the input reads as it did. -/
def blocktreeFamiliesSpec : ChangeSpec := { name := "blocktreeFamilies", fn := fun _ => fun
  | [d] => { results := [.lit (.bool true)], args := [d] }
  | _ => none }
def blocktreeFamiliesRow : OpenClaim := { program := "ytgpkmepalmdmeaa", sum := "7216780ceb931edc8f2e1c6241f1748cc0ed1404121abd5b40f33a122e580350", func := "forkhead/forkheadlaw11.BlocktreeFamilies", spec := "blocktreeFamilies", unfollowed := true, recurses := true, plainKeys := false, apart := false }
def BlocktreeFamiliesSaid : Prop := blocktreeFamiliesRow.holds Try.pinned (OpenSpec.ofChange blocktreeFamiliesSpec)

/-- ITS FALSE NEIGHBOUR: 'it returns false'. Refute it at one input. -/
def blocktreeFamiliesWrong : ChangeSpec := { name := "blocktreeFamilies", fn := fun _ => fun
  | [d] => { results := [.lit (.bool false)], args := [d] }
  | _ => none }
def BlocktreeFamiliesWrongFalsely : Prop := blocktreeFamiliesRow.holds Try.pinned (OpenSpec.ofChange blocktreeFamiliesWrong)

/-- 'forkheadlaw11.BlocktreeValid': WHATEVER THE INPUT: true; the input reads as it did. -/
def blocktreeValidSpec : ChangeSpec := { name := "blocktreeValid", fn := fun _ => fun
  | [d] => { results := [.lit (.bool true)], args := [d] }
  | _ => none }
def blocktreeValidRow : OpenClaim := { program := "ytgpkmepalmdmeaa", sum := "7216780ceb931edc8f2e1c6241f1748cc0ed1404121abd5b40f33a122e580350", func := "forkhead/forkheadlaw11.BlocktreeValid", spec := "blocktreeValid", unfollowed := true, recurses := true, plainKeys := false, apart := false }
def BlocktreeValidSaid : Prop := blocktreeValidRow.holds Try.pinned (OpenSpec.ofChange blocktreeValidSpec)

/-- ITS FALSE NEIGHBOUR: 'it returns false'. Refute it at one input. -/
def blocktreeValidWrong : ChangeSpec := { name := "blocktreeValid", fn := fun _ => fun
  | [d] => { results := [.lit (.bool false)], args := [d] }
  | _ => none }
def BlocktreeValidWrongFalsely : Prop := blocktreeValidRow.holds Try.pinned (OpenSpec.ofChange blocktreeValidWrong)

/-- 'forkheadlaw11.BlocktreeSpoilt': WHATEVER THE INPUT: true; the input reads as it did. -/
def blocktreeSpoiltSpec : ChangeSpec := { name := "blocktreeSpoilt", fn := fun _ => fun
  | [d1, d2, d3, d4] => { results := [.lit (.bool true)], args := [d1, d2, d3, d4] }
  | _ => none }
def blocktreeSpoiltRow : OpenClaim := { program := "ytgpkmepalmdmeaa", sum := "7216780ceb931edc8f2e1c6241f1748cc0ed1404121abd5b40f33a122e580350", func := "forkhead/forkheadlaw11.BlocktreeSpoilt", spec := "blocktreeSpoilt", unfollowed := true, recurses := true, plainKeys := false, apart := false }
def BlocktreeSpoiltSaid : Prop := blocktreeSpoiltRow.holds Try.pinned (OpenSpec.ofChange blocktreeSpoiltSpec)

/-- ITS FALSE NEIGHBOUR: 'it returns false'. Refute it at one input. -/
def blocktreeSpoiltWrong : ChangeSpec := { name := "blocktreeSpoilt", fn := fun _ => fun
  | [d1, d2, d3, d4] => { results := [.lit (.bool false)], args := [d1, d2, d3, d4] }
  | _ => none }
def BlocktreeSpoiltWrongFalsely : Prop := blocktreeSpoiltRow.holds Try.pinned (OpenSpec.ofChange blocktreeSpoiltWrong)

/-- 'forkheadlaw11.BlocktreeInserts': WHATEVER THE INPUT: true; the input reads as it did. -/
def blocktreeInsertsSpec : ChangeSpec := { name := "blocktreeInserts", fn := fun _ => fun
  | [d1, d2, d3, d4] => { results := [.lit (.bool true)], args := [d1, d2, d3, d4] }
  | _ => none }
def blocktreeInsertsRow : OpenClaim := { program := "ytgpkmepalmdmeaa", sum := "7216780ceb931edc8f2e1c6241f1748cc0ed1404121abd5b40f33a122e580350", func := "forkhead/forkheadlaw11.BlocktreeInserts", spec := "blocktreeInserts", unfollowed := true, recurses := true, plainKeys := false, apart := false }
def BlocktreeInsertsSaid : Prop := blocktreeInsertsRow.holds Try.pinned (OpenSpec.ofChange blocktreeInsertsSpec)

/-- ITS FALSE NEIGHBOUR: 'it returns false'. Refute it at one input. -/
def blocktreeInsertsWrong : ChangeSpec := { name := "blocktreeInserts", fn := fun _ => fun
  | [d1, d2, d3, d4] => { results := [.lit (.bool false)], args := [d1, d2, d3, d4] }
  | _ => none }
def BlocktreeInsertsWrongFalsely : Prop := blocktreeInsertsRow.holds Try.pinned (OpenSpec.ofChange blocktreeInsertsWrong)

/-- 'forkheadlaw16.StatusValid': WHATEVER THE INPUT: true; the input reads as it did. -/
def statusValidSpec : ChangeSpec := { name := "statusValid", fn := fun _ => fun
  | [d1, d2, d3] => { results := [.lit (.bool true)], args := [d1, d2, d3] }
  | _ => none }
def statusValidRow : OpenClaim := { program := "ytgpkmepalmdmeaa", sum := "7216780ceb931edc8f2e1c6241f1748cc0ed1404121abd5b40f33a122e580350", func := "forkhead/forkheadlaw16.StatusValid", spec := "statusValid", plainKeys := false, apart := false }
def StatusValidSaid : Prop := statusValidRow.holds Try.pinned (OpenSpec.ofChange statusValidSpec)

/-- ITS FALSE NEIGHBOUR: 'it returns false'. Refute it at one input. -/
def statusValidWrong : ChangeSpec := { name := "statusValid", fn := fun _ => fun
  | [d1, d2, d3] => { results := [.lit (.bool false)], args := [d1, d2, d3] }
  | _ => none }
def StatusValidWrongFalsely : Prop := statusValidRow.holds Try.pinned (OpenSpec.ofChange statusValidWrong)

/-- 'forkheadlaw16.StatusAny': WHATEVER THE INPUT: true; the input reads as it did. -/
def statusAnySpec : ChangeSpec := { name := "statusAny", fn := fun _ => fun
  | [d] => { results := [.lit (.bool true)], args := [d] }
  | _ => none }
def statusAnyRow : OpenClaim := { program := "ytgpkmepalmdmeaa", sum := "7216780ceb931edc8f2e1c6241f1748cc0ed1404121abd5b40f33a122e580350", func := "forkhead/forkheadlaw16.StatusAny", spec := "statusAny", plainKeys := false, apart := false }
def StatusAnySaid : Prop := statusAnyRow.holds Try.pinned (OpenSpec.ofChange statusAnySpec)

/-- ITS FALSE NEIGHBOUR: 'it returns false'. Refute it at one input. -/
def statusAnyWrong : ChangeSpec := { name := "statusAny", fn := fun _ => fun
  | [d] => { results := [.lit (.bool false)], args := [d] }
  | _ => none }
def StatusAnyWrongFalsely : Prop := statusAnyRow.holds Try.pinned (OpenSpec.ofChange statusAnyWrong)

/-- 'forkheadlaw16.StatusChanges': WHATEVER THE INPUT: true; the input reads as it did. -/
def statusChangesSpec : ChangeSpec := { name := "statusChanges", fn := fun _ => fun
  | [d1, d2] => { results := [.lit (.bool true)], args := [d1, d2] }
  | _ => none }
def statusChangesRow : OpenClaim := { program := "ytgpkmepalmdmeaa", sum := "7216780ceb931edc8f2e1c6241f1748cc0ed1404121abd5b40f33a122e580350", func := "forkhead/forkheadlaw16.StatusChanges", spec := "statusChanges", recurses := true, plainKeys := false, apart := false }
def StatusChangesSaid : Prop := statusChangesRow.holds Try.pinned (OpenSpec.ofChange statusChangesSpec)

/-- ITS FALSE NEIGHBOUR: 'it returns false'. Refute it at one input. -/
def statusChangesWrong : ChangeSpec := { name := "statusChanges", fn := fun _ => fun
  | [d1, d2] => { results := [.lit (.bool false)], args := [d1, d2] }
  | _ => none }
def StatusChangesWrongFalsely : Prop := statusChangesRow.holds Try.pinned (OpenSpec.ofChange statusChangesWrong)

/-- 'forkheadlaw16.StatusClosed': WHATEVER THE INPUT: true; the input reads as it did. -/
def statusClosedSpec : ChangeSpec := { name := "statusClosed", fn := fun _ => fun
  | [d1, d2] => { results := [.lit (.bool true)], args := [d1, d2] }
  | _ => none }
def statusClosedRow : OpenClaim := { program := "ytgpkmepalmdmeaa", sum := "7216780ceb931edc8f2e1c6241f1748cc0ed1404121abd5b40f33a122e580350", func := "forkhead/forkheadlaw16.StatusClosed", spec := "statusClosed", plainKeys := false, apart := false }
def StatusClosedSaid : Prop := statusClosedRow.holds Try.pinned (OpenSpec.ofChange statusClosedSpec)

/-- ITS FALSE NEIGHBOUR: 'it returns false'. Refute it at one input. -/
def statusClosedWrong : ChangeSpec := { name := "statusClosed", fn := fun _ => fun
  | [d1, d2] => { results := [.lit (.bool false)], args := [d1, d2] }
  | _ => none }
def StatusClosedWrongFalsely : Prop := statusClosedRow.holds Try.pinned (OpenSpec.ofChange statusClosedWrong)

/-- 'forkheadlaw16.StatusMeets': WHATEVER THE INPUT: true; the input reads as it did. -/
def statusMeetsSpec : ChangeSpec := { name := "statusMeets", fn := fun _ => fun
  | [d1, d2, d3] => { results := [.lit (.bool true)], args := [d1, d2, d3] }
  | _ => none }
def statusMeetsRow : OpenClaim := { program := "ytgpkmepalmdmeaa", sum := "7216780ceb931edc8f2e1c6241f1748cc0ed1404121abd5b40f33a122e580350", func := "forkhead/forkheadlaw16.StatusMeets", spec := "statusMeets", recurses := true, plainKeys := false, apart := false }
def StatusMeetsSaid : Prop := statusMeetsRow.holds Try.pinned (OpenSpec.ofChange statusMeetsSpec)

/-- ITS FALSE NEIGHBOUR: 'it returns false'. Refute it at one input. -/
def statusMeetsWrong : ChangeSpec := { name := "statusMeets", fn := fun _ => fun
  | [d1, d2, d3] => { results := [.lit (.bool false)], args := [d1, d2, d3] }
  | _ => none }
def StatusMeetsWrongFalsely : Prop := statusMeetsRow.holds Try.pinned (OpenSpec.ofChange statusMeetsWrong)

/-- 'forkheadlaw17.VerdictReaches': WHATEVER THE INPUT: true; the input reads as it did. -/
def verdictReachesSpec : ChangeSpec := { name := "verdictReaches", fn := fun _ => fun
  | [d1, d2, d3] => { results := [.lit (.bool true)], args := [d1, d2, d3] }
  | _ => none }
def verdictReachesRow : OpenClaim := { program := "ytgpkmepalmdmeaa", sum := "7216780ceb931edc8f2e1c6241f1748cc0ed1404121abd5b40f33a122e580350", func := "forkhead/forkheadlaw17.VerdictReaches", spec := "verdictReaches", recurses := true, plainKeys := false, apart := false }
def VerdictReachesSaid : Prop := verdictReachesRow.holds Try.pinned (OpenSpec.ofChange verdictReachesSpec)

/-- ITS FALSE NEIGHBOUR: 'it returns false'. Refute it at one input. -/
def verdictReachesWrong : ChangeSpec := { name := "verdictReaches", fn := fun _ => fun
  | [d1, d2, d3] => { results := [.lit (.bool false)], args := [d1, d2, d3] }
  | _ => none }
def VerdictReachesWrongFalsely : Prop := verdictReachesRow.holds Try.pinned (OpenSpec.ofChange verdictReachesWrong)

/-- 'forkheadlaw17.VerdictJudges': WHATEVER THE INPUT: true; the input reads as it did. -/
def verdictJudgesSpec : ChangeSpec := { name := "verdictJudges", fn := fun _ => fun
  | [d1, d2, d3] => { results := [.lit (.bool true)], args := [d1, d2, d3] }
  | _ => none }
def verdictJudgesRow : OpenClaim := { program := "ytgpkmepalmdmeaa", sum := "7216780ceb931edc8f2e1c6241f1748cc0ed1404121abd5b40f33a122e580350", func := "forkhead/forkheadlaw17.VerdictJudges", spec := "verdictJudges", recurses := true, plainKeys := false, apart := false }
def VerdictJudgesSaid : Prop := verdictJudgesRow.holds Try.pinned (OpenSpec.ofChange verdictJudgesSpec)

/-- ITS FALSE NEIGHBOUR: 'it returns false'. Refute it at one input. -/
def verdictJudgesWrong : ChangeSpec := { name := "verdictJudges", fn := fun _ => fun
  | [d1, d2, d3] => { results := [.lit (.bool false)], args := [d1, d2, d3] }
  | _ => none }
def VerdictJudgesWrongFalsely : Prop := verdictJudgesRow.holds Try.pinned (OpenSpec.ofChange verdictJudgesWrong)

/-- 'forkheadlaw17.VerdictRepeats': WHATEVER THE INPUT: true; the input reads as it did. -/
def verdictRepeatsSpec : ChangeSpec := { name := "verdictRepeats", fn := fun _ => fun
  | [d1, d2, d3] => { results := [.lit (.bool true)], args := [d1, d2, d3] }
  | _ => none }
def verdictRepeatsRow : OpenClaim := { program := "ytgpkmepalmdmeaa", sum := "7216780ceb931edc8f2e1c6241f1748cc0ed1404121abd5b40f33a122e580350", func := "forkhead/forkheadlaw17.VerdictRepeats", spec := "verdictRepeats", plainKeys := false, apart := false }
def VerdictRepeatsSaid : Prop := verdictRepeatsRow.holds Try.pinned (OpenSpec.ofChange verdictRepeatsSpec)

/-- ITS FALSE NEIGHBOUR: 'it returns false'. Refute it at one input. -/
def verdictRepeatsWrong : ChangeSpec := { name := "verdictRepeats", fn := fun _ => fun
  | [d1, d2, d3] => { results := [.lit (.bool false)], args := [d1, d2, d3] }
  | _ => none }
def VerdictRepeatsWrongFalsely : Prop := verdictRepeatsRow.holds Try.pinned (OpenSpec.ofChange verdictRepeatsWrong)

/-- 'forkheadlaw17.VerdictPath': WHATEVER THE INPUT: true; the input reads as it did. -/
def verdictPathSpec : ChangeSpec := { name := "verdictPath", fn := fun _ => fun
  | [d1, d2, d3] => { results := [.lit (.bool true)], args := [d1, d2, d3] }
  | _ => none }
def verdictPathRow : OpenClaim := { program := "ytgpkmepalmdmeaa", sum := "7216780ceb931edc8f2e1c6241f1748cc0ed1404121abd5b40f33a122e580350", func := "forkhead/forkheadlaw17.VerdictPath", spec := "verdictPath", recurses := true, plainKeys := false, apart := false }
def VerdictPathSaid : Prop := verdictPathRow.holds Try.pinned (OpenSpec.ofChange verdictPathSpec)

/-- ITS FALSE NEIGHBOUR: 'it returns false'. Refute it at one input. -/
def verdictPathWrong : ChangeSpec := { name := "verdictPath", fn := fun _ => fun
  | [d1, d2, d3] => { results := [.lit (.bool false)], args := [d1, d2, d3] }
  | _ => none }
def VerdictPathWrongFalsely : Prop := verdictPathRow.holds Try.pinned (OpenSpec.ofChange verdictPathWrong)

/-- 'forkheadlaw16.StatusCounts': WHATEVER THE INPUT: true; the input reads as it did. -/
def statusCountsSpec : ChangeSpec := { name := "statusCounts", fn := fun _ => fun
  | [d1, d2] => { results := [.lit (.bool true)], args := [d1, d2] }
  | _ => none }
def statusCountsRow : OpenClaim := { program := "ytgpkmepalmdmeaa", sum := "7216780ceb931edc8f2e1c6241f1748cc0ed1404121abd5b40f33a122e580350", func := "forkhead/forkheadlaw16.StatusCounts", spec := "statusCounts", plainKeys := false, apart := false }
def StatusCountsSaid : Prop := statusCountsRow.holds Try.pinned (OpenSpec.ofChange statusCountsSpec)

/-- ITS FALSE NEIGHBOUR: 'it returns false'. Refute it at one input. -/
def statusCountsWrong : ChangeSpec := { name := "statusCounts", fn := fun _ => fun
  | [d1, d2] => { results := [.lit (.bool false)], args := [d1, d2] }
  | _ => none }
def StatusCountsWrongFalsely : Prop := statusCountsRow.holds Try.pinned (OpenSpec.ofChange statusCountsWrong)

/-- 'forkheadlaw17.VerdictKeeps': WHATEVER THE INPUT: true; the input reads as it did. -/
def verdictKeepsSpec : ChangeSpec := { name := "verdictKeeps", fn := fun _ => fun
  | [d1, d2, d3] => { results := [.lit (.bool true)], args := [d1, d2, d3] }
  | _ => none }
def verdictKeepsRow : OpenClaim := { program := "ytgpkmepalmdmeaa", sum := "7216780ceb931edc8f2e1c6241f1748cc0ed1404121abd5b40f33a122e580350", func := "forkhead/forkheadlaw17.VerdictKeeps", spec := "verdictKeeps", plainKeys := false, apart := false }
def VerdictKeepsSaid : Prop := verdictKeepsRow.holds Try.pinned (OpenSpec.ofChange verdictKeepsSpec)

/-- ITS FALSE NEIGHBOUR: 'it returns false'. Refute it at one input. -/
def verdictKeepsWrong : ChangeSpec := { name := "verdictKeeps", fn := fun _ => fun
  | [d1, d2, d3] => { results := [.lit (.bool false)], args := [d1, d2, d3] }
  | _ => none }
def VerdictKeepsWrongFalsely : Prop := verdictKeepsRow.holds Try.pinned (OpenSpec.ofChange verdictKeepsWrong)

/- THE SECOND FORM. 'bulk': how many values and letters a reading holds, each counted each time it is reached (what is shared counts as often as it is met; a slice's spare places count too). A statement '..UptoSaid' is the law's where the arguments, and the package variables that the reading takes, are together of bulk at most 1048576: NARROWER than '..Said'. Prove '..Said' where nothing that the law and all that it calls make is longer than what came in: it says more and counts as full. Else prove '..UptoSaid'. A law counts once. -/
mutual
def uptoBulk {H : Type} : DataW H → Nat
  | .lit (.string bytes) => bytes.length + 1
  | .lit _ => 1
  | .nil => 1
  | .ptr d => uptoBulk d + 1
  | .slice elems spare => uptoBulkAll elems + uptoBulkAll spare + 1
  | .agg parts => uptoBulkAll parts + 1
  | .iface _ d => uptoBulk d + 1
  | .map entries => uptoBulkEntries entries + 1
  | .held _ => 1
def uptoBulkAll {H : Type} : List (DataW H) → Nat
  | [] => 0
  | d :: r => uptoBulk d + uptoBulkAll r
def uptoBulkEntries {H : Type} : List (Lit × DataW H) → Nat
  | [] => 0
  | x :: r => uptoBulkEntry x + uptoBulkEntries r
def uptoBulkEntry {H : Type} : Lit × DataW H → Nat
  | (.string bytes, d) => bytes.length + uptoBulk d + 1
  | (_, d) => uptoBulk d + 1
 end
def uptoSmall : (H : Type) → List (DataW H) → Bool := fun _ ds => decide (uptoBulkAll ds ≤ 1048576)
def OpenSpec.upto (s : _root_.Go.ChangeSpec) : _root_.Go.OpenSpec := { _root_.Go.OpenSpec.ofChange s with cond := some uptoSmall }

/-- 'forkheadlaw22.PruningExact', WHERE WHAT IT READS IS OF BULK AT MOST 1048576: true; the input reads as it did. -/
def pruningExactUptoRow : OpenClaim := { program := "ytgpkmepalmdmeaa", sum := "7216780ceb931edc8f2e1c6241f1748cc0ed1404121abd5b40f33a122e580350", func := "forkhead/forkheadlaw22.PruningExact", spec := "pruningExact", recurses := true, plainKeys := false, apart := false, narrowed := true }
def PruningExactUptoSaid : Prop := pruningExactUptoRow.holds Try.pinned (OpenSpec.upto pruningExactSpec)

/-- 'forkheadlaw22.PruningTwice', WHERE WHAT IT READS IS OF BULK AT MOST 1048576: true; the input reads as it did. -/
def pruningTwiceUptoRow : OpenClaim := { program := "ytgpkmepalmdmeaa", sum := "7216780ceb931edc8f2e1c6241f1748cc0ed1404121abd5b40f33a122e580350", func := "forkhead/forkheadlaw22.PruningTwice", spec := "pruningTwice", recurses := true, plainKeys := false, apart := false, narrowed := true }
def PruningTwiceUptoSaid : Prop := pruningTwiceUptoRow.holds Try.pinned (OpenSpec.upto pruningTwiceSpec)

/-- 'forkheadlaw22.PruningWeights', WHERE WHAT IT READS IS OF BULK AT MOST 1048576: true; the input reads as it did. -/
def pruningWeightsUptoRow : OpenClaim := { program := "ytgpkmepalmdmeaa", sum := "7216780ceb931edc8f2e1c6241f1748cc0ed1404121abd5b40f33a122e580350", func := "forkhead/forkheadlaw22.PruningWeights", spec := "pruningWeights", plainKeys := false, apart := false, narrowed := true }
def PruningWeightsUptoSaid : Prop := pruningWeightsUptoRow.holds Try.pinned (OpenSpec.upto pruningWeightsSpec)

/-- 'forkheadlaw12.AncestrySlots', WHERE WHAT IT READS IS OF BULK AT MOST 1048576: true; the input reads as it did. -/
def ancestrySlotsUptoRow : OpenClaim := { program := "ytgpkmepalmdmeaa", sum := "7216780ceb931edc8f2e1c6241f1748cc0ed1404121abd5b40f33a122e580350", func := "forkhead/forkheadlaw12.AncestrySlots", spec := "ancestrySlots", recurses := true, plainKeys := false, apart := false, narrowed := true }
def AncestrySlotsUptoSaid : Prop := ancestrySlotsUptoRow.holds Try.pinned (OpenSpec.upto ancestrySlotsSpec)

/-- 'forkheadlaw12.AncestryLater', WHERE WHAT IT READS IS OF BULK AT MOST 1048576: true; the input reads as it did. -/
def ancestryLaterUptoRow : OpenClaim := { program := "ytgpkmepalmdmeaa", sum := "7216780ceb931edc8f2e1c6241f1748cc0ed1404121abd5b40f33a122e580350", func := "forkhead/forkheadlaw12.AncestryLater", spec := "ancestryLater", plainKeys := false, apart := false, narrowed := true }
def AncestryLaterUptoSaid : Prop := ancestryLaterUptoRow.holds Try.pinned (OpenSpec.upto ancestryLaterSpec)

/-- 'forkheadlaw12.AncestryPaths', WHERE WHAT IT READS IS OF BULK AT MOST 1048576: true; the input reads as it did. -/
def ancestryPathsUptoRow : OpenClaim := { program := "ytgpkmepalmdmeaa", sum := "7216780ceb931edc8f2e1c6241f1748cc0ed1404121abd5b40f33a122e580350", func := "forkhead/forkheadlaw12.AncestryPaths", spec := "ancestryPaths", recurses := true, plainKeys := false, apart := false, narrowed := true }
def AncestryPathsUptoSaid : Prop := ancestryPathsUptoRow.holds Try.pinned (OpenSpec.upto ancestryPathsSpec)

/-- 'forkheadlaw12.AncestryOrder', WHERE WHAT IT READS IS OF BULK AT MOST 1048576: true; the input reads as it did. -/
def ancestryOrderUptoRow : OpenClaim := { program := "ytgpkmepalmdmeaa", sum := "7216780ceb931edc8f2e1c6241f1748cc0ed1404121abd5b40f33a122e580350", func := "forkhead/forkheadlaw12.AncestryOrder", spec := "ancestryOrder", plainKeys := false, apart := false, narrowed := true }
def AncestryOrderUptoSaid : Prop := ancestryOrderUptoRow.holds Try.pinned (OpenSpec.upto ancestryOrderSpec)

/-- 'forkheadlaw22.PruningKeeps', WHERE WHAT IT READS IS OF BULK AT MOST 1048576: true; the input reads as it did. -/
def pruningKeepsUptoRow : OpenClaim := { program := "ytgpkmepalmdmeaa", sum := "7216780ceb931edc8f2e1c6241f1748cc0ed1404121abd5b40f33a122e580350", func := "forkhead/forkheadlaw22.PruningKeeps", spec := "pruningKeeps", recurses := true, plainKeys := false, apart := false, narrowed := true }
def PruningKeepsUptoSaid : Prop := pruningKeepsUptoRow.holds Try.pinned (OpenSpec.upto pruningKeepsSpec)

/-- 'forkheadlaw12.AncestryCommon', WHERE WHAT IT READS IS OF BULK AT MOST 1048576: true; the input reads as it did. -/
def ancestryCommonUptoRow : OpenClaim := { program := "ytgpkmepalmdmeaa", sum := "7216780ceb931edc8f2e1c6241f1748cc0ed1404121abd5b40f33a122e580350", func := "forkhead/forkheadlaw12.AncestryCommon", spec := "ancestryCommon", recurses := true, plainKeys := false, apart := false, narrowed := true }
def AncestryCommonUptoSaid : Prop := ancestryCommonUptoRow.holds Try.pinned (OpenSpec.upto ancestryCommonSpec)

/-- 'forkheadlaw12.AncestryMeets', WHERE WHAT IT READS IS OF BULK AT MOST 1048576: true; the input reads as it did. -/
def ancestryMeetsUptoRow : OpenClaim := { program := "ytgpkmepalmdmeaa", sum := "7216780ceb931edc8f2e1c6241f1748cc0ed1404121abd5b40f33a122e580350", func := "forkhead/forkheadlaw12.AncestryMeets", spec := "ancestryMeets", plainKeys := false, apart := false, narrowed := true }
def AncestryMeetsUptoSaid : Prop := ancestryMeetsUptoRow.holds Try.pinned (OpenSpec.upto ancestryMeetsSpec)

/-- 'forkheadlaw11.BlocktreeFull', WHERE WHAT IT READS IS OF BULK AT MOST 1048576: true; the input reads as it did. -/
def blocktreeFullUptoRow : OpenClaim := { program := "ytgpkmepalmdmeaa", sum := "7216780ceb931edc8f2e1c6241f1748cc0ed1404121abd5b40f33a122e580350", func := "forkhead/forkheadlaw11.BlocktreeFull", spec := "blocktreeFull", unfollowed := true, recurses := true, plainKeys := false, apart := false, narrowed := true }
def BlocktreeFullUptoSaid : Prop := blocktreeFullUptoRow.holds Try.pinned (OpenSpec.upto blocktreeFullSpec)

/-- 'forkheadlaw11.BlocktreeLooks', WHERE WHAT IT READS IS OF BULK AT MOST 1048576: true; the input reads as it did. -/
def blocktreeLooksUptoRow : OpenClaim := { program := "ytgpkmepalmdmeaa", sum := "7216780ceb931edc8f2e1c6241f1748cc0ed1404121abd5b40f33a122e580350", func := "forkhead/forkheadlaw11.BlocktreeLooks", spec := "blocktreeLooks", unfollowed := true, recurses := true, plainKeys := false, apart := false, narrowed := true }
def BlocktreeLooksUptoSaid : Prop := blocktreeLooksUptoRow.holds Try.pinned (OpenSpec.upto blocktreeLooksSpec)

/-- 'forkheadlaw11.BlocktreeFamilies', WHERE WHAT IT READS IS OF BULK AT MOST 1048576: true; the input reads as it did. -/
def blocktreeFamiliesUptoRow : OpenClaim := { program := "ytgpkmepalmdmeaa", sum := "7216780ceb931edc8f2e1c6241f1748cc0ed1404121abd5b40f33a122e580350", func := "forkhead/forkheadlaw11.BlocktreeFamilies", spec := "blocktreeFamilies", unfollowed := true, recurses := true, plainKeys := false, apart := false, narrowed := true }
def BlocktreeFamiliesUptoSaid : Prop := blocktreeFamiliesUptoRow.holds Try.pinned (OpenSpec.upto blocktreeFamiliesSpec)

/-- 'forkheadlaw11.BlocktreeValid', WHERE WHAT IT READS IS OF BULK AT MOST 1048576: true; the input reads as it did. -/
def blocktreeValidUptoRow : OpenClaim := { program := "ytgpkmepalmdmeaa", sum := "7216780ceb931edc8f2e1c6241f1748cc0ed1404121abd5b40f33a122e580350", func := "forkhead/forkheadlaw11.BlocktreeValid", spec := "blocktreeValid", unfollowed := true, recurses := true, plainKeys := false, apart := false, narrowed := true }
def BlocktreeValidUptoSaid : Prop := blocktreeValidUptoRow.holds Try.pinned (OpenSpec.upto blocktreeValidSpec)

/-- 'forkheadlaw11.BlocktreeSpoilt', WHERE WHAT IT READS IS OF BULK AT MOST 1048576: true; the input reads as it did. -/
def blocktreeSpoiltUptoRow : OpenClaim := { program := "ytgpkmepalmdmeaa", sum := "7216780ceb931edc8f2e1c6241f1748cc0ed1404121abd5b40f33a122e580350", func := "forkhead/forkheadlaw11.BlocktreeSpoilt", spec := "blocktreeSpoilt", unfollowed := true, recurses := true, plainKeys := false, apart := false, narrowed := true }
def BlocktreeSpoiltUptoSaid : Prop := blocktreeSpoiltUptoRow.holds Try.pinned (OpenSpec.upto blocktreeSpoiltSpec)

/-- 'forkheadlaw11.BlocktreeInserts', WHERE WHAT IT READS IS OF BULK AT MOST 1048576: true; the input reads as it did. -/
def blocktreeInsertsUptoRow : OpenClaim := { program := "ytgpkmepalmdmeaa", sum := "7216780ceb931edc8f2e1c6241f1748cc0ed1404121abd5b40f33a122e580350", func := "forkhead/forkheadlaw11.BlocktreeInserts", spec := "blocktreeInserts", unfollowed := true, recurses := true, plainKeys := false, apart := false, narrowed := true }
def BlocktreeInsertsUptoSaid : Prop := blocktreeInsertsUptoRow.holds Try.pinned (OpenSpec.upto blocktreeInsertsSpec)

/-- 'forkheadlaw16.StatusValid', WHERE WHAT IT READS IS OF BULK AT MOST 1048576: true; the input reads as it did. -/
def statusValidUptoRow : OpenClaim := { program := "ytgpkmepalmdmeaa", sum := "7216780ceb931edc8f2e1c6241f1748cc0ed1404121abd5b40f33a122e580350", func := "forkhead/forkheadlaw16.StatusValid", spec := "statusValid", plainKeys := false, apart := false, narrowed := true }
def StatusValidUptoSaid : Prop := statusValidUptoRow.holds Try.pinned (OpenSpec.upto statusValidSpec)

/-- 'forkheadlaw16.StatusAny', WHERE WHAT IT READS IS OF BULK AT MOST 1048576: true; the input reads as it did. -/
def statusAnyUptoRow : OpenClaim := { program := "ytgpkmepalmdmeaa", sum := "7216780ceb931edc8f2e1c6241f1748cc0ed1404121abd5b40f33a122e580350", func := "forkhead/forkheadlaw16.StatusAny", spec := "statusAny", plainKeys := false, apart := false, narrowed := true }
def StatusAnyUptoSaid : Prop := statusAnyUptoRow.holds Try.pinned (OpenSpec.upto statusAnySpec)

/-- 'forkheadlaw16.StatusChanges', WHERE WHAT IT READS IS OF BULK AT MOST 1048576: true; the input reads as it did. -/
def statusChangesUptoRow : OpenClaim := { program := "ytgpkmepalmdmeaa", sum := "7216780ceb931edc8f2e1c6241f1748cc0ed1404121abd5b40f33a122e580350", func := "forkhead/forkheadlaw16.StatusChanges", spec := "statusChanges", recurses := true, plainKeys := false, apart := false, narrowed := true }
def StatusChangesUptoSaid : Prop := statusChangesUptoRow.holds Try.pinned (OpenSpec.upto statusChangesSpec)

/-- 'forkheadlaw16.StatusClosed', WHERE WHAT IT READS IS OF BULK AT MOST 1048576: true; the input reads as it did. -/
def statusClosedUptoRow : OpenClaim := { program := "ytgpkmepalmdmeaa", sum := "7216780ceb931edc8f2e1c6241f1748cc0ed1404121abd5b40f33a122e580350", func := "forkhead/forkheadlaw16.StatusClosed", spec := "statusClosed", plainKeys := false, apart := false, narrowed := true }
def StatusClosedUptoSaid : Prop := statusClosedUptoRow.holds Try.pinned (OpenSpec.upto statusClosedSpec)

/-- 'forkheadlaw16.StatusMeets', WHERE WHAT IT READS IS OF BULK AT MOST 1048576: true; the input reads as it did. -/
def statusMeetsUptoRow : OpenClaim := { program := "ytgpkmepalmdmeaa", sum := "7216780ceb931edc8f2e1c6241f1748cc0ed1404121abd5b40f33a122e580350", func := "forkhead/forkheadlaw16.StatusMeets", spec := "statusMeets", recurses := true, plainKeys := false, apart := false, narrowed := true }
def StatusMeetsUptoSaid : Prop := statusMeetsUptoRow.holds Try.pinned (OpenSpec.upto statusMeetsSpec)

/-- 'forkheadlaw17.VerdictReaches', WHERE WHAT IT READS IS OF BULK AT MOST 1048576: true; the input reads as it did. -/
def verdictReachesUptoRow : OpenClaim := { program := "ytgpkmepalmdmeaa", sum := "7216780ceb931edc8f2e1c6241f1748cc0ed1404121abd5b40f33a122e580350", func := "forkhead/forkheadlaw17.VerdictReaches", spec := "verdictReaches", recurses := true, plainKeys := false, apart := false, narrowed := true }
def VerdictReachesUptoSaid : Prop := verdictReachesUptoRow.holds Try.pinned (OpenSpec.upto verdictReachesSpec)

/-- 'forkheadlaw17.VerdictJudges', WHERE WHAT IT READS IS OF BULK AT MOST 1048576: true; the input reads as it did. -/
def verdictJudgesUptoRow : OpenClaim := { program := "ytgpkmepalmdmeaa", sum := "7216780ceb931edc8f2e1c6241f1748cc0ed1404121abd5b40f33a122e580350", func := "forkhead/forkheadlaw17.VerdictJudges", spec := "verdictJudges", recurses := true, plainKeys := false, apart := false, narrowed := true }
def VerdictJudgesUptoSaid : Prop := verdictJudgesUptoRow.holds Try.pinned (OpenSpec.upto verdictJudgesSpec)

/-- 'forkheadlaw17.VerdictRepeats', WHERE WHAT IT READS IS OF BULK AT MOST 1048576: true; the input reads as it did. -/
def verdictRepeatsUptoRow : OpenClaim := { program := "ytgpkmepalmdmeaa", sum := "7216780ceb931edc8f2e1c6241f1748cc0ed1404121abd5b40f33a122e580350", func := "forkhead/forkheadlaw17.VerdictRepeats", spec := "verdictRepeats", plainKeys := false, apart := false, narrowed := true }
def VerdictRepeatsUptoSaid : Prop := verdictRepeatsUptoRow.holds Try.pinned (OpenSpec.upto verdictRepeatsSpec)

/-- 'forkheadlaw17.VerdictPath', WHERE WHAT IT READS IS OF BULK AT MOST 1048576: true; the input reads as it did. -/
def verdictPathUptoRow : OpenClaim := { program := "ytgpkmepalmdmeaa", sum := "7216780ceb931edc8f2e1c6241f1748cc0ed1404121abd5b40f33a122e580350", func := "forkhead/forkheadlaw17.VerdictPath", spec := "verdictPath", recurses := true, plainKeys := false, apart := false, narrowed := true }
def VerdictPathUptoSaid : Prop := verdictPathUptoRow.holds Try.pinned (OpenSpec.upto verdictPathSpec)

/-- 'forkheadlaw16.StatusCounts', WHERE WHAT IT READS IS OF BULK AT MOST 1048576: true; the input reads as it did. -/
def statusCountsUptoRow : OpenClaim := { program := "ytgpkmepalmdmeaa", sum := "7216780ceb931edc8f2e1c6241f1748cc0ed1404121abd5b40f33a122e580350", func := "forkhead/forkheadlaw16.StatusCounts", spec := "statusCounts", plainKeys := false, apart := false, narrowed := true }
def StatusCountsUptoSaid : Prop := statusCountsUptoRow.holds Try.pinned (OpenSpec.upto statusCountsSpec)

/-- 'forkheadlaw17.VerdictKeeps', WHERE WHAT IT READS IS OF BULK AT MOST 1048576: true; the input reads as it did. -/
def verdictKeepsUptoRow : OpenClaim := { program := "ytgpkmepalmdmeaa", sum := "7216780ceb931edc8f2e1c6241f1748cc0ed1404121abd5b40f33a122e580350", func := "forkhead/forkheadlaw17.VerdictKeeps", spec := "verdictKeeps", plainKeys := false, apart := false, narrowed := true }
def VerdictKeepsUptoSaid : Prop := verdictKeepsUptoRow.holds Try.pinned (OpenSpec.upto verdictKeepsSpec)

end Rows
end Go.Proofs.Ytgpkmepalmdmeaa
