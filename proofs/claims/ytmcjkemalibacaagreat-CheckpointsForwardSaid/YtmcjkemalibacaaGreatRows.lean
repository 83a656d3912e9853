/-
  No cell of these rows narrows 'for every input' (looked for: loops, veiled, ifaces, maps, wideKeys, modest, calm, conditions, laid).
  DERIVED. THE GIVEN ROWS OF THIS SEAT. 21 by the template 'for every input the law returns true; each argument reads behind the call as it read before'; 0 by the template 'total and deterministic' (their statements: YtmcjkemalibacaaGreatTotals.lean).
  GIVEN WITH THE SEED: the statements are not yours to turn. If you find one false, say at which input.
  Laid BY PROGRAM, IN A SANDBOX (cutbox-rows.mjs): the forced cells as the released guide's own fill.sh prints them over the translation c5deb425d2944865… (all of the seat's roots in one cut). By AI agents, Wed Nov 11 2026. No macro, syntax, notation, axiom, sorry.
-/
import Derived.Test.YtmcjkemalibacaaGreatChecked
import GoSem.Claim
import GoSem.ClaimJoined
import GoSem.ClaimMapViews
import Derived.JoinedTies
import Derived.KernelRfl
namespace Go.Proofs.YtmcjkemalibacaaGreat
/- THE CELL 'sum', in the pinned program and in every row, IS THE sha256 OF THE DUMP (.gsa) THAT YtmcjkemalibacaaGreatProg.lean LOADS. Nothing in Lean hashes anything: it is a label: what it is worth is what the hold of that sum in a sandbox is worth. -/
noncomputable def Tryz.pinned : Pinned := { name := "ytmcjkemalibacaagreat", sum := "c5deb425d2944865efb13932066aaa9ad38ae456a0784ec3d66ec913f923cf2e", checked := Tryz.checked }
namespace Rows
def none {H : Type} : Left H := { results := [], args := [] }

/-- 'forkheadlaw27.RequestsMatch': WHATEVER THE INPUT: true; the input reads as it did. -/
def requestsMatchSpec : ChangeSpec := { name := "requestsMatch", fn := fun _ => fun
  | [d1, d2, d3] => { results := [.lit (.bool true)], args := [d1, d2, d3] }
  | _ => none }
def requestsMatchRow : OpenClaim := { program := "ytmcjkemalibacaagreat", sum := "c5deb425d2944865efb13932066aaa9ad38ae456a0784ec3d66ec913f923cf2e", func := "forkhead/forkheadlaw27.RequestsMatch", spec := "requestsMatch", unfollowed := true, recurses := true, apart := false }
def RequestsMatchSaid : Prop := requestsMatchRow.holds Tryz.pinned (OpenSpec.ofChange requestsMatchSpec)

/-- ITS FALSE NEIGHBOUR: 'it returns false'. Refute it at one input. -/
def requestsMatchWrong : ChangeSpec := { name := "requestsMatch", fn := fun _ => fun
  | [d1, d2, d3] => { results := [.lit (.bool false)], args := [d1, d2, d3] }
  | _ => none }
def RequestsMatchWrongFalsely : Prop := requestsMatchRow.holds Tryz.pinned (OpenSpec.ofChange requestsMatchWrong)

/-- 'forkheadlaw27.RequestsOpen': WHATEVER THE INPUT: true; the input reads as it did. -/
def requestsOpenSpec : ChangeSpec := { name := "requestsOpen", fn := fun _ => fun
  | [d1, d2] => { results := [.lit (.bool true)], args := [d1, d2] }
  | _ => none }
def requestsOpenRow : OpenClaim := { program := "ytmcjkemalibacaagreat", sum := "c5deb425d2944865efb13932066aaa9ad38ae456a0784ec3d66ec913f923cf2e", func := "forkhead/forkheadlaw27.RequestsOpen", spec := "requestsOpen", unfollowed := true, recurses := true, apart := false }
def RequestsOpenSaid : Prop := requestsOpenRow.holds Tryz.pinned (OpenSpec.ofChange requestsOpenSpec)

/-- ITS FALSE NEIGHBOUR: 'it returns false'. Refute it at one input. -/
def requestsOpenWrong : ChangeSpec := { name := "requestsOpen", fn := fun _ => fun
  | [d1, d2] => { results := [.lit (.bool false)], args := [d1, d2] }
  | _ => none }
def RequestsOpenWrongFalsely : Prop := requestsOpenRow.holds Tryz.pinned (OpenSpec.ofChange requestsOpenWrong)

/-- 'forkheadlaw27.RequestsTags': WHATEVER THE INPUT: true; the input reads as it did. -/
def requestsTagsSpec : ChangeSpec := { name := "requestsTags", fn := fun _ => fun
  | [d1, d2] => { results := [.lit (.bool true)], args := [d1, d2] }
  | _ => none }
def requestsTagsRow : OpenClaim := { program := "ytmcjkemalibacaagreat", sum := "c5deb425d2944865efb13932066aaa9ad38ae456a0784ec3d66ec913f923cf2e", func := "forkhead/forkheadlaw27.RequestsTags", spec := "requestsTags", unfollowed := true, recurses := true, apart := false }
def RequestsTagsSaid : Prop := requestsTagsRow.holds Tryz.pinned (OpenSpec.ofChange requestsTagsSpec)

/-- ITS FALSE NEIGHBOUR: 'it returns false'. Refute it at one input. -/
def requestsTagsWrong : ChangeSpec := { name := "requestsTags", fn := fun _ => fun
  | [d1, d2] => { results := [.lit (.bool false)], args := [d1, d2] }
  | _ => none }
def RequestsTagsWrongFalsely : Prop := requestsTagsRow.holds Tryz.pinned (OpenSpec.ofChange requestsTagsWrong)

/-- 'forkheadlaw27.RequestsDrop': WHATEVER THE INPUT: true; the input reads as it did. -/
def requestsDropSpec : ChangeSpec := { name := "requestsDrop", fn := fun _ => fun
  | [d1, d2] => { results := [.lit (.bool true)], args := [d1, d2] }
  | _ => none }
def requestsDropRow : OpenClaim := { program := "ytmcjkemalibacaagreat", sum := "c5deb425d2944865efb13932066aaa9ad38ae456a0784ec3d66ec913f923cf2e", func := "forkhead/forkheadlaw27.RequestsDrop", spec := "requestsDrop", unfollowed := true, recurses := true, apart := false }
def RequestsDropSaid : Prop := requestsDropRow.holds Tryz.pinned (OpenSpec.ofChange requestsDropSpec)

/-- ITS FALSE NEIGHBOUR: 'it returns false'. Refute it at one input. -/
def requestsDropWrong : ChangeSpec := { name := "requestsDrop", fn := fun _ => fun
  | [d1, d2] => { results := [.lit (.bool false)], args := [d1, d2] }
  | _ => none }
def RequestsDropWrongFalsely : Prop := requestsDropRow.holds Tryz.pinned (OpenSpec.ofChange requestsDropWrong)

/-- 'forkheadlaw25.BallotsExact': WHATEVER THE INPUT: true; the input reads as it did. -/
def ballotsExactSpec : ChangeSpec := { name := "ballotsExact", fn := fun _ => fun
  | [d1, d2] => { results := [.lit (.bool true)], args := [d1, d2] }
  | _ => none }
def ballotsExactRow : OpenClaim := { program := "ytmcjkemalibacaagreat", sum := "c5deb425d2944865efb13932066aaa9ad38ae456a0784ec3d66ec913f923cf2e", func := "forkhead/forkheadlaw25.BallotsExact", spec := "ballotsExact", unfollowed := true, recurses := true, apart := false }
def BallotsExactSaid : Prop := ballotsExactRow.holds Tryz.pinned (OpenSpec.ofChange ballotsExactSpec)

/-- ITS FALSE NEIGHBOUR: 'it returns false'. Refute it at one input. -/
def ballotsExactWrong : ChangeSpec := { name := "ballotsExact", fn := fun _ => fun
  | [d1, d2] => { results := [.lit (.bool false)], args := [d1, d2] }
  | _ => none }
def BallotsExactWrongFalsely : Prop := ballotsExactRow.holds Tryz.pinned (OpenSpec.ofChange ballotsExactWrong)

/-- 'forkheadlaw25.BallotsAny': WHATEVER THE INPUT: true; the input reads as it did. -/
def ballotsAnySpec : ChangeSpec := { name := "ballotsAny", fn := fun _ => fun
  | [d1, d2, d3] => { results := [.lit (.bool true)], args := [d1, d2, d3] }
  | _ => none }
def ballotsAnyRow : OpenClaim := { program := "ytmcjkemalibacaagreat", sum := "c5deb425d2944865efb13932066aaa9ad38ae456a0784ec3d66ec913f923cf2e", func := "forkhead/forkheadlaw25.BallotsAny", spec := "ballotsAny", unfollowed := true, recurses := true, apart := false }
def BallotsAnySaid : Prop := ballotsAnyRow.holds Tryz.pinned (OpenSpec.ofChange ballotsAnySpec)

/-- ITS FALSE NEIGHBOUR: 'it returns false'. Refute it at one input. -/
def ballotsAnyWrong : ChangeSpec := { name := "ballotsAny", fn := fun _ => fun
  | [d1, d2, d3] => { results := [.lit (.bool false)], args := [d1, d2, d3] }
  | _ => none }
def BallotsAnyWrongFalsely : Prop := ballotsAnyRow.holds Tryz.pinned (OpenSpec.ofChange ballotsAnyWrong)

/-- 'forkheadlaw25.BallotsTargets': WHATEVER THE INPUT: true; the input reads as it did. -/
def ballotsTargetsSpec : ChangeSpec := { name := "ballotsTargets", fn := fun _ => fun
  | [d1, d2] => { results := [.lit (.bool true)], args := [d1, d2] }
  | _ => none }
def ballotsTargetsRow : OpenClaim := { program := "ytmcjkemalibacaagreat", sum := "c5deb425d2944865efb13932066aaa9ad38ae456a0784ec3d66ec913f923cf2e", func := "forkhead/forkheadlaw25.BallotsTargets", spec := "ballotsTargets", unfollowed := true, recurses := true, apart := false }
def BallotsTargetsSaid : Prop := ballotsTargetsRow.holds Tryz.pinned (OpenSpec.ofChange ballotsTargetsSpec)

/-- ITS FALSE NEIGHBOUR: 'it returns false'. Refute it at one input. -/
def ballotsTargetsWrong : ChangeSpec := { name := "ballotsTargets", fn := fun _ => fun
  | [d1, d2] => { results := [.lit (.bool false)], args := [d1, d2] }
  | _ => none }
def BallotsTargetsWrongFalsely : Prop := ballotsTargetsRow.holds Tryz.pinned (OpenSpec.ofChange ballotsTargetsWrong)

/-- 'forkheadlaw25.BallotsVotes': WHATEVER THE INPUT: true; the input reads as it did. -/
def ballotsVotesSpec : ChangeSpec := { name := "ballotsVotes", fn := fun _ => fun
  | [d1, d2] => { results := [.lit (.bool true)], args := [d1, d2] }
  | _ => none }
def ballotsVotesRow : OpenClaim := { program := "ytmcjkemalibacaagreat", sum := "c5deb425d2944865efb13932066aaa9ad38ae456a0784ec3d66ec913f923cf2e", func := "forkhead/forkheadlaw25.BallotsVotes", spec := "ballotsVotes", unfollowed := true, recurses := true, apart := false }
def BallotsVotesSaid : Prop := ballotsVotesRow.holds Tryz.pinned (OpenSpec.ofChange ballotsVotesSpec)

/-- ITS FALSE NEIGHBOUR: 'it returns false'. Refute it at one input. -/
def ballotsVotesWrong : ChangeSpec := { name := "ballotsVotes", fn := fun _ => fun
  | [d1, d2] => { results := [.lit (.bool false)], args := [d1, d2] }
  | _ => none }
def BallotsVotesWrongFalsely : Prop := ballotsVotesRow.holds Tryz.pinned (OpenSpec.ofChange ballotsVotesWrong)

/-- 'forkheadlaw24.AdmissionExact': WHATEVER THE INPUT: true; the input reads as it did. -/
def admissionExactSpec : ChangeSpec := { name := "admissionExact", fn := fun _ => fun
  | [d1, d2] => { results := [.lit (.bool true)], args := [d1, d2] }
  | _ => none }
def admissionExactRow : OpenClaim := { program := "ytmcjkemalibacaagreat", sum := "c5deb425d2944865efb13932066aaa9ad38ae456a0784ec3d66ec913f923cf2e", func := "forkhead/forkheadlaw24.AdmissionExact", spec := "admissionExact", unfollowed := true, recurses := true, apart := false }
def AdmissionExactSaid : Prop := admissionExactRow.holds Tryz.pinned (OpenSpec.ofChange admissionExactSpec)

/-- ITS FALSE NEIGHBOUR: 'it returns false'. Refute it at one input. -/
def admissionExactWrong : ChangeSpec := { name := "admissionExact", fn := fun _ => fun
  | [d1, d2] => { results := [.lit (.bool false)], args := [d1, d2] }
  | _ => none }
def AdmissionExactWrongFalsely : Prop := admissionExactRow.holds Tryz.pinned (OpenSpec.ofChange admissionExactWrong)

/-- 'forkheadlaw24.AdmissionAny': WHATEVER THE INPUT: true; the input reads as it did. -/
def admissionAnySpec : ChangeSpec := { name := "admissionAny", fn := fun _ => fun
  | [d1, d2, d3] => { results := [.lit (.bool true)], args := [d1, d2, d3] }
  | _ => none }
def admissionAnyRow : OpenClaim := { program := "ytmcjkemalibacaagreat", sum := "c5deb425d2944865efb13932066aaa9ad38ae456a0784ec3d66ec913f923cf2e", func := "forkhead/forkheadlaw24.AdmissionAny", spec := "admissionAny", unfollowed := true, recurses := true, apart := false }
def AdmissionAnySaid : Prop := admissionAnyRow.holds Tryz.pinned (OpenSpec.ofChange admissionAnySpec)

/-- ITS FALSE NEIGHBOUR: 'it returns false'. Refute it at one input. -/
def admissionAnyWrong : ChangeSpec := { name := "admissionAny", fn := fun _ => fun
  | [d1, d2, d3] => { results := [.lit (.bool false)], args := [d1, d2, d3] }
  | _ => none }
def AdmissionAnyWrongFalsely : Prop := admissionAnyRow.holds Tryz.pinned (OpenSpec.ofChange admissionAnyWrong)

/-- 'forkheadlaw24.AdmissionSafe': WHATEVER THE INPUT: true; the input reads as it did. -/
def admissionSafeSpec : ChangeSpec := { name := "admissionSafe", fn := fun _ => fun
  | [d1, d2] => { results := [.lit (.bool true)], args := [d1, d2] }
  | _ => none }
def admissionSafeRow : OpenClaim := { program := "ytmcjkemalibacaagreat", sum := "c5deb425d2944865efb13932066aaa9ad38ae456a0784ec3d66ec913f923cf2e", func := "forkhead/forkheadlaw24.AdmissionSafe", spec := "admissionSafe", unfollowed := true, recurses := true, apart := false }
def AdmissionSafeSaid : Prop := admissionSafeRow.holds Tryz.pinned (OpenSpec.ofChange admissionSafeSpec)

/-- ITS FALSE NEIGHBOUR: 'it returns false'. Refute it at one input. -/
def admissionSafeWrong : ChangeSpec := { name := "admissionSafe", fn := fun _ => fun
  | [d1, d2] => { results := [.lit (.bool false)], args := [d1, d2] }
  | _ => none }
def AdmissionSafeWrongFalsely : Prop := admissionSafeRow.holds Tryz.pinned (OpenSpec.ofChange admissionSafeWrong)

/-- 'forkheadlaw24.AdmissionFirst': WHATEVER THE INPUT: true; the input reads as it did. -/
def admissionFirstSpec : ChangeSpec := { name := "admissionFirst", fn := fun _ => fun
  | [d1, d2, d3] => { results := [.lit (.bool true)], args := [d1, d2, d3] }
  | _ => none }
def admissionFirstRow : OpenClaim := { program := "ytmcjkemalibacaagreat", sum := "c5deb425d2944865efb13932066aaa9ad38ae456a0784ec3d66ec913f923cf2e", func := "forkhead/forkheadlaw24.AdmissionFirst", spec := "admissionFirst", unfollowed := true, recurses := true, apart := false }
def AdmissionFirstSaid : Prop := admissionFirstRow.holds Tryz.pinned (OpenSpec.ofChange admissionFirstSpec)

/-- ITS FALSE NEIGHBOUR: 'it returns false'. Refute it at one input. -/
def admissionFirstWrong : ChangeSpec := { name := "admissionFirst", fn := fun _ => fun
  | [d1, d2, d3] => { results := [.lit (.bool false)], args := [d1, d2, d3] }
  | _ => none }
def AdmissionFirstWrongFalsely : Prop := admissionFirstRow.holds Tryz.pinned (OpenSpec.ofChange admissionFirstWrong)

/-- 'forkheadlaw23.CheckpointsUpdates': WHATEVER THE INPUT: true; the input reads as it did. -/
def checkpointsUpdatesSpec : ChangeSpec := { name := "checkpointsUpdates", fn := fun _ => fun
  | [d1, d2, d3, d4] => { results := [.lit (.bool true)], args := [d1, d2, d3, d4] }
  | _ => none }
def checkpointsUpdatesRow : OpenClaim := { program := "ytmcjkemalibacaagreat", sum := "c5deb425d2944865efb13932066aaa9ad38ae456a0784ec3d66ec913f923cf2e", func := "forkhead/forkheadlaw23.CheckpointsUpdates", spec := "checkpointsUpdates", unfollowed := true, recurses := true, apart := false }
def CheckpointsUpdatesSaid : Prop := checkpointsUpdatesRow.holds Tryz.pinned (OpenSpec.ofChange checkpointsUpdatesSpec)

/-- ITS FALSE NEIGHBOUR: 'it returns false'. Refute it at one input. -/
def checkpointsUpdatesWrong : ChangeSpec := { name := "checkpointsUpdates", fn := fun _ => fun
  | [d1, d2, d3, d4] => { results := [.lit (.bool false)], args := [d1, d2, d3, d4] }
  | _ => none }
def CheckpointsUpdatesWrongFalsely : Prop := checkpointsUpdatesRow.holds Tryz.pinned (OpenSpec.ofChange checkpointsUpdatesWrong)

/-- 'forkheadlaw23.CheckpointsForward': WHATEVER THE INPUT: true; the input reads as it did. -/
def checkpointsForwardSpec : ChangeSpec := { name := "checkpointsForward", fn := fun _ => fun
  | [d1, d2] => { results := [.lit (.bool true)], args := [d1, d2] }
  | _ => none }
def checkpointsForwardRow : OpenClaim := { program := "ytmcjkemalibacaagreat", sum := "c5deb425d2944865efb13932066aaa9ad38ae456a0784ec3d66ec913f923cf2e", func := "forkhead/forkheadlaw23.CheckpointsForward", spec := "checkpointsForward", unfollowed := true, recurses := true, apart := false }
def CheckpointsForwardSaid : Prop := checkpointsForwardRow.holds Tryz.pinned (OpenSpec.ofChange checkpointsForwardSpec)

/-- ITS FALSE NEIGHBOUR: 'it returns false'. Refute it at one input. -/
def checkpointsForwardWrong : ChangeSpec := { name := "checkpointsForward", fn := fun _ => fun
  | [d1, d2] => { results := [.lit (.bool false)], args := [d1, d2] }
  | _ => none }
def CheckpointsForwardWrongFalsely : Prop := checkpointsForwardRow.holds Tryz.pinned (OpenSpec.ofChange checkpointsForwardWrong)

/-- 'forkheadlaw23.CheckpointsTables': WHATEVER THE INPUT: true; the input reads as it did. -/
def checkpointsTablesSpec : ChangeSpec := { name := "checkpointsTables", fn := fun _ => fun
  | [d1, d2] => { results := [.lit (.bool true)], args := [d1, d2] }
  | _ => none }
def checkpointsTablesRow : OpenClaim := { program := "ytmcjkemalibacaagreat", sum := "c5deb425d2944865efb13932066aaa9ad38ae456a0784ec3d66ec913f923cf2e", func := "forkhead/forkheadlaw23.CheckpointsTables", spec := "checkpointsTables", unfollowed := true, recurses := true, apart := false }
def CheckpointsTablesSaid : Prop := checkpointsTablesRow.holds Tryz.pinned (OpenSpec.ofChange checkpointsTablesSpec)

/-- ITS FALSE NEIGHBOUR: 'it returns false'. Refute it at one input. -/
def checkpointsTablesWrong : ChangeSpec := { name := "checkpointsTables", fn := fun _ => fun
  | [d1, d2] => { results := [.lit (.bool false)], args := [d1, d2] }
  | _ => none }
def CheckpointsTablesWrongFalsely : Prop := checkpointsTablesRow.holds Tryz.pinned (OpenSpec.ofChange checkpointsTablesWrong)

/-- 'forkheadlaw23.CheckpointsTwice': WHATEVER THE INPUT: true; the input reads as it did. -/
def checkpointsTwiceSpec : ChangeSpec := { name := "checkpointsTwice", fn := fun _ => fun
  | [d1, d2] => { results := [.lit (.bool true)], args := [d1, d2] }
  | _ => none }
def checkpointsTwiceRow : OpenClaim := { program := "ytmcjkemalibacaagreat", sum := "c5deb425d2944865efb13932066aaa9ad38ae456a0784ec3d66ec913f923cf2e", func := "forkhead/forkheadlaw23.CheckpointsTwice", spec := "checkpointsTwice", unfollowed := true, recurses := true, apart := false }
def CheckpointsTwiceSaid : Prop := checkpointsTwiceRow.holds Tryz.pinned (OpenSpec.ofChange checkpointsTwiceSpec)

/-- ITS FALSE NEIGHBOUR: 'it returns false'. Refute it at one input. -/
def checkpointsTwiceWrong : ChangeSpec := { name := "checkpointsTwice", fn := fun _ => fun
  | [d1, d2] => { results := [.lit (.bool false)], args := [d1, d2] }
  | _ => none }
def CheckpointsTwiceWrongFalsely : Prop := checkpointsTwiceRow.holds Tryz.pinned (OpenSpec.ofChange checkpointsTwiceWrong)

/-- 'forkheadlaw23.CheckpointsPending': WHATEVER THE INPUT: true; the input reads as it did. -/
def checkpointsPendingSpec : ChangeSpec := { name := "checkpointsPending", fn := fun _ => fun
  | [d] => { results := [.lit (.bool true)], args := [d] }
  | _ => none }
def checkpointsPendingRow : OpenClaim := { program := "ytmcjkemalibacaagreat", sum := "c5deb425d2944865efb13932066aaa9ad38ae456a0784ec3d66ec913f923cf2e", func := "forkhead/forkheadlaw23.CheckpointsPending", spec := "checkpointsPending", unfollowed := true, recurses := true, apart := false }
def CheckpointsPendingSaid : Prop := checkpointsPendingRow.holds Tryz.pinned (OpenSpec.ofChange checkpointsPendingSpec)

/-- ITS FALSE NEIGHBOUR: 'it returns false'. Refute it at one input. -/
def checkpointsPendingWrong : ChangeSpec := { name := "checkpointsPending", fn := fun _ => fun
  | [d] => { results := [.lit (.bool false)], args := [d] }
  | _ => none }
def CheckpointsPendingWrongFalsely : Prop := checkpointsPendingRow.holds Tryz.pinned (OpenSpec.ofChange checkpointsPendingWrong)

/-- 'forkheadlaw23.CheckpointsFit': WHATEVER THE INPUT: true; the input reads as it did. -/
def checkpointsFitSpec : ChangeSpec := { name := "checkpointsFit", fn := fun _ => fun
  | [d1, d2, d3] => { results := [.lit (.bool true)], args := [d1, d2, d3] }
  | _ => none }
def checkpointsFitRow : OpenClaim := { program := "ytmcjkemalibacaagreat", sum := "c5deb425d2944865efb13932066aaa9ad38ae456a0784ec3d66ec913f923cf2e", func := "forkhead/forkheadlaw23.CheckpointsFit", spec := "checkpointsFit", unfollowed := true, recurses := true, apart := false }
def CheckpointsFitSaid : Prop := checkpointsFitRow.holds Tryz.pinned (OpenSpec.ofChange checkpointsFitSpec)

/-- ITS FALSE NEIGHBOUR: 'it returns false'. Refute it at one input. -/
def checkpointsFitWrong : ChangeSpec := { name := "checkpointsFit", fn := fun _ => fun
  | [d1, d2, d3] => { results := [.lit (.bool false)], args := [d1, d2, d3] }
  | _ => none }
def CheckpointsFitWrongFalsely : Prop := checkpointsFitRow.holds Tryz.pinned (OpenSpec.ofChange checkpointsFitWrong)

/-- 'forkheadlaw28.RetryLater': WHATEVER THE INPUT: true; the input reads as it did. -/
def retryLaterSpec : ChangeSpec := { name := "retryLater", fn := fun _ => fun
  | [d1, d2] => { results := [.lit (.bool true)], args := [d1, d2] }
  | _ => none }
def retryLaterRow : OpenClaim := { program := "ytmcjkemalibacaagreat", sum := "c5deb425d2944865efb13932066aaa9ad38ae456a0784ec3d66ec913f923cf2e", func := "forkhead/forkheadlaw28.RetryLater", spec := "retryLater", inPlace := ["slices.overlaps[forkhead/api.Request]"], unfollowed := true, recurses := true, apart := false }
def RetryLaterSaid : Prop := retryLaterRow.holds Tryz.pinned (OpenSpec.ofChange retryLaterSpec)

/-- ITS FALSE NEIGHBOUR: 'it returns false'. Refute it at one input. -/
def retryLaterWrong : ChangeSpec := { name := "retryLater", fn := fun _ => fun
  | [d1, d2] => { results := [.lit (.bool false)], args := [d1, d2] }
  | _ => none }
def RetryLaterWrongFalsely : Prop := retryLaterRow.holds Tryz.pinned (OpenSpec.ofChange retryLaterWrong)

/-- 'forkheadlaw28.RetryDue': WHATEVER THE INPUT: true; the input reads as it did. -/
def retryDueSpec : ChangeSpec := { name := "retryDue", fn := fun _ => fun
  | [d1, d2] => { results := [.lit (.bool true)], args := [d1, d2] }
  | _ => none }
def retryDueRow : OpenClaim := { program := "ytmcjkemalibacaagreat", sum := "c5deb425d2944865efb13932066aaa9ad38ae456a0784ec3d66ec913f923cf2e", func := "forkhead/forkheadlaw28.RetryDue", spec := "retryDue", inPlace := ["slices.overlaps[forkhead/api.Request]"], unfollowed := true, recurses := true, apart := false }
def RetryDueSaid : Prop := retryDueRow.holds Tryz.pinned (OpenSpec.ofChange retryDueSpec)

/-- ITS FALSE NEIGHBOUR: 'it returns false'. Refute it at one input. -/
def retryDueWrong : ChangeSpec := { name := "retryDue", fn := fun _ => fun
  | [d1, d2] => { results := [.lit (.bool false)], args := [d1, d2] }
  | _ => none }
def RetryDueWrongFalsely : Prop := retryDueRow.holds Tryz.pinned (OpenSpec.ofChange retryDueWrong)

/-- 'forkheadlaw28.RetryEvery': WHATEVER THE INPUT: true; the input reads as it did. -/
def retryEverySpec : ChangeSpec := { name := "retryEvery", fn := fun _ => fun
  | [d1, d2] => { results := [.lit (.bool true)], args := [d1, d2] }
  | _ => none }
def retryEveryRow : OpenClaim := { program := "ytmcjkemalibacaagreat", sum := "c5deb425d2944865efb13932066aaa9ad38ae456a0784ec3d66ec913f923cf2e", func := "forkhead/forkheadlaw28.RetryEvery", spec := "retryEvery", inPlace := ["slices.overlaps[forkhead/api.Request]"], unfollowed := true, recurses := true, apart := false }
def RetryEverySaid : Prop := retryEveryRow.holds Tryz.pinned (OpenSpec.ofChange retryEverySpec)

/-- ITS FALSE NEIGHBOUR: 'it returns false'. Refute it at one input. -/
def retryEveryWrong : ChangeSpec := { name := "retryEvery", fn := fun _ => fun
  | [d1, d2] => { results := [.lit (.bool false)], args := [d1, d2] }
  | _ => none }
def RetryEveryWrongFalsely : Prop := retryEveryRow.holds Tryz.pinned (OpenSpec.ofChange retryEveryWrong)

/- THE SECOND FORM. 'bulk': how many values and letters a reading holds, each counted each time it is reached (what is shared counts as often as it is met; a slice's spare places count too). A statement '..UptoSaid' is the law's where the arguments, and the package variables that the reading takes, are together of bulk at most 1048576: NARROWER than '..Said'. Prove '..Said' where nothing that the law and all that it calls make is longer than what came in: it says more and counts as full. Else prove '..UptoSaid'. A law counts once. -/
mutual
def uptoBulk {H : Type} : DataW H → Nat
  | .lit (.string bytes) => bytes.length + 1
  | .lit _ => 1
  | .nil => 1
  | .ptr d => uptoBulk d + 1
  | .slice elems spare => uptoBulkAll elems + uptoBulkAll spare + 1
  | .agg parts => uptoBulkAll parts + 1
  | .iface _ d => uptoBulk d + 1
  | .map entries => uptoBulkEntries entries + 1
  | .held _ => 1
def uptoBulkAll {H : Type} : List (DataW H) → Nat
  | [] => 0
  | d :: r => uptoBulk d + uptoBulkAll r
def uptoBulkEntries {H : Type} : List (Lit × DataW H) → Nat
  | [] => 0
  | x :: r => uptoBulkEntry x + uptoBulkEntries r
def uptoBulkEntry {H : Type} : Lit × DataW H → Nat
  | (.string bytes, d) => bytes.length + uptoBulk d + 1
  | (_, d) => uptoBulk d + 1
 end
def uptoSmall : (H : Type) → List (DataW H) → Bool := fun _ ds => decide (uptoBulkAll ds ≤ 1048576)
def OpenSpec.upto (s : _root_.Go.ChangeSpec) : _root_.Go.OpenSpec := { _root_.Go.OpenSpec.ofChange s with cond := some uptoSmall }

/-- 'forkheadlaw27.RequestsMatch', WHERE WHAT IT READS IS OF BULK AT MOST 1048576: true; the input reads as it did. -/
def requestsMatchUptoRow : OpenClaim := { program := "ytmcjkemalibacaagreat", sum := "c5deb425d2944865efb13932066aaa9ad38ae456a0784ec3d66ec913f923cf2e", func := "forkhead/forkheadlaw27.RequestsMatch", spec := "requestsMatch", unfollowed := true, recurses := true, apart := false, narrowed := true }
def RequestsMatchUptoSaid : Prop := requestsMatchUptoRow.holds Tryz.pinned (OpenSpec.upto requestsMatchSpec)

/-- 'forkheadlaw27.RequestsOpen', WHERE WHAT IT READS IS OF BULK AT MOST 1048576: true; the input reads as it did. -/
def requestsOpenUptoRow : OpenClaim := { program := "ytmcjkemalibacaagreat", sum := "c5deb425d2944865efb13932066aaa9ad38ae456a0784ec3d66ec913f923cf2e", func := "forkhead/forkheadlaw27.RequestsOpen", spec := "requestsOpen", unfollowed := true, recurses := true, apart := false, narrowed := true }
def RequestsOpenUptoSaid : Prop := requestsOpenUptoRow.holds Tryz.pinned (OpenSpec.upto requestsOpenSpec)

/-- 'forkheadlaw27.RequestsTags', WHERE WHAT IT READS IS OF BULK AT MOST 1048576: true; the input reads as it did. -/
def requestsTagsUptoRow : OpenClaim := { program := "ytmcjkemalibacaagreat", sum := "c5deb425d2944865efb13932066aaa9ad38ae456a0784ec3d66ec913f923cf2e", func := "forkhead/forkheadlaw27.RequestsTags", spec := "requestsTags", unfollowed := true, recurses := true, apart := false, narrowed := true }
def RequestsTagsUptoSaid : Prop := requestsTagsUptoRow.holds Tryz.pinned (OpenSpec.upto requestsTagsSpec)

/-- 'forkheadlaw27.RequestsDrop', WHERE WHAT IT READS IS OF BULK AT MOST 1048576: true; the input reads as it did. -/
def requestsDropUptoRow : OpenClaim := { program := "ytmcjkemalibacaagreat", sum := "c5deb425d2944865efb13932066aaa9ad38ae456a0784ec3d66ec913f923cf2e", func := "forkhead/forkheadlaw27.RequestsDrop", spec := "requestsDrop", unfollowed := true, recurses := true, apart := false, narrowed := true }
def RequestsDropUptoSaid : Prop := requestsDropUptoRow.holds Tryz.pinned (OpenSpec.upto requestsDropSpec)

/-- 'forkheadlaw25.BallotsExact', WHERE WHAT IT READS IS OF BULK AT MOST 1048576: true; the input reads as it did. -/
def ballotsExactUptoRow : OpenClaim := { program := "ytmcjkemalibacaagreat", sum := "c5deb425d2944865efb13932066aaa9ad38ae456a0784ec3d66ec913f923cf2e", func := "forkhead/forkheadlaw25.BallotsExact", spec := "ballotsExact", unfollowed := true, recurses := true, apart := false, narrowed := true }
def BallotsExactUptoSaid : Prop := ballotsExactUptoRow.holds Tryz.pinned (OpenSpec.upto ballotsExactSpec)

/-- 'forkheadlaw25.BallotsAny', WHERE WHAT IT READS IS OF BULK AT MOST 1048576: true; the input reads as it did. -/
def ballotsAnyUptoRow : OpenClaim := { program := "ytmcjkemalibacaagreat", sum := "c5deb425d2944865efb13932066aaa9ad38ae456a0784ec3d66ec913f923cf2e", func := "forkhead/forkheadlaw25.BallotsAny", spec := "ballotsAny", unfollowed := true, recurses := true, apart := false, narrowed := true }
def BallotsAnyUptoSaid : Prop := ballotsAnyUptoRow.holds Tryz.pinned (OpenSpec.upto ballotsAnySpec)

/-- 'forkheadlaw25.BallotsTargets', WHERE WHAT IT READS IS OF BULK AT MOST 1048576: true; the input reads as it did. -/
def ballotsTargetsUptoRow : OpenClaim := { program := "ytmcjkemalibacaagreat", sum := "c5deb425d2944865efb13932066aaa9ad38ae456a0784ec3d66ec913f923cf2e", func := "forkhead/forkheadlaw25.BallotsTargets", spec := "ballotsTargets", unfollowed := true, recurses := true, apart := false, narrowed := true }
def BallotsTargetsUptoSaid : Prop := ballotsTargetsUptoRow.holds Tryz.pinned (OpenSpec.upto ballotsTargetsSpec)

/-- 'forkheadlaw25.BallotsVotes', WHERE WHAT IT READS IS OF BULK AT MOST 1048576: true; the input reads as it did. -/
def ballotsVotesUptoRow : OpenClaim := { program := "ytmcjkemalibacaagreat", sum := "c5deb425d2944865efb13932066aaa9ad38ae456a0784ec3d66ec913f923cf2e", func := "forkhead/forkheadlaw25.BallotsVotes", spec := "ballotsVotes", unfollowed := true, recurses := true, apart := false, narrowed := true }
def BallotsVotesUptoSaid : Prop := ballotsVotesUptoRow.holds Tryz.pinned (OpenSpec.upto ballotsVotesSpec)

/-- 'forkheadlaw24.AdmissionExact', WHERE WHAT IT READS IS OF BULK AT MOST 1048576: true; the input reads as it did. -/
def admissionExactUptoRow : OpenClaim := { program := "ytmcjkemalibacaagreat", sum := "c5deb425d2944865efb13932066aaa9ad38ae456a0784ec3d66ec913f923cf2e", func := "forkhead/forkheadlaw24.AdmissionExact", spec := "admissionExact", unfollowed := true, recurses := true, apart := false, narrowed := true }
def AdmissionExactUptoSaid : Prop := admissionExactUptoRow.holds Tryz.pinned (OpenSpec.upto admissionExactSpec)

/-- 'forkheadlaw24.AdmissionAny', WHERE WHAT IT READS IS OF BULK AT MOST 1048576: true; the input reads as it did. -/
def admissionAnyUptoRow : OpenClaim := { program := "ytmcjkemalibacaagreat", sum := "c5deb425d2944865efb13932066aaa9ad38ae456a0784ec3d66ec913f923cf2e", func := "forkhead/forkheadlaw24.AdmissionAny", spec := "admissionAny", unfollowed := true, recurses := true, apart := false, narrowed := true }
def AdmissionAnyUptoSaid : Prop := admissionAnyUptoRow.holds Tryz.pinned (OpenSpec.upto admissionAnySpec)

/-- 'forkheadlaw24.AdmissionSafe', WHERE WHAT IT READS IS OF BULK AT MOST 1048576: true; the input reads as it did. -/
def admissionSafeUptoRow : OpenClaim := { program := "ytmcjkemalibacaagreat", sum := "c5deb425d2944865efb13932066aaa9ad38ae456a0784ec3d66ec913f923cf2e", func := "forkhead/forkheadlaw24.AdmissionSafe", spec := "admissionSafe", unfollowed := true, recurses := true, apart := false, narrowed := true }
def AdmissionSafeUptoSaid : Prop := admissionSafeUptoRow.holds Tryz.pinned (OpenSpec.upto admissionSafeSpec)

/-- 'forkheadlaw24.AdmissionFirst', WHERE WHAT IT READS IS OF BULK AT MOST 1048576: true; the input reads as it did. -/
def admissionFirstUptoRow : OpenClaim := { program := "ytmcjkemalibacaagreat", sum := "c5deb425d2944865efb13932066aaa9ad38ae456a0784ec3d66ec913f923cf2e", func := "forkhead/forkheadlaw24.AdmissionFirst", spec := "admissionFirst", unfollowed := true, recurses := true, apart := false, narrowed := true }
def AdmissionFirstUptoSaid : Prop := admissionFirstUptoRow.holds Tryz.pinned (OpenSpec.upto admissionFirstSpec)

/-- 'forkheadlaw23.CheckpointsUpdates', WHERE WHAT IT READS IS OF BULK AT MOST 1048576: true; the input reads as it did. -/
def checkpointsUpdatesUptoRow : OpenClaim := { program := "ytmcjkemalibacaagreat", sum := "c5deb425d2944865efb13932066aaa9ad38ae456a0784ec3d66ec913f923cf2e", func := "forkhead/forkheadlaw23.CheckpointsUpdates", spec := "checkpointsUpdates", unfollowed := true, recurses := true, apart := false, narrowed := true }
def CheckpointsUpdatesUptoSaid : Prop := checkpointsUpdatesUptoRow.holds Tryz.pinned (OpenSpec.upto checkpointsUpdatesSpec)

/-- 'forkheadlaw23.CheckpointsForward', WHERE WHAT IT READS IS OF BULK AT MOST 1048576: true; the input reads as it did. -/
def checkpointsForwardUptoRow : OpenClaim := { program := "ytmcjkemalibacaagreat", sum := "c5deb425d2944865efb13932066aaa9ad38ae456a0784ec3d66ec913f923cf2e", func := "forkhead/forkheadlaw23.CheckpointsForward", spec := "checkpointsForward", unfollowed := true, recurses := true, apart := false, narrowed := true }
def CheckpointsForwardUptoSaid : Prop := checkpointsForwardUptoRow.holds Tryz.pinned (OpenSpec.upto checkpointsForwardSpec)

/-- 'forkheadlaw23.CheckpointsTables', WHERE WHAT IT READS IS OF BULK AT MOST 1048576: true; the input reads as it did. -/
def checkpointsTablesUptoRow : OpenClaim := { program := "ytmcjkemalibacaagreat", sum := "c5deb425d2944865efb13932066aaa9ad38ae456a0784ec3d66ec913f923cf2e", func := "forkhead/forkheadlaw23.CheckpointsTables", spec := "checkpointsTables", unfollowed := true, recurses := true, apart := false, narrowed := true }
def CheckpointsTablesUptoSaid : Prop := checkpointsTablesUptoRow.holds Tryz.pinned (OpenSpec.upto checkpointsTablesSpec)

/-- 'forkheadlaw23.CheckpointsTwice', WHERE WHAT IT READS IS OF BULK AT MOST 1048576: true; the input reads as it did. -/
def checkpointsTwiceUptoRow : OpenClaim := { program := "ytmcjkemalibacaagreat", sum := "c5deb425d2944865efb13932066aaa9ad38ae456a0784ec3d66ec913f923cf2e", func := "forkhead/forkheadlaw23.CheckpointsTwice", spec := "checkpointsTwice", unfollowed := true, recurses := true, apart := false, narrowed := true }
def CheckpointsTwiceUptoSaid : Prop := checkpointsTwiceUptoRow.holds Tryz.pinned (OpenSpec.upto checkpointsTwiceSpec)

/-- 'forkheadlaw23.CheckpointsPending', WHERE WHAT IT READS IS OF BULK AT MOST 1048576: true; the input reads as it did. -/
def checkpointsPendingUptoRow : OpenClaim := { program := "ytmcjkemalibacaagreat", sum := "c5deb425d2944865efb13932066aaa9ad38ae456a0784ec3d66ec913f923cf2e", func := "forkhead/forkheadlaw23.CheckpointsPending", spec := "checkpointsPending", unfollowed := true, recurses := true, apart := false, narrowed := true }
def CheckpointsPendingUptoSaid : Prop := checkpointsPendingUptoRow.holds Tryz.pinned (OpenSpec.upto checkpointsPendingSpec)

/-- 'forkheadlaw23.CheckpointsFit', WHERE WHAT IT READS IS OF BULK AT MOST 1048576: true; the input reads as it did. -/
def checkpointsFitUptoRow : OpenClaim := { program := "ytmcjkemalibacaagreat", sum := "c5deb425d2944865efb13932066aaa9ad38ae456a0784ec3d66ec913f923cf2e", func := "forkhead/forkheadlaw23.CheckpointsFit", spec := "checkpointsFit", unfollowed := true, recurses := true, apart := false, narrowed := true }
def CheckpointsFitUptoSaid : Prop := checkpointsFitUptoRow.holds Tryz.pinned (OpenSpec.upto checkpointsFitSpec)

/-- 'forkheadlaw28.RetryLater', WHERE WHAT IT READS IS OF BULK AT MOST 1048576: true; the input reads as it did. -/
def retryLaterUptoRow : OpenClaim := { program := "ytmcjkemalibacaagreat", sum := "c5deb425d2944865efb13932066aaa9ad38ae456a0784ec3d66ec913f923cf2e", func := "forkhead/forkheadlaw28.RetryLater", spec := "retryLater", inPlace := ["slices.overlaps[forkhead/api.Request]"], unfollowed := true, recurses := true, apart := false, narrowed := true }
def RetryLaterUptoSaid : Prop := retryLaterUptoRow.holds Tryz.pinned (OpenSpec.upto retryLaterSpec)

/-- 'forkheadlaw28.RetryDue', WHERE WHAT IT READS IS OF BULK AT MOST 1048576: true; the input reads as it did. -/
def retryDueUptoRow : OpenClaim := { program := "ytmcjkemalibacaagreat", sum := "c5deb425d2944865efb13932066aaa9ad38ae456a0784ec3d66ec913f923cf2e", func := "forkhead/forkheadlaw28.RetryDue", spec := "retryDue", inPlace := ["slices.overlaps[forkhead/api.Request]"], unfollowed := true, recurses := true, apart := false, narrowed := true }
def RetryDueUptoSaid : Prop := retryDueUptoRow.holds Tryz.pinned (OpenSpec.upto retryDueSpec)

/-- 'forkheadlaw28.RetryEvery', WHERE WHAT IT READS IS OF BULK AT MOST 1048576: true; the input reads as it did. -/
def retryEveryUptoRow : OpenClaim := { program := "ytmcjkemalibacaagreat", sum := "c5deb425d2944865efb13932066aaa9ad38ae456a0784ec3d66ec913f923cf2e", func := "forkhead/forkheadlaw28.RetryEvery", spec := "retryEvery", inPlace := ["slices.overlaps[forkhead/api.Request]"], unfollowed := true, recurses := true, apart := false, narrowed := true }
def RetryEveryUptoSaid : Prop := retryEveryUptoRow.holds Tryz.pinned (OpenSpec.upto retryEverySpec)

end Rows
end Go.Proofs.YtmcjkemalibacaaGreat
