/-
  No cell of these rows narrows 'for every input' (looked for: loops, veiled, ifaces, maps, wideKeys, modest, calm, conditions, laid).
  DERIVED. THE GIVEN ROWS OF THIS SEAT. 4 by the template 'for every input the law returns true; each argument reads behind the call as it read before'; 0 by the template 'total and deterministic' (their statements: YthkgnakbkaafgaaGreatTotals.lean).
  GIVEN WITH THE SEED: the statements are not yours to turn. If you find one false, say at which input.
  Laid BY PROGRAM, IN A SANDBOX (cutbox-rows.mjs): the forced cells as the released guide's own fill.sh prints them over the translation b208a9664f6732d5… (all of the seat's roots in one cut). By AI agents, Wed Nov 11 2026. No macro, syntax, notation, axiom, sorry.
-/
import Derived.Test.YthkgnakbkaafgaaGreatChecked
import GoSem.Claim
import GoSem.ClaimJoined
import GoSem.ClaimMapViews
import Derived.JoinedTies
import Derived.KernelRfl
namespace Go.Proofs.YthkgnakbkaafgaaGreat
/- THE CELL 'sum', in the pinned program and in every row, IS THE sha256 OF THE DUMP (.gsa) THAT YthkgnakbkaafgaaGreatProg.lean LOADS. Nothing in Lean hashes anything: it is a label: what it is worth is what the hold of that sum in a sandbox is worth. -/
noncomputable def Tryz.pinned : Pinned := { name := "ythkgnakbkaafgaagreat", sum := "b208a9664f6732d5ef87cdcf0f7685c95b6538aa3c4a3b7a167f0ebe6843019b", checked := Tryz.checked }
namespace Rows
def none {H : Type} : Left H := { results := [], args := [] }

/-- 'forkheadtop.TopStatuses': WHATEVER THE INPUT: true; the input reads as it did. -/
def topStatusesSpec : ChangeSpec := { name := "topStatuses", fn := fun _ => fun
  | [d] => { results := [.lit (.bool true)], args := [d] }
  | _ => none }
def topStatusesRow : OpenClaim := { program := "ythkgnakbkaafgaagreat", sum := "b208a9664f6732d5ef87cdcf0f7685c95b6538aa3c4a3b7a167f0ebe6843019b", func := "forkhead/forkheadtop.TopStatuses", spec := "topStatuses", inPlace := ["internal/bytealg.Compare", "slices.overlaps[int]", "slices.overlaps[forkhead/api.Table]", "slices.overlaps[forkhead/api.Request]"], unfollowed := true, recurses := true, named := ["math/bits.divideError", "math/bits.overflowError"], plainKeys := false, apart := false }
def TopStatusesSaid : Prop := topStatusesRow.holds Tryz.pinned (OpenSpec.ofChange topStatusesSpec)

/-- ITS FALSE NEIGHBOUR: 'it returns false'. Refute it at one input. -/
def topStatusesWrong : ChangeSpec := { name := "topStatuses", fn := fun _ => fun
  | [d] => { results := [.lit (.bool false)], args := [d] }
  | _ => none }
def TopStatusesWrongFalsely : Prop := topStatusesRow.holds Tryz.pinned (OpenSpec.ofChange topStatusesWrong)

/-- 'forkheadtop.TopErrors': WHATEVER THE INPUT: true; the input reads as it did. -/
def topErrorsSpec : ChangeSpec := { name := "topErrors", fn := fun _ => fun
  | [d1, d2] => { results := [.lit (.bool true)], args := [d1, d2] }
  | _ => none }
def topErrorsRow : OpenClaim := { program := "ythkgnakbkaafgaagreat", sum := "b208a9664f6732d5ef87cdcf0f7685c95b6538aa3c4a3b7a167f0ebe6843019b", func := "forkhead/forkheadtop.TopErrors", spec := "topErrors", inPlace := ["internal/bytealg.Compare", "slices.overlaps[int]", "slices.overlaps[forkhead/api.Table]", "slices.overlaps[forkhead/api.Request]"], unfollowed := true, recurses := true, named := ["math/bits.divideError", "math/bits.overflowError"], plainKeys := false, apart := false }
def TopErrorsSaid : Prop := topErrorsRow.holds Tryz.pinned (OpenSpec.ofChange topErrorsSpec)

/-- ITS FALSE NEIGHBOUR: 'it returns false'. Refute it at one input. -/
def topErrorsWrong : ChangeSpec := { name := "topErrors", fn := fun _ => fun
  | [d1, d2] => { results := [.lit (.bool false)], args := [d1, d2] }
  | _ => none }
def TopErrorsWrongFalsely : Prop := topErrorsRow.holds Tryz.pinned (OpenSpec.ofChange topErrorsWrong)

/-- 'forkheadtop.TopCommands': WHATEVER THE INPUT: true; the input reads as it did. -/
def topCommandsSpec : ChangeSpec := { name := "topCommands", fn := fun _ => fun
  | [d] => { results := [.lit (.bool true)], args := [d] }
  | _ => none }
def topCommandsRow : OpenClaim := { program := "ythkgnakbkaafgaagreat", sum := "b208a9664f6732d5ef87cdcf0f7685c95b6538aa3c4a3b7a167f0ebe6843019b", func := "forkhead/forkheadtop.TopCommands", spec := "topCommands", inPlace := ["internal/bytealg.Compare", "slices.overlaps[int]", "slices.overlaps[forkhead/api.Table]", "slices.overlaps[forkhead/api.Request]"], unfollowed := true, recurses := true, named := ["math/bits.divideError", "math/bits.overflowError"], plainKeys := false, apart := false }
def TopCommandsSaid : Prop := topCommandsRow.holds Tryz.pinned (OpenSpec.ofChange topCommandsSpec)

/-- ITS FALSE NEIGHBOUR: 'it returns false'. Refute it at one input. -/
def topCommandsWrong : ChangeSpec := { name := "topCommands", fn := fun _ => fun
  | [d] => { results := [.lit (.bool false)], args := [d] }
  | _ => none }
def TopCommandsWrongFalsely : Prop := topCommandsRow.holds Tryz.pinned (OpenSpec.ofChange topCommandsWrong)

/-- 'forkheadtop.TopLives': WHATEVER THE INPUT: true; the input reads as it did. -/
def topLivesSpec : ChangeSpec := { name := "topLives", fn := fun _ => fun
  | [d] => { results := [.lit (.bool true)], args := [d] }
  | _ => none }
def topLivesRow : OpenClaim := { program := "ythkgnakbkaafgaagreat", sum := "b208a9664f6732d5ef87cdcf0f7685c95b6538aa3c4a3b7a167f0ebe6843019b", func := "forkhead/forkheadtop.TopLives", spec := "topLives", inPlace := ["internal/bytealg.Compare", "slices.overlaps[int]", "slices.overlaps[forkhead/api.Table]", "slices.overlaps[forkhead/api.Request]"], unfollowed := true, recurses := true, named := ["math/bits.divideError", "math/bits.overflowError"], plainKeys := false, apart := false }
def TopLivesSaid : Prop := topLivesRow.holds Tryz.pinned (OpenSpec.ofChange topLivesSpec)

/-- ITS FALSE NEIGHBOUR: 'it returns false'. Refute it at one input. -/
def topLivesWrong : ChangeSpec := { name := "topLives", fn := fun _ => fun
  | [d] => { results := [.lit (.bool false)], args := [d] }
  | _ => none }
def TopLivesWrongFalsely : Prop := topLivesRow.holds Tryz.pinned (OpenSpec.ofChange topLivesWrong)

/- THE SECOND FORM. 'bulk': how many values and letters a reading holds, each counted each time it is reached (what is shared counts as often as it is met; a slice's spare places count too). A statement '..UptoSaid' is the law's where the arguments, and the package variables that the reading takes, are together of bulk at most 1048576: NARROWER than '..Said'. Prove '..Said' where nothing that the law and all that it calls make is longer than what came in: it says more and counts as full. Else prove '..UptoSaid'. A law counts once. -/
mutual
def uptoBulk {H : Type} : DataW H → Nat
  | .lit (.string bytes) => bytes.length + 1
  | .lit _ => 1
  | .nil => 1
  | .ptr d => uptoBulk d + 1
  | .slice elems spare => uptoBulkAll elems + uptoBulkAll spare + 1
  | .agg parts => uptoBulkAll parts + 1
  | .iface _ d => uptoBulk d + 1
  | .map entries => uptoBulkEntries entries + 1
  | .held _ => 1
def uptoBulkAll {H : Type} : List (DataW H) → Nat
  | [] => 0
  | d :: r => uptoBulk d + uptoBulkAll r
def uptoBulkEntries {H : Type} : List (Lit × DataW H) → Nat
  | [] => 0
  | x :: r => uptoBulkEntry x + uptoBulkEntries r
def uptoBulkEntry {H : Type} : Lit × DataW H → Nat
  | (.string bytes, d) => bytes.length + uptoBulk d + 1
  | (_, d) => uptoBulk d + 1
 end
def uptoSmall : (H : Type) → List (DataW H) → Bool := fun _ ds => decide (uptoBulkAll ds ≤ 1048576)
def OpenSpec.upto (s : _root_.Go.ChangeSpec) : _root_.Go.OpenSpec := { _root_.Go.OpenSpec.ofChange s with cond := some uptoSmall }

/-- 'forkheadtop.TopStatuses', WHERE WHAT IT READS IS OF BULK AT MOST 1048576: true; the input reads as it did. -/
def topStatusesUptoRow : OpenClaim := { program := "ythkgnakbkaafgaagreat", sum := "b208a9664f6732d5ef87cdcf0f7685c95b6538aa3c4a3b7a167f0ebe6843019b", func := "forkhead/forkheadtop.TopStatuses", spec := "topStatuses", inPlace := ["internal/bytealg.Compare", "slices.overlaps[int]", "slices.overlaps[forkhead/api.Table]", "slices.overlaps[forkhead/api.Request]"], unfollowed := true, recurses := true, named := ["math/bits.divideError", "math/bits.overflowError"], plainKeys := false, apart := false, narrowed := true }
def TopStatusesUptoSaid : Prop := topStatusesUptoRow.holds Tryz.pinned (OpenSpec.upto topStatusesSpec)

/-- 'forkheadtop.TopErrors', WHERE WHAT IT READS IS OF BULK AT MOST 1048576: true; the input reads as it did. -/
def topErrorsUptoRow : OpenClaim := { program := "ythkgnakbkaafgaagreat", sum := "b208a9664f6732d5ef87cdcf0f7685c95b6538aa3c4a3b7a167f0ebe6843019b", func := "forkhead/forkheadtop.TopErrors", spec := "topErrors", inPlace := ["internal/bytealg.Compare", "slices.overlaps[int]", "slices.overlaps[forkhead/api.Table]", "slices.overlaps[forkhead/api.Request]"], unfollowed := true, recurses := true, named := ["math/bits.divideError", "math/bits.overflowError"], plainKeys := false, apart := false, narrowed := true }
def TopErrorsUptoSaid : Prop := topErrorsUptoRow.holds Tryz.pinned (OpenSpec.upto topErrorsSpec)

/-- 'forkheadtop.TopCommands', WHERE WHAT IT READS IS OF BULK AT MOST 1048576: true; the input reads as it did. -/
def topCommandsUptoRow : OpenClaim := { program := "ythkgnakbkaafgaagreat", sum := "b208a9664f6732d5ef87cdcf0f7685c95b6538aa3c4a3b7a167f0ebe6843019b", func := "forkhead/forkheadtop.TopCommands", spec := "topCommands", inPlace := ["internal/bytealg.Compare", "slices.overlaps[int]", "slices.overlaps[forkhead/api.Table]", "slices.overlaps[forkhead/api.Request]"], unfollowed := true, recurses := true, named := ["math/bits.divideError", "math/bits.overflowError"], plainKeys := false, apart := false, narrowed := true }
def TopCommandsUptoSaid : Prop := topCommandsUptoRow.holds Tryz.pinned (OpenSpec.upto topCommandsSpec)

/-- 'forkheadtop.TopLives', WHERE WHAT IT READS IS OF BULK AT MOST 1048576: true; the input reads as it did. -/
def topLivesUptoRow : OpenClaim := { program := "ythkgnakbkaafgaagreat", sum := "b208a9664f6732d5ef87cdcf0f7685c95b6538aa3c4a3b7a167f0ebe6843019b", func := "forkhead/forkheadtop.TopLives", spec := "topLives", inPlace := ["internal/bytealg.Compare", "slices.overlaps[int]", "slices.overlaps[forkhead/api.Table]", "slices.overlaps[forkhead/api.Request]"], unfollowed := true, recurses := true, named := ["math/bits.divideError", "math/bits.overflowError"], plainKeys := false, apart := false, narrowed := true }
def TopLivesUptoSaid : Prop := topLivesUptoRow.holds Tryz.pinned (OpenSpec.upto topLivesSpec)

end Rows
end Go.Proofs.YthkgnakbkaafgaaGreat
