/-
  No cell of these rows narrows 'for every input' (looked for: loops, veiled, ifaces, maps, wideKeys, modest, calm, conditions, laid).
  DERIVED. THE GIVEN ROWS OF THIS SEAT. 3 by the template 'for every input the law returns true; each argument reads behind the call as it read before'; 0 by the template 'total and deterministic' (their statements: YtdmpbhjcdnclbaaTotals.lean).
  GIVEN WITH THE SEED: the statements are not yours to turn. If you find one false, say at which input.
  Laid BY PROGRAM, IN A SANDBOX (cutbox-rows.mjs): the forced cells as the released guide's own fill.sh prints them over the translation 474b9a80d77dac4c… (all of the seat's roots in one cut). By AI agents, Wed Nov 11 2026. No macro, syntax, notation, axiom, sorry.
-/
import Derived.Test.YtdmpbhjcdnclbaaChecked
import GoSem.Claim
import GoSem.ClaimJoined
import GoSem.ClaimMapViews
import Derived.JoinedTies
import Derived.KernelRfl
namespace Go.Proofs.Ytdmpbhjcdnclbaa
/- THE CELL 'sum', in the pinned program and in every row, IS THE sha256 OF THE DUMP (.gsa) THAT YtdmpbhjcdnclbaaProg.lean LOADS. Nothing in Lean hashes anything: it is a label: what it is worth is what the hold of that sum in a sandbox is worth. -/
noncomputable def Try.pinned : Pinned := { name := "ytdmpbhjcdnclbaa", sum := "474b9a80d77dac4cbd952520a923ffc021faa507671e613b36dbbff945734e01", checked := Try.checked }
namespace Rows
def none {H : Type} : Left H := { results := [], args := [] }

/-- 'forkheadlaw18.MergeExact': WHATEVER THE INPUT: true; the input reads as it did. -/
def mergeExactSpec : ChangeSpec := { name := "mergeExact", fn := fun _ => fun
  | [d1, d2, d3, d4] => { results := [.lit (.bool true)], args := [d1, d2, d3, d4] }
  | _ => none }
def mergeExactRow : OpenClaim := { program := "ytdmpbhjcdnclbaa", sum := "474b9a80d77dac4cbd952520a923ffc021faa507671e613b36dbbff945734e01", func := "forkhead/forkheadlaw18.MergeExact", spec := "mergeExact", apart := false }
def MergeExactSaid : Prop := mergeExactRow.holds Try.pinned (OpenSpec.ofChange mergeExactSpec)

/-- ITS FALSE NEIGHBOUR: 'it returns false'. Refute it at one input. -/
def mergeExactWrong : ChangeSpec := { name := "mergeExact", fn := fun _ => fun
  | [d1, d2, d3, d4] => { results := [.lit (.bool false)], args := [d1, d2, d3, d4] }
  | _ => none }
def MergeExactWrongFalsely : Prop := mergeExactRow.holds Try.pinned (OpenSpec.ofChange mergeExactWrong)

/-- 'forkheadlaw18.MergeBorder': WHATEVER THE INPUT: true; the input reads as it did. -/
def mergeBorderSpec : ChangeSpec := { name := "mergeBorder", fn := fun _ => fun
  | [d1, d2, d3] => { results := [.lit (.bool true)], args := [d1, d2, d3] }
  | _ => none }
def mergeBorderRow : OpenClaim := { program := "ytdmpbhjcdnclbaa", sum := "474b9a80d77dac4cbd952520a923ffc021faa507671e613b36dbbff945734e01", func := "forkhead/forkheadlaw18.MergeBorder", spec := "mergeBorder", apart := false }
def MergeBorderSaid : Prop := mergeBorderRow.holds Try.pinned (OpenSpec.ofChange mergeBorderSpec)

/-- ITS FALSE NEIGHBOUR: 'it returns false'. Refute it at one input. -/
def mergeBorderWrong : ChangeSpec := { name := "mergeBorder", fn := fun _ => fun
  | [d1, d2, d3] => { results := [.lit (.bool false)], args := [d1, d2, d3] }
  | _ => none }
def MergeBorderWrongFalsely : Prop := mergeBorderRow.holds Try.pinned (OpenSpec.ofChange mergeBorderWrong)

/-- 'forkheadlaw18.MergeOnce': WHATEVER THE INPUT: true; the input reads as it did. -/
def mergeOnceSpec : ChangeSpec := { name := "mergeOnce", fn := fun _ => fun
  | [d1, d2] => { results := [.lit (.bool true)], args := [d1, d2] }
  | _ => none }
def mergeOnceRow : OpenClaim := { program := "ytdmpbhjcdnclbaa", sum := "474b9a80d77dac4cbd952520a923ffc021faa507671e613b36dbbff945734e01", func := "forkhead/forkheadlaw18.MergeOnce", spec := "mergeOnce", apart := false }
def MergeOnceSaid : Prop := mergeOnceRow.holds Try.pinned (OpenSpec.ofChange mergeOnceSpec)

/-- ITS FALSE NEIGHBOUR: 'it returns false'. Refute it at one input. -/
def mergeOnceWrong : ChangeSpec := { name := "mergeOnce", fn := fun _ => fun
  | [d1, d2] => { results := [.lit (.bool false)], args := [d1, d2] }
  | _ => none }
def MergeOnceWrongFalsely : Prop := mergeOnceRow.holds Try.pinned (OpenSpec.ofChange mergeOnceWrong)

/- THE SECOND FORM. 'bulk': how many values and letters a reading holds, each counted each time it is reached (what is shared counts as often as it is met; a slice's spare places count too). A statement '..UptoSaid' is the law's where the arguments, and the package variables that the reading takes, are together of bulk at most 1048576: NARROWER than '..Said'. Prove '..Said' where nothing that the law and all that it calls make is longer than what came in: it says more and counts as full. Else prove '..UptoSaid'. A law counts once. -/
mutual
def uptoBulk {H : Type} : DataW H → Nat
  | .lit (.string bytes) => bytes.length + 1
  | .lit _ => 1
  | .nil => 1
  | .ptr d => uptoBulk d + 1
  | .slice elems spare => uptoBulkAll elems + uptoBulkAll spare + 1
  | .agg parts => uptoBulkAll parts + 1
  | .iface _ d => uptoBulk d + 1
  | .map entries => uptoBulkEntries entries + 1
  | .held _ => 1
def uptoBulkAll {H : Type} : List (DataW H) → Nat
  | [] => 0
  | d :: r => uptoBulk d + uptoBulkAll r
def uptoBulkEntries {H : Type} : List (Lit × DataW H) → Nat
  | [] => 0
  | x :: r => uptoBulkEntry x + uptoBulkEntries r
def uptoBulkEntry {H : Type} : Lit × DataW H → Nat
  | (.string bytes, d) => bytes.length + uptoBulk d + 1
  | (_, d) => uptoBulk d + 1
 end
def uptoSmall : (H : Type) → List (DataW H) → Bool := fun _ ds => decide (uptoBulkAll ds ≤ 1048576)
def OpenSpec.upto (s : _root_.Go.ChangeSpec) : _root_.Go.OpenSpec := { _root_.Go.OpenSpec.ofChange s with cond := some uptoSmall }

/-- 'forkheadlaw18.MergeExact', WHERE WHAT IT READS IS OF BULK AT MOST 1048576: true; the input reads as it did. -/
def mergeExactUptoRow : OpenClaim := { program := "ytdmpbhjcdnclbaa", sum := "474b9a80d77dac4cbd952520a923ffc021faa507671e613b36dbbff945734e01", func := "forkhead/forkheadlaw18.MergeExact", spec := "mergeExact", apart := false, narrowed := true }
def MergeExactUptoSaid : Prop := mergeExactUptoRow.holds Try.pinned (OpenSpec.upto mergeExactSpec)

/-- 'forkheadlaw18.MergeBorder', WHERE WHAT IT READS IS OF BULK AT MOST 1048576: true; the input reads as it did. -/
def mergeBorderUptoRow : OpenClaim := { program := "ytdmpbhjcdnclbaa", sum := "474b9a80d77dac4cbd952520a923ffc021faa507671e613b36dbbff945734e01", func := "forkhead/forkheadlaw18.MergeBorder", spec := "mergeBorder", apart := false, narrowed := true }
def MergeBorderUptoSaid : Prop := mergeBorderUptoRow.holds Try.pinned (OpenSpec.upto mergeBorderSpec)

/-- 'forkheadlaw18.MergeOnce', WHERE WHAT IT READS IS OF BULK AT MOST 1048576: true; the input reads as it did. -/
def mergeOnceUptoRow : OpenClaim := { program := "ytdmpbhjcdnclbaa", sum := "474b9a80d77dac4cbd952520a923ffc021faa507671e613b36dbbff945734e01", func := "forkhead/forkheadlaw18.MergeOnce", spec := "mergeOnce", apart := false, narrowed := true }
def MergeOnceUptoSaid : Prop := mergeOnceUptoRow.holds Try.pinned (OpenSpec.upto mergeOnceSpec)

end Rows
end Go.Proofs.Ytdmpbhjcdnclbaa
