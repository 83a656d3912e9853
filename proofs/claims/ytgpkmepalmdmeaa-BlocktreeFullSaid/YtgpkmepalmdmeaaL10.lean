/-
  Part L10 of the proof: what functions of this program compute.
-/
import Derived.Test.YtgpkmepalmdmeaaL6
import Derived.Test.YtgpkmepalmdmeaaL8
set_option linter.all false
set_option linter.unusedSimpArgs false
set_option linter.unusedVariables false
set_option maxRecDepth 20000
set_option maxHeartbeats 4000000
namespace Go.Ab.Try
open Classical Go.Proofs Go.Ab
/-- Blocks that follow one another. -/
def Chn (ns : List Node) : Prop := ∀ j : Int, 0 ≤ j → j < ns.length → (nd ns j).block.root = mkRoot (j + 1) ∧ (nd ns j).block.slot = j
theorem chn_app {ns : List Node} (h : Chn ns) {n : Node} (hr : n.block.root = mkRoot (ns.length + 1)) (hs : n.block.slot = ns.length) : Chn (ns ++ [n]) := fun j j0 j1 => by
  by_cases hj : j < ns.length
  · rw [nd_app_lt j0 hj]; exact h j j0 hj
  · obtain rfl : j = ns.length := by simp at j1; omega
    rw [nd_app_eq rfl]; exact ⟨hr, hs⟩
theorem ins_chain {ns : List Node} {k : Int} (hl : (ns.length : Int) = k) (k0 : 1 ≤ k) (k1 : k ≤ 4096) (H : Chn ns) {b : Block} {m s : Int} (m0 : k + 1 ≤ m) (m1 : m < 65536) (hb : b.root = mkRoot m) (hp : b.parent = mkRoot k) (hs : b.slot = k) (hst : isSt s = true) :
    findR ns b.parent = k - 1 ∧ insE ns b s = if 4096 ≤ k then 11 else 0 := by
  have e1 : findR ns b.parent = k - 1 := by
    refine findR_at (by omega) (by omega) ?_ fun j j0 j1 h => ?_
    · rw [(H (k - 1) (by omega) (by omega)).1, hp]
      congr 1; omega
    · rw [(H j j0 (by omega)).1, hp] at h
      have := mkRoot_inj (by omega) (by omega) (by omega) (by omega) h
      omega
  have e2 : findR ns b.root = -1 := by
    refine findR_none fun j j0 j1 h => ?_
    rw [(H j j0 j1).1, hb] at h
    have := mkRoot_inj (by omega) (by omega) (by omega) (by omega) h
    omega
  refine ⟨e1, ?_⟩
  unfold insE
  rw [e1, e2, if_neg (by simp [hst]), if_neg (by omega), if_neg (by omega), if_neg, hl]
  rw [hs, (H (k - 1) (by omega) (by omega)).2]
  omega
end Go.Ab.Try
