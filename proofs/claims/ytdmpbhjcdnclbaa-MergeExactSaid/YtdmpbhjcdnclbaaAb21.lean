/-
  Part Ab21 of the proof: an evaluator of the programs written in Lean once, its soundness, and the values that this program computes.
-/
import Derived.Test.YtdmpbhjcdnclbaaAb20
set_option linter.unusedVariables false
set_option linter.unusedSimpArgs false
namespace Go.Ab
open Go

def kCkpt : List (Option IntKind) := (([some .u64]) ++ (List.replicate 32 (some .u8)))
theorem dec_Ckpt {l : List AV} (h : Kinds kCkpt l) : ∃ x : Ckpt, l = cCkpt x := by
  unfold kCkpt at h
  obtain ⟨l0, r0, e0, a0, b0⟩ := Kinds.app h
  obtain ⟨x0, y0⟩ := dec_U64 a0
  obtain ⟨x1, y1⟩ := dec_Root b0
  refine ⟨⟨x0, x1⟩, ?_⟩
  simp only [cCkpt, e0, y0, y1]
def kPulled : List (Option IntKind) := (kCkpt ++ kCkpt)
theorem dec_Pulled {l : List AV} (h : Kinds kPulled l) : ∃ x : Pulled, l = cPulled x := by
  unfold kPulled at h
  obtain ⟨l0, r0, e0, a0, b0⟩ := Kinds.app h
  obtain ⟨x0, y0⟩ := dec_Ckpt a0
  obtain ⟨x1, y1⟩ := dec_Ckpt b0
  refine ⟨⟨x0, x1⟩, ?_⟩
  simp only [cPulled, e0, y0, y1]
def kBlock : List (Option IntKind) := (kPulled ++ (([some .u64]) ++ ((List.replicate 32 (some .u8)) ++ ((List.replicate 32 (some .u8)) ++ ((List.replicate 32 (some .u8)) ++ ((List.replicate 4 (some .u64)) ++ ((List.replicate 4 (some .u64)) ++ (kCkpt ++ (kCkpt ++ ([none]))))))))))
theorem dec_Block {l : List AV} (h : Kinds kBlock l) : ∃ x : Block, l = cBlock x := by
  unfold kBlock at h
  obtain ⟨l0, r0, e0, a0, b0⟩ := Kinds.app h
  obtain ⟨l1, r1, e1, a1, b1⟩ := Kinds.app b0
  obtain ⟨l2, r2, e2, a2, b2⟩ := Kinds.app b1
  obtain ⟨l3, r3, e3, a3, b3⟩ := Kinds.app b2
  obtain ⟨l4, r4, e4, a4, b4⟩ := Kinds.app b3
  obtain ⟨l5, r5, e5, a5, b5⟩ := Kinds.app b4
  obtain ⟨l6, r6, e6, a6, b6⟩ := Kinds.app b5
  obtain ⟨l7, r7, e7, a7, b7⟩ := Kinds.app b6
  obtain ⟨l8, r8, e8, a8, b8⟩ := Kinds.app b7
  obtain ⟨x0, y0⟩ := dec_Pulled a0
  obtain ⟨x1, y1⟩ := dec_U64 a1
  obtain ⟨x2, y2⟩ := dec_Root a2
  obtain ⟨x3, y3⟩ := dec_Root a3
  obtain ⟨x4, y4⟩ := dec_Root a4
  obtain ⟨x5, y5⟩ := dec_Wide a5
  obtain ⟨x6, y6⟩ := dec_Wide a6
  obtain ⟨x7, y7⟩ := dec_Ckpt a7
  obtain ⟨x8, y8⟩ := dec_Ckpt a8
  obtain ⟨x9, y9⟩ := dec_Bool b8
  refine ⟨⟨x0, x1, x2, x3, x4, x5, x6, x7, x8, x9⟩, ?_⟩
  simp only [cBlock, e0, e1, e2, e3, e4, e5, e6, e7, e8, y0, y1, y2, y3, y4, y5, y6, y7, y8, y9]
def kNode : List (Option IntKind) := (kBlock ++ (([some .i64]) ++ ([some .i64])))
theorem dec_Node {l : List AV} (h : Kinds kNode l) : ∃ x : Node, l = cNode x := by
  unfold kNode at h
  obtain ⟨l0, r0, e0, a0, b0⟩ := Kinds.app h
  obtain ⟨l1, r1, e1, a1, b1⟩ := Kinds.app b0
  obtain ⟨x0, y0⟩ := dec_Block a0
  obtain ⟨x1, y1⟩ := dec_Int a1
  obtain ⟨x2, y2⟩ := dec_Int b1
  refine ⟨⟨x0, x1, x2⟩, ?_⟩
  simp only [cNode, e0, e1, y0, y1, y2]
end Go.Ab
