/-
  Part Rt of the proof: what functions of this program compute.
-/
import Derived.Test.YtgpkmepalmdmeaaK10
import Derived.Test.YtgpkmepalmdmeaaRv
set_option linter.all false
set_option linter.unusedVariables false
set_option linter.unusedSimpArgs false
set_option maxRecDepth 100000
namespace Go.Ab.Try
open Go Go.Proofs Go.WideShapes Go.ChangeShapes Go.Ab
theorem els_nodes : ∀ els : List (List AV), (∀ l ∈ els, Kinds kNode l) → ∃ ns : List Node, els = ns.map cNode
  | [], _ => ⟨[], rfl⟩
  | l :: r, h => by
    obtain ⟨x, rfl⟩ := dec_Node (h l (by simp))
    obtain ⟨ns, rfl⟩ := els_nodes r fun m hm => h m (by simp [hm])
    exact ⟨x :: ns, rfl⟩
/-- A tree that came in. -/
theorem rel_tree {H : Type} {enc : TypeId × Value → H} {w : World} {base : Nat} {sp : Nat → Bool} {held : Bool} {v : Value} {d : DataW H} {p : List MemPlace}
    {W2 : World} {r : Reach} {b2 : Nat} (hv : Value.okWide Try.prog W2 r b2 25 v) (h : DataW.Trod enc Try.prog w base sp held 25 v d p) :
    ∃ ns : List Node, (ns.length : Int) ≤ 9223372036854775807 ∧ RelV (bare fun b o => w.heap[b]? = some o) (.agg (cTree ⟨ns⟩)) v := by
  have hu : ∃ f0 : Field, Try.prog.underlying 25 = some (.struct #[f0]) ∧ f0.offset = 0 ∧ f0.type = 23 := ⟨_, Try.underlying25, rfl, rfl⟩
  obtain ⟨f0, hu, ho, hty⟩ := hu
  have hsz : Try.prog.cellsOf 25 = 1 := by kernel_rfl
  have hs23 : Try.prog.cellsOf 23 = 1 := by kernel_rfl
  unfold Value.okWide at hv
  rw [hu] at hv
  obtain ⟨cs, rfl, hcs, _⟩ := hv
  obtain ⟨m, hm⟩ := h
  obtain ⟨y0, n, _, hl, h0⟩ := trod_struct1 hu hm
  rw [hty, ho, hs23] at h0
  obtain ⟨els, v, hc, h1, hk, hle, hr⟩ := rel_slice (d := 12) (ks := kNode) (e := 54) Try.underlying23 (by kernel_rfl) (by kernel_rfl) (by decide) h0
  obtain ⟨ns, rfl⟩ := els_nodes els hk
  have he : (ns.map cNode).flatten = csNode ns := by simp [csNode, List.flatMap]
  rw [he, List.length_map] at hr
  rw [List.length_map] at hle
  have hcl : cs = #[v] := by
    have hl1 : cs.toList.length = 1 := by simpa [hsz] using hcs
    have : (Value.agg cs).cells.toList = cs.toList := rfl
    rw [this, List.drop_zero, List.take_of_length_le (by omega)] at hc
    apply Array.ext'
    simpa using hc
  subst hcl
  refine ⟨ns, hle, .agg _ _ rfl (fun i x y hx hy => ?_) (fun i y hy => ?_)⟩
  · match i with
    | 0 =>
      have hx : some (AV.sl ns.length (csNode ns)) = some x := hx
      simp at hx hy
      subst hx; subst hy
      exact hr
    | i + 1 => simp [cTree] at hx
  · match i with
    | 0 => simp at hy; subst hy; exact h1
    | i + 1 => simp at hy
end Go.Ab.Try
