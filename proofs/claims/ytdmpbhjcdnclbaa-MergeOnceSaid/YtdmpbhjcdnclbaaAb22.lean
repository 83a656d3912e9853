/-
  Part Ab22 of the proof: an evaluator of the programs written in Lean once, and its soundness.
-/
import Derived.Test.YtdmpbhjcdnclbaaAb19
import Derived.ChangeSlices
import Derived.ChangeShapes
set_option linter.all false
set_option linter.unusedVariables false
set_option linter.unusedSimpArgs false
namespace Go.Ab
open Go Go.WideShapes Go.ChangeShapes
/-- A slice of integers that came in, as a slice that nobody writes. -/
theorem rel_ints {H : Type} {enc : TypeId × Value → H} {P : Program} {w : World} {base : Nat} {held : Bool} {t e : TypeId} {k : IntKind} {v : Value} {d : DataW H} {p : List MemPlace} (ht : P.underlying t = some (.slice e)) (he : P.underlying e = some (.int k)) (hc : P.cellsOf e = 1)
    {W2 : World} {r : Reach} {b2 : Nat} (hv : Value.okWide P W2 r b2 t v) (h : DataW.Trod enc P w base (fun _ => true) held t v d p) :
    ∃ l : List Int, (l.length : Int) ≤ 9223372036854775807 ∧ RelV (bare fun b o => w.heap[b]? = some o) (.sl l.length (l.map fun x => .v (.int k x))) v := by
  obtain ⟨a0, len0, cap0, rfl⟩ := okWide_slice ht hv
  obtain ⟨m, hm⟩ := h
  rcases open_ints ht he hc hm with ⟨h1, h2⟩ | ⟨a, len, cap, zs, h1, hb, hl, hcm, hzl, hx, hcell, hwf⟩
  · simp [Value.cells] at h1
    obtain ⟨rfl, rfl, rfl⟩ := h1
    exact ⟨[], by simp, .sl0 0 0 none (Nat.le_refl _)⟩
  · simp [Value.cells] at h1
    obtain ⟨rfl, rfl, rfl⟩ := h1
    simp only [if_true] at hzl
    have hlen : (zs.take len0).length = len0 := by simp; omega
    refine ⟨zs.take len0, by rw [hlen]; simp only [maxLen] at hcm; omega, ?_⟩
    rw [hlen]
    rcases Nat.eq_zero_or_pos len0 with h0 | h0
    · subst h0
      exact .sl0 0 cap0 _ hl
    · have hc0 := hcell 0 (by omega)
      have ha : a.add 0 = a := by simp [Addr.add]
      rw [ha] at hc0
      unfold World.cell? at hc0
      split at hc0
      · rename_i arr T fr hblk
        split at hc0
        · cases hc0
        · rename_i hsp
          obtain ⟨blk, off, spot⟩ := a
          simp only at hblk hc0 hsp
          have hspn : spot = none := by cases spot <;> simp at hsp ⊢
          subst hspn
          have each : ∀ i, i < zs.length → arr[off + i]? = some (.int k (zs.getD i 0)) := fun i hi => by
            have := hcell i hi
            rw [addr_add] at this
            rw [cell_of_row w blk (off + i) arr T fr hblk] at this
            exact this
          have hsz : off + zs.length ≤ arr.size := by
            rcases Nat.eq_zero_or_pos zs.length with hz | hz
            · omega
            · have := (Array.getElem?_eq_some_iff.1 (each (zs.length - 1) (by omega))).1
              omega
          refine .sl _ _ blk off cap0 arr T fr hl hblk (by simp; omega) (fun i x y hx hy => ?_) (fun i y hi hy => ?_)
          · have hi : i < len0 := by
              have := (List.getElem?_eq_some_iff.1 hx).1
              simp at this; omega
            rw [each i (by omega)] at hy
            simp only [Option.some.injEq] at hy
            subst hy
            rw [List.getElem?_map, List.getElem?_take, if_pos hi] at hx
            have hz : zs[i]? = some (zs.getD i 0) := by simp [show i < zs.length by omega]
            rw [hz] at hx
            simp at hx
            subst hx
            exact .v _
          · have hi' : i < zs.length := by simp at hi; omega
            rw [each i hi'] at hy
            simp only [Option.some.injEq] at hy
            subst hy
            rfl
      · cases hc0
theorem csInt_map (l : List Int) : csInt l = l.map fun x => .v (.int .i64 x) := by
  induction l with
  | nil => rfl
  | cons a l ih => simp only [csInt, List.flatMap_cons, List.map_cons, cInt] at *; rw [ih]; rfl
end Go.Ab
