/-
  Part Rv of the proof: slices.Reverse at ints, by the shelf.
-/
import Derived.Test.YtgpkmepalmdmeaaX2
import Derived.Test.YtgpkmepalmdmeaaProg
import Derived.Shelf.Slices.Reverse
import Derived.Sort.OwnSortedInts
import Derived.KernelRfl
set_option linter.all false
set_option linter.unusedVariables false
set_option linter.unusedSimpArgs false
set_option maxRecDepth 100000
namespace Go.Ab.Try
open Classical Go Go.Proofs Go.Shelf Go.Lib Go.Sort
def ren89 : Ren := ⟨fun n => if n = 112 then 89 else n, fun n => if n = 28 then 22 else n, fun n => n⟩
theorem lays89 : Lays.n112 Try.prog ren89 := {
  mixed := by kernel_rfl
  f112 := by kernel_rfl
  t0 := by kernel_rfl
  a0 := fun w => rfl
  z0 := fun w => rfl
  v0 := fun w => rfl
  t3 := by kernel_rfl
  a3 := fun w => rfl
  z3 := fun w => rfl
  v3 := fun w => rfl
  t4 := by kernel_rfl
  a4 := fun w => rfl
  z4 := fun w => rfl
  v4 := fun w => rfl
  t28 := by kernel_rfl
  a28 := fun w => rfl
  z28 := fun w => rfl
  v28 := fun w => rfl }
theorem rel_csInt {C : Ctx} {l : List Int} {ys : List Value} (h : CellL C (csInt l) ys) : ys = l.map (Value.int .i64) := by
  have hl := h.len
  have hc : csInt l = l.map fun x => AV.v (.int .i64 x) := by
    clear h hl
    induction l with
    | nil => rfl
    | cons a l ih => simp only [csInt, List.flatMap_cons, List.map_cons, cInt] at *; rw [ih]; rfl
  rw [hc] at h hl
  simp only [List.length_map] at hl
  apply List.ext_getElem (by simpa using hl.symm)
  intro i h1 h2
  have := h.rel i (.v (.int .i64 (l[i]'(by simpa using h2)))) ys[i] (by simp [show i < l.length by simpa using h2]) (by simp)
  have := relV_v this
  simp [this]
theorem cellL_ints (C : Ctx) (l : List Int) : CellL C (csInt l) (l.map (Value.int .i64)) := by
  have hc : csInt l = (l.map (Value.int .i64)).map AV.v := by
    induction l with
    | nil => rfl
    | cons a l ih => simp only [csInt, List.flatMap_cons, List.map_cons, cInt] at *; rw [ih]; rfl
  rw [hc]
  exact CellL.vs C _ (fun y hy => by obtain ⟨x, _, rfl⟩ := List.mem_map.1 hy; rfl)
theorem csInt_rev (l : List Int) : (csInt l).reverse = csInt l.reverse := by
  have hc : ∀ l : List Int, csInt l = l.map fun x => AV.v (.int .i64 x) := fun l => by
    induction l with
    | nil => rfl
    | cons a l ih => simp only [csInt, List.flatMap_cons, List.map_cons, cInt] at *; rw [ih]; rfl
  rw [hc, hc, List.map_reverse]
theorem ext_ok : ExtOk Try.prog := by
  intro g xs r h0
  have h : ext2 g xs = some r := h0
  clear h0
  unfold ext2 at h
  split at h
  · rename_i hg
    subst hg
    split at h
    · simp only [Option.some.injEq] at h
      subst h
      refine ⟨⟨Try.f89, Try.func89, by kernel_rfl, by kernel_rfl⟩, ?_⟩
      suffices key : SoundC Try.prog 89 [.v (.slice none 0 0)] (.tup []) from by simp only [SoundX]; exact key
      intro w h0 vs hh hrel
      have hvs : vs = #[.slice none 0 0] := by
        have hl := hrel.len
        cases hv : vs.toList with
        | nil => rw [hv] at hl; simp at hl
        | cons v0 vr =>
          rw [hv] at hrel hl
          have h1 := relV_v hrel.head
          have h2 : vr = [] := List.length_eq_zero_iff.1 (by simp only [List.length_cons, List.length_nil] at hl; omega)
          apply Array.ext'
          rw [hv, h1, h2]
      subst hvs
      refine (Any.slices_Reverse_int_empty lays89 none 0 w).mono ?_
      rintro en w' ⟨rfl, rfl⟩
      refine ⟨_, rfl, ⟨[], by simp, by simp, by simp, fun d c => rfl, fun D d c _ _ => ⟨.tup [] #[] rfl (by simp), by simp [opn, opnL]⟩⟩, ?_⟩
      exact ⟨rfl, rfl, rfl, Nat.le_refl _, fun _ _ _ => rfl⟩
    · rename_i e sz n cs
      split at h
      · rename_i hc
        obtain ⟨rfl, rfl, l, rfl, rfl⟩ := hc
        simp only [Option.some.injEq] at h
        subst h
        refine ⟨⟨Try.f89, Try.func89, by kernel_rfl, by kernel_rfl⟩, ?_⟩
        suffices key : SoundM Try.prog 89 3 1 l.length (csInt l) [] (.tup [.uniq 3 1 l.length (csInt l).reverse]) from by simp only [SoundX]; exact key
        intro w h0 v0 ys vs hh hav ho hcell hrel
        have hvs : vs = #[] := by
          have := hrel.len
          apply Array.ext'
          simp only [List.length_nil] at this
          exact List.length_eq_zero_iff.1 this.symm
        subst hvs
        have hys := rel_csInt hcell
        subst hys
        rw [csInt_rev]
        rcases ho.2 with ⟨p, rfl, hn⟩ | ⟨blk, cap, cur, rfl, hb, hblk, hnc, hcm, hcs, ht, hc0⟩
        · have hl : l = [] := List.length_eq_zero_iff.1 hn
          subst hl
          refine (Any.slices_Reverse_int_empty lays89 p 0 w).mono ?_
          rintro en w' ⟨rfl, rfl⟩
          refine ⟨_, rfl, ?_, rfl, [], ⟨by simp, .inl ⟨p, rfl, rfl⟩⟩, .nil _⟩
          exact ⟨rfl, rfl, rfl, Nat.le_refl _, fun _ _ _ => rfl⟩
        · have hH : Holds (Value.int .i64) w blk 0 l.toArray := holds_of_blockI hblk (by rw [← ht]; simp)
          refine (Any.slices_Reverse_int lays89 blk 0 cap l w hH (by simp only [maxLen] at hcm; omega)).mono ?_
          rintro en w' ⟨rfl, m, rfl⟩
          have e1 : putRow (Value.int .i64) (Sort.ahead w m) blk 0 l.reverse.toArray = grow (putRow (Value.int .i64) (Sort.ahead w m) blk 0 l.reverse.toArray) #[] := (grow_empty _).symm
          refine ⟨_, rfl, ?_, rfl, l.reverse.map (Value.int .i64), ?_, cellL_ints _ _⟩
          · rw [blkOf_sl hc0, e1]
            exact grownBy_sortedI _
          · rw [e1]
            exact ownsR_of (ownsRow_sortedI (by simp) (Nat.zero_le _) hblk hnc hcm hcs)
      · cases h
    · cases h
  · cases h
end Go.Ab.Try
