/-
  Part Ab5 of the proof: an evaluator of the programs written in Lean once, and its soundness.
-/
import Derived.Test.YtmcjkemalibacaaAb4
import Derived.Laws.Tables
import Derived.Laws.OwnMore
import Derived.Great.BuildSlice
set_option linter.all false
namespace Go.Ab
open Classical

theorem foldl_set (off : Nat) : ∀ (vs : List Value) (k : Nat) (cs : Array Value), off + k + vs.length ≤ cs.size →
    ((vs.zipIdx k).foldl (fun cs (x : Value × Nat) => cs.setIfInBounds (off + x.2) x.1) cs).toList = cs.toList.take (off + k) ++ vs ++ cs.toList.drop (off + k + vs.length)
  | [], k, cs, h => by simp
  | v :: vs, k, cs, h => by
    simp only [List.zipIdx_cons, List.foldl_cons]
    simp only [List.length_cons] at h
    rw [foldl_set off vs (k + 1) (cs.setIfInBounds (off + k) v) (by simp; omega)]
    have hlt : off + k < cs.size := by omega
    have hlt' : off + k < cs.toList.length := by simpa using hlt
    have e1 : (cs.setIfInBounds (off + k) v).toList = cs.toList.set (off + k) v := by simp
    rw [e1, show off + (k + 1) = off + k + 1 by omega]
    have e2 : cs.toList.set (off + k) v = cs.toList.take (off + k) ++ v :: cs.toList.drop (off + k + 1) := by
      rw [List.set_eq_take_append_cons_drop, if_pos hlt']
    have l1 : (cs.toList.take (off + k)).length = off + k := by simp; omega
    have e3 : (cs.toList.set (off + k) v).take (off + k + 1) = cs.toList.take (off + k) ++ [v] := by
      rw [e2, List.take_append, l1, List.take_of_length_le (by rw [l1]; omega), show off + k + 1 - (off + k) = 1 by omega]
      simp
    have e4 : (cs.toList.set (off + k) v).drop (off + k + 1 + vs.length) = cs.toList.drop (off + k + (vs.length + 1)) := by
      rw [e2, List.drop_append, l1, List.drop_of_length_le (by rw [l1]; omega), show off + k + 1 + vs.length - (off + k) = vs.length + 1 by omega]
      simp only [List.drop_succ_cons, List.nil_append, List.drop_drop]
      congr 1
      omega
    rw [e3, e4]
    simp

section
variable {P : Program} {h0 : Nat → Obj → Prop} {w0 : World} {F : Frm} {nt : Nat} {ρ : Nat → Nat → Value} {st : St} {a : Act} {w : World}

theorem fill_sound {C : Ctx} {place : Nat → Option (Nat × Nat)} : ∀ (parts : List (Nat × AV)) (pv : List (Nat × Value)) (cells : List AV) (ys : Array Value) (out : List AV),
    parts.map (·.1) = pv.map (·.1) → RelL C (parts.map (·.2)) (pv.map (·.2)) → (∀ p ∈ parts, p.2.stor = true) → CellL C cells ys.toList → fillA place cells parts = some out →
    ∃ zs, Instr.fill place ys pv = some zs ∧ CellL C out zs.toList
  | [], pv, cells, ys, out, h1, h2, h3, h4, h5 => by
    cases pv with
    | nil => simp [fillA] at h5; subst h5; exact ⟨ys, rfl, h4⟩
    | cons p pv => simp at h1
  | (i, x) :: parts, [], cells, ys, out, h1, _, _, _, _ => by simp at h1
  | (i, x) :: parts, (i', v) :: pv, cells, ys, out, h1, h2, h3, h4, h5 => by
    simp only [List.map_cons, List.cons.injEq] at h1
    obtain ⟨rfl, h1⟩ := h1
    simp only [List.map_cons] at h2
    have hx := h2.head
    have hc := hx.cells (h3 (i, x) (by simp))
    unfold fillA at h5
    unfold Instr.fill
    cases hp : place i with
    | none => simp [hp] at h5
    | some os =>
      obtain ⟨off, size⟩ := os
      simp only [hp] at h5 ⊢
      split at h5
      · rename_i hcond
        obtain ⟨c1, c2⟩ := hcond
        have hl := hc.len
        have hl4 := h4.len
        simp only [Array.length_toList] at hl hl4
        have hne : ¬ (v.cells.size ≠ size ∨ off + v.cells.size > ys.size) := by omega
        have hne' : (decide (v.cells.size ≠ size) || decide (off + v.cells.size > ys.size)) = false := by simp; omega
        rw [if_neg (by simpa using hne)]
        refine fill_sound parts pv _ _ out h1 h2.tail (fun p hp' => h3 p (by simp [hp'])) ?_ h5
        have e := foldl_set off v.cells.toList 0 ys (by simp; omega)
        simp only [Nat.add_zero, Array.length_toList] at e
        have e2 : (v.cells.zipIdx.foldl (fun cs (x : Value × Nat) => cs.setIfInBounds (off + x.2) x.1) ys).toList = ys.toList.take off ++ v.cells.toList ++ ys.toList.drop (off + v.cells.size) := by
          rw [← e, ← Array.foldl_toList, Array.toList_zipIdx]
        show CellL C _ (v.cells.zipIdx.foldl (fun cs (x : Value × Nat) => cs.setIfInBounds (off + x.2) x.1) ys).toList
        rw [e2]
        have e3 : off + size = off + v.cells.size := by omega
        rw [e3]
        exact ((h4.take off).app hc).app (h4.drop _)
      · cases h5

theorem zeroL_spec {T : Nat} {z : List Value} (h : zeroL P T = some z) : ∃ i zv, P.info? T = some i ∧ i.zero = some zv ∧ z = zv.cells.toList ∧ ∀ y ∈ z, y.oneCell' = true := by
  unfold zeroL at h
  split at h
  · rename_i i hi
    cases hz : i.zero with
    | none => simp [hz] at h
    | some zv =>
      simp only [hz] at h
      split at h
      · rename_i h1
        simp only [Option.some.injEq] at h
        subst h
        exact ⟨i, zv, hi, hz, rfl, List.all_eq_true.1 h1⟩
      · cases h
  · cases h

theorem build_sound (S : Sim F h0 w0 nt ρ st a w) {T : Nat} {parts : Array (Nat × Operand)} {z : AV} (h : buildA P st T parts.toList = some z) :
    ∃ r, (Instr.build T (parts.map fun (i, x) => (i, a.eval x))).run P w = .ok r w ∧ RelV (ctx h0 w0 ρ st w) z r := by
  unfold buildA at h
  cases hz : zeroL P T with
  | none => simp [hz] at h
  | some zs =>
    cases hp : placeOf P T with
    | none => simp [hz, hp] at h
    | some place =>
      simp only [hz, hp] at h
      split at h
      · rename_i hst
        simp only [Option.map_eq_some_iff] at h
        obtain ⟨out, hf, rfl⟩ := h
        obtain ⟨i, zv, hi, hzz, rfl, hz1⟩ := zeroL_spec hz
        have hrel : RelL (ctx h0 w0 ρ st w) ((parts.toList.map fun p => (p.1, st.ev p.2)).map (·.2)) ((parts.toList.map fun p => (p.1, a.eval p.2)).map (·.2)) := by
          simp only [List.map_map]
          exact RelL.map _ _ _ fun p _ => S.ev p.2
        obtain ⟨cells, hfill, hcell⟩ := fill_sound (place := place) (parts.toList.map fun p => (p.1, st.ev p.2)) (parts.toList.map fun p => (p.1, a.eval p.2)) _ zv.cells out (by simp) hrel
          (fun p hp' => by
            obtain ⟨q, hq, rfl⟩ := List.mem_map.1 hp'
            exact List.all_eq_true.1 hst q hq) (CellL.vs _ _ hz1) hf
        have hbuilt : P.built T (parts.map fun (i, x) => (i, a.eval x)).toList = some cells := by
          unfold Program.built
          unfold placeOf at hp
          split at hp
          · rename_i fs hu
            split at hp
            · rename_i hall
              simp only [Option.some.injEq] at hp
              simp only [hi, hu, hzz]
              have hm : fs.toList.mapM (fun f => (P.info? f.type).map fun i => (f.offset, i.size)) = some (fs.toList.map fun f => (f.offset, P.cellsOf f.type)) := by
                have hall' : ∀ f ∈ fs.toList, (P.info? f.type).isSome = true := fun f hf => Array.all_eq_true_iff_forall_mem.1 hall f (Array.mem_toList_iff.1 hf)
                generalize fs.toList = l at hall'
                induction l with
                | nil => rfl
                | cons f l ih =>
                  obtain ⟨j, hj⟩ := Option.isSome_iff_exists.1 (hall' f (by simp))
                  rw [List.mapM_cons, ih fun g hg => hall' g (by simp [hg])]
                  simp [hj, cellsOf_info hj]
              rw [hm]
              simp only
              have : (fun x => (fs.toList.map fun f => (f.offset, P.cellsOf f.type)).toArray[x]?) = place := by
                rw [← hp]
                funext j
                simp
              rw [this]
              simpa using hfill
            · cases hp
          · rename_i n e hu
            split at hp
            · rename_i hsome
              obtain ⟨ie, hie⟩ := Option.isSome_iff_exists.1 hsome
              simp only [Option.some.injEq] at hp
              simp only [hi, hu, hzz, hie]
              rw [← hp] at hfill
              simpa [cellsOf_info hie] using hfill
            · cases hp
          · cases hp
        refine ⟨_, run_build w T _ cells hbuilt, ?_⟩
        exact .agg _ _ (by simpa using hcell.len) (fun j x y hx hy => hcell.rel j x y hx (by simpa using hy)) (fun j y hy => hcell.one j y (by simpa using hy))
      · cases h
end
end Go.Ab
