/-
  Part A7 of the proof: what the functions of the ancestry compute.
-/
import Derived.Test.YtgpkmepalmdmeaaA5
import Derived.Test.YtgpkmepalmdmeaaG5
set_option linter.all false
set_option linter.unusedSimpArgs false
set_option linter.unusedVariables false
set_option maxRecDepth 20000
set_option maxHeartbeats 4000000
namespace Go.Ab.Try
open Classical Go.Proofs Go.Ab
/-- A node's slot is the greatest of its path. -/
theorem path_slot {ns : List Node} (g : Good ns) : ∀ (k : Nat) (i : Int), i.toNat = k → 0 ≤ i → i < ns.length → ∀ x ∈ path ns i, (nd ns x).block.slot ≤ (nd ns i).block.slot := by
  intro k
  induction k using Nat.strongRecOn with
  | _ k ih =>
    intro i hk i0 i1 x hx
    by_cases hi : i = 0
    · subst hi; rw [path_zero (by omega)] at hx; simp at hx; subst hx; omega
    · obtain ⟨u0, u1⟩ := g.up i (by omega) i1
      have hs := g.slot i (by omega) i1
      rw [path_step g.up (by omega) i1] at hx
      rcases List.mem_append.1 hx with hx | hx
      · have := ih (nd ns i).up.toNat (by omega) _ rfl u0 (by omega) x hx; omega
      · simp at hx; subst hx; omega
/-- Facts of the last slot on the path. -/
theorem at_fact {ns : List Node} (g : Good ns) {s : Int} (hs : 0 ≤ s) : ∀ (k : Nat) (i : Int), i.toNat = k → 0 ≤ i → i < ns.length →
    anc ns (atV ns i s) i = true ∧ (nd ns (atV ns i s)).block.slot ≤ s ∧ ∀ x, anc ns x i = true → (nd ns x).block.slot ≤ s → anc ns x (atV ns i s) = true := by
  intro k
  induction k using Nat.strongRecOn with
  | _ k ih =>
    intro i hk i0 i1
    by_cases hsl : (nd ns i).block.slot ≤ s
    · rw [atV_hit g.up ⟨i0, i1⟩ hsl]
      exact ⟨by unfold anc; exact decide_eq_true (path_self g.up i0 i1), hsl, fun x hx _ => hx⟩
    · by_cases hi : i = 0
      · exfalso; subst hi; have := g.slotB 0 (by omega) i1; omega
      · obtain ⟨u0, u1⟩ := g.up i (by omega) i1
        rw [atV_up g.up g.up0 ⟨i0, i1⟩ hsl]
        obtain ⟨h1, h2, h3⟩ := ih (nd ns i).up.toNat (by omega) _ rfl u0 (by omega)
        refine ⟨?_, h2, fun x hx hxs => h3 x ?_ hxs⟩
        · have := anc_le g.up h1
          rw [anc_up g.up i1 (by omega) (anc_in g.up h1).1.1]; exact h1
        · have hne : x ≠ i := by rintro rfl; exact hsl hxs
          have := anc_le g.up hx
          rw [← anc_up g.up i1 (by omega) (anc_in g.up hx).1.1]; exact hx
/-- Heir's answer. -/
theorem heirF_fact {ns : List Node} (g : Good ns) (a : Int) : ∀ (f : Nat) (c : Int), c.toNat ≤ f → a < c → anc ns a c = true →
    (nd ns (heirF ns a f c)).up = a ∧ anc ns (heirF ns a f c) c = true ∧ a < heirF ns a f c
  | 0, c, hf, hac, h => by have := (anc_in g.up h).1.1; omega
  | f + 1, c, hf, hac, h => by
    obtain ⟨⟨a0, _⟩, c0, c1⟩ := anc_in g.up h
    obtain ⟨u0, u1⟩ := g.up c (by omega) c1
    simp only [heirF]
    by_cases hup : (nd ns c).up = a
    · rw [if_pos hup]
      exact ⟨hup, by unfold anc; exact decide_eq_true (path_self g.up c0 c1), hac⟩
    · rw [if_neg hup]
      have h' : anc ns a (nd ns c).up = true := by rw [← anc_up g.up c1 hac a0]; exact h
      have := anc_le g.up h'
      obtain ⟨e1, e2, e3⟩ := heirF_fact g a f (nd ns c).up (by omega) (by omega) h'
      refine ⟨e1, ?_, e3⟩
      have := anc_le g.up e2
      rw [anc_up g.up c1 (by omega) (anc_in g.up e2).1.1]; exact e2
theorem heir_neg {ns : List Node} (g : Good ns) {a b : Int} (h : anc ns a b = true) : (heirV ns a b < 0 ↔ a = b) := by
  unfold heirV
  by_cases hab : a = b
  · rw [if_pos (.inl hab)]; simp [hab]
  · rw [if_neg (by rintro (h' | h'); exact hab h'; rw [h] at h'; cases h')]
    have := anc_le g.up h
    have a0 := (anc_in g.up h).1.1
    have := heirF_fact g a b.toNat b (Nat.le_refl _) (by omega) h
    constructor
    · intro h; omega
    · intro h; exact absurd h hab
theorem heir_pos {ns : List Node} (g : Good ns) {a b : Int} (h : anc ns a b = true) (hab : a ≠ b) : (nd ns (heirV ns a b)).up = a ∧ anc ns (heirV ns a b) b = true ∧ a < heirV ns a b := by
  unfold heirV
  rw [if_neg (by rintro (h' | h'); exact hab h'; rw [h] at h'; cases h')]
  have := anc_le g.up h
  exact heirF_fact g a b.toNat b (Nat.le_refl _) (by omega) h
end Go.Ab.Try
