/-
  Part C1 of the proof: pruning a pruned tree.
-/
import Derived.Test.YtgpkmepalmdmeaaA10
import Derived.Test.YtgpkmepalmdmeaaG3b
set_option linter.all false
set_option linter.unusedSimpArgs false
set_option linter.unusedVariables false
set_option maxRecDepth 20000
namespace Go.Ab.Try
open Classical Go.Proofs Go.Ab
/-- What stands where in the pruned list. -/
theorem prF_at {ns : List Node} (hu : UpOk ns) {i : Int} : ∀ k : Nat, k ≤ ns.length → ∀ a : Int, 0 ≤ a → a < k → anc ns i a = true →
    0 ≤ it (prF ns i k).2 a ∧ it (prF ns i k).2 a < (prF ns i k).1.length ∧ nd (prF ns i k).1 (it (prF ns i k).2 a) = { nd ns a with up := if a = i then -1 else it (prF ns i k).2 (nd ns a).up }
  | 0, _, a, a0, a1, _ => by omega
  | k + 1, hk, a, a0, a1, ha => by
    have hl := prF_idx ns i k
    have hup : a ≠ i → 0 ≤ (nd ns a).up ∧ (nd ns a).up < a := fun h => by
      by_cases ha0 : a = 0
      · subst ha0; rw [anc_zero (by omega)] at ha; simp at ha; omega
      · exact hu a (by omega) (by omega)
    by_cases hak : a < k
    · obtain ⟨h1, h2, h3⟩ := prF_at hu k (by omega) a a0 hak ha
      simp only [prF]
      split
      · simp only
        rw [it_app_lt a0 (by omega), nd_app_lt h1 h2, h3]
        refine ⟨h1, by simp; omega, ?_⟩
        by_cases hai : a = i
        · rw [if_pos hai, if_pos hai]
        · obtain ⟨u0, u1⟩ := hup hai
          rw [if_neg hai, if_neg hai, it_app_lt u0 (by omega)]
      · simp only
        rw [it_app_lt a0 (by omega), h3]
        refine ⟨h1, h2, ?_⟩
        by_cases hai : a = i
        · rw [if_pos hai, if_pos hai]
        · obtain ⟨u0, u1⟩ := hup hai
          rw [if_neg hai, if_neg hai, it_app_lt u0 (by omega)]
    · have hak : a = k := by omega
      subst hak
      simp only [prF, ha, if_true]
      rw [it_app_eq (by omega), nd_app_eq rfl]
      refine ⟨by omega, by simp <;> omega, ?_⟩
      by_cases hai : (k : Int) = i
      · rw [if_pos hai, if_pos hai]
      · obtain ⟨u0, u1⟩ := hup hai
        rw [if_neg hai, if_neg hai, it_app_lt u0 (by omega)]
theorem prF_stable (ns : List Node) (i : Int) : ∀ (d k : Nat) (a : Int), 0 ≤ a → a < k → it (prF ns i (k + d)).2 a = it (prF ns i k).2 a
  | 0, k, a, _, _ => rfl
  | d + 1, k, a, a0, a1 => by
    have ih := prF_stable ns i d k a a0 a1
    have hl := prF_idx ns i (k + d)
    rw [← ih, ← Nat.add_assoc]
    simp only [prF]
    split
    · simp only; rw [it_app_lt a0 (by omega)]
    · simp only; rw [it_app_lt a0 (by omega)]
theorem prF_pos {ns : List Node} {i : Int} {n : Nat} {k : Nat} (hk : k < n) (ha : anc ns i k = true) : it (prF ns i n).2 k = (prF ns i k).1.length := by
  obtain ⟨d, rfl⟩ : ∃ d, n = k + 1 + d := ⟨n - (k + 1), by omega⟩
  rw [prF_stable ns i d (k + 1) k (by omega) (by omega)]
  have hl := prF_idx ns i k
  simp only [prF, ha, if_true]
  rw [it_app_eq (by omega)]
/-- The positions rise. -/
theorem prF_mono {ns : List Node} (hu : UpOk ns) {i : Int} {n : Nat} (hn : n ≤ ns.length) {a b : Int} (a0 : 0 ≤ a) (hab : a < b) (hb : b < n) (ha : anc ns i a = true) (hb' : anc ns i b = true) : it (prF ns i n).2 a < it (prF ns i n).2 b := by
  obtain ⟨k, rfl⟩ : ∃ k : Nat, b = k := ⟨b.toNat, by omega⟩
  rw [prF_pos (by omega) hb']
  obtain ⟨d, rfl⟩ : ∃ d, n = k + d := ⟨n - k, by omega⟩
  rw [prF_stable ns i d k a a0 hab]
  exact (prF_at hu k (by omega) a a0 hab ha).2.1
theorem prF_onto (ns : List Node) (i : Int) : ∀ (k : Nat) (m : Int), 0 ≤ m → m < (prF ns i k).1.length → ∃ a : Int, 0 ≤ a ∧ a < k ∧ anc ns i a = true ∧ it (prF ns i k).2 a = m
  | 0, m, m0, m1 => by simp [prF] at m1; omega
  | k + 1, m, m0, m1 => by
    have hl := prF_idx ns i k
    simp only [prF] at m1 ⊢
    split at m1
    · rename_i h
      rw [if_pos h]
      simp only at m1 ⊢
      by_cases hm : m < (prF ns i k).1.length
      · obtain ⟨a, a0, a1, ha, he⟩ := prF_onto ns i k m m0 hm
        exact ⟨a, a0, by omega, ha, by rw [it_app_lt a0 (by omega)]; exact he⟩
      · simp at m1
        exact ⟨k, by omega, by omega, h, by rw [it_app_eq (by omega)]; omega⟩
    · rename_i h
      rw [if_neg h]
      simp only at m1 ⊢
      obtain ⟨a, a0, a1, ha, he⟩ := prF_onto ns i k m m0 m1
      exact ⟨a, a0, by omega, ha, by rw [it_app_lt a0 (by omega)]; exact he⟩
end Go.Ab.Try
