/-
  Part H1 of the proof: what functions of this program compute.
-/
import Derived.Test.YtgpkmepalmdmeaaK7
import Derived.Test.YtgpkmepalmdmeaaK8
set_option linter.all false
set_option linter.unusedSimpArgs false
set_option linter.unusedVariables false
set_option maxRecDepth 20000
set_option maxHeartbeats 4000000
namespace Go.Ab.Try
open Classical Go.Proofs Go.Ab
theorem path_nz {ns : List Node} (hu : UpOk ns) {c : Int} (c0 : 0 ≤ c) (c1 : c < ns.length) : 0 < (path ns c).length := List.length_pos_iff.2 fun h => by
  have := path_self hu c0 c1
  rw [h] at this
  cases this
theorem path_last {ns : List Node} (hu : UpOk ns) {c : Int} (c0 : 0 ≤ c) (c1 : c < ns.length) : it (path ns c) ((path ns c).length - 1 : Int) = c := by
  by_cases h : c = 0
  · subst h
    rw [path_zero (by omega)]
    rfl
  · rw [path_step hu (by omega) c1]
    exact it_app_eq (by simp)
/-- What stands before the end of a path is less than its end. -/
theorem path_asc {ns : List Node} (hu : UpOk ns) {c : Int} (c0 : 0 ≤ c) (c1 : c < ns.length) {k : Int} (k0 : 0 ≤ k) (k1 : k < (path ns c).length - 1) : it (path ns c) k < c := by
  by_cases h : c = 0
  · subst h
    rw [path_zero (by omega)] at k1
    simp at k1
    omega
  · obtain ⟨u0, u1⟩ := hu c (by omega) c1
    rw [path_step hu (by omega) c1] at k1 ⊢
    simp at k1
    rw [it_app_lt k0 (by omega)]
    have := (path_mem hu _ _ rfl u0 (by omega) _ (it_mem k0 (by omega : k < (path ns (nd ns c).up).length))).2
    omega
theorem heirF_path {ns : List Node} (hu : UpOk ns) : ∀ (n : Nat) (c : Int), c.toNat = n → 0 ≤ c → c < ns.length → ∀ k : Int, 1 ≤ k → k < (path ns c).length → ∀ f : Nat, c.toNat ≤ f → heirF ns (it (path ns c) (k - 1)) f c = it (path ns c) k := by
  intro n
  induction n using Nat.strongRecOn with
  | _ n ih =>
    intro c hc c0 c1 k k0 k1 f hf
    by_cases h : c = 0
    · subst h
      rw [path_zero (by omega)] at k1
      simp at k1
      omega
    · obtain ⟨u0, u1⟩ := hu c (by omega) c1
      obtain ⟨f, rfl⟩ : ∃ f', f = f' + 1 := ⟨f - 1, by omega⟩
      rw [path_step hu (by omega) c1] at k1 ⊢
      simp at k1
      simp only [heirF]
      rw [it_app_lt (by omega) (by omega)]
      by_cases hk : k = (path ns (nd ns c).up).length
      · rw [it_app_eq hk, hk, path_last hu u0 (by omega), if_pos rfl]
      · have hlt := path_asc hu u0 (by omega) (k := k - 1) (by omega) (by omega)
        rw [it_app_lt (by omega) (by omega), if_neg (by omega)]
        exact ih (nd ns c).up.toNat (by omega) _ rfl u0 (by omega) k k0 (by omega) f (by omega)
theorem heirV_at {ns : List Node} (hu : UpOk ns) {b : Int} (b0 : 0 ≤ b) (b1 : b < ns.length) {k : Int} (k0 : 1 ≤ k) (k1 : k < (path ns b).length) : heirV ns (it (path ns b) (k - 1)) b = it (path ns b) k := by
  have h1 := path_asc hu b0 b1 (k := k - 1) (by omega) (by omega)
  have h2 : anc ns (it (path ns b) (k - 1)) b = true := decide_eq_true (it_mem (by omega) (by omega))
  unfold heirV
  rw [if_neg (by rintro (h | h); omega; rw [h2] at h; cases h)]
  exact heirF_path hu _ b rfl b0 b1 k k0 k1 _ (Nat.le_refl _)
theorem heirV_none {ns : List Node} (hu : UpOk ns) {a b : Int} (h : ∀ k : Int, 1 ≤ k → k < (path ns b).length → it (path ns b) (k - 1) ≠ a) : heirV ns a b = -1 := by
  unfold heirV
  by_cases hb : 0 ≤ b ∧ b < ns.length
  · refine if_pos ?_
    by_cases hab : a = b
    · exact .inl hab
    · refine .inr ?_
      unfold anc
      rw [decide_eq_false_iff_not]
      intro hm
      obtain ⟨j, hj, he⟩ := List.getElem_of_mem hm
      have hit : it (path ns b) j = a := by rw [← he]; simp [it, hj]
      by_cases hl : (j : Int) = (path ns b).length - 1
      · rw [hl, path_last hu hb.1 hb.2] at hit
        exact hab hit.symm
      · refine h (j + 1) (by omega) (by omega) ?_
        rw [show (j : Int) + 1 - 1 = j by omega]
        exact hit
  · refine if_pos (.inr (anc_range hu fun h => hb h.2))
end Go.Ab.Try
