/-
  Part C2 of the proof: pruning a pruned tree.
-/
import Derived.Test.YtgpkmepalmdmeaaC1
set_option linter.all false
set_option linter.unusedSimpArgs false
set_option linter.unusedVariables false
set_option maxRecDepth 20000
namespace Go.Ab.Try
open Classical Go.Proofs Go.Ab
theorem anc_ne' {ns : List Node} (hu : UpOk ns) {i k : Int} (k0 : 0 < k) (k1 : k < ns.length) (h : k ≠ i) : anc ns i k = anc ns i (nd ns k).up := anc_step hu k0 k1 (Ne.symm h)
section
variable {ns : List Node} {i : Int}
theorem pr_at (hu : UpOk ns) {a : Int} (ha : anc ns i a = true) : 0 ≤ it (prF ns i ns.length).2 a ∧ it (prF ns i ns.length).2 a < (prF ns i ns.length).1.length ∧ nd (prF ns i ns.length).1 (it (prF ns i ns.length).2 a) = { nd ns a with up := if a = i then -1 else it (prF ns i ns.length).2 (nd ns a).up } := by
  have h := (anc_in hu ha).2
  exact prF_at hu ns.length (Nat.le_refl _) a h.1 h.2 ha
theorem pr_mono (hu : UpOk ns) {a b : Int} (hab : a < b) (ha : anc ns i a = true) (hb : anc ns i b = true) : it (prF ns i ns.length).2 a < it (prF ns i ns.length).2 b :=
  prF_mono hu (Nat.le_refl _) (anc_in hu ha).2.1 hab (anc_in hu hb).2.2 ha hb
theorem pr_inj (hu : UpOk ns) {a b : Int} (ha : anc ns i a = true) (hb : anc ns i b = true) (h : it (prF ns i ns.length).2 a = it (prF ns i ns.length).2 b) : a = b := by
  rcases Int.lt_trichotomy a b with h1 | h1 | h1
  · have := pr_mono hu h1 ha hb; omega
  · exact h1
  · have := pr_mono hu h1 hb ha; omega
theorem pr_zero (hu : UpOk ns) (hi : anc ns i i = true) : it (prF ns i ns.length).2 i = 0 := by
  obtain ⟨h1, h2, _⟩ := pr_at hu hi
  obtain ⟨a, a0, a1, ha, he⟩ := prF_onto ns i ns.length 0 (Int.le_refl 0) (by omega)
  have := anc_le hu ha
  by_cases h : i = a
  · rw [h] at he ⊢
    rw [← h] at he ⊢
    exact he
  · have := pr_mono hu (show i < a by omega) hi ha
    omega
/-- A descendant that is not the root has its parent among the descendants. -/
theorem pr_up (hu : UpOk ns) {a : Int} (ha : anc ns i a = true) (h : a ≠ i) : 0 < a ∧ (0 ≤ (nd ns a).up ∧ (nd ns a).up < a) ∧ anc ns i (nd ns a).up = true := by
  obtain ⟨⟨i0, _⟩, a0, a1⟩ := anc_in hu ha
  have := anc_le hu ha
  have hp : 0 < a := by omega
  refine ⟨hp, hu a hp a1, ?_⟩
  rw [← anc_up hu a1 (by omega) i0]; exact ha
theorem pr_upok (hu : UpOk ns) (hi : anc ns i i = true) : UpOk (prF ns i ns.length).1 := by
  intro m m0 m1
  obtain ⟨a, a0, a1, ha, rfl⟩ := prF_onto ns i ns.length m (by omega) m1
  have hai : a ≠ i := by rintro rfl; rw [pr_zero hu hi] at m0; omega
  obtain ⟨_, ⟨u0, u1⟩, hup⟩ := pr_up hu ha hai
  rw [(pr_at hu ha).2.2]
  simp only [if_neg hai]
  exact ⟨(pr_at hu hup).1, pr_mono hu u1 hup ha⟩
theorem pr_anc (hu : UpOk ns) (hi : anc ns i i = true) : ∀ (k : Nat) (a b : Int), b.toNat = k → anc ns i a = true → anc ns i b = true → anc (prF ns i ns.length).1 (it (prF ns i ns.length).2 a) (it (prF ns i ns.length).2 b) = anc ns a b := by
  intro k
  induction k using Nat.strongRecOn with
  | _ k ih =>
    intro a b hk ha hb
    have hU := pr_upok hu hi
    obtain ⟨p1, p2, p3⟩ := pr_at hu hb
    obtain ⟨q1, q2, q3⟩ := pr_at hu ha
    by_cases hab : a = b
    · subst hab
      have e1 : anc (prF ns i ns.length).1 (it (prF ns i ns.length).2 a) (it (prF ns i ns.length).2 a) = true := decide_eq_true (path_self hU p1 p2)
      have e2 : anc ns a a = true := decide_eq_true (path_self hu (anc_in hu ha).2.1 (anc_in hu ha).2.2)
      rw [e1, e2]
    · have hne : it (prF ns i ns.length).2 a ≠ it (prF ns i ns.length).2 b := fun h => hab (pr_inj hu ha hb h)
      by_cases hbi : b = i
      · subst hbi
        have e1 : anc ns a b = false := by
          rw [← Bool.not_eq_true]
          intro h
          exact hab (anc_anti hu h ha)
        rw [e1, pr_zero hu hi, anc_zero (by omega)]
        rw [pr_zero hu hi] at hne
        simpa using hne
      · obtain ⟨b0, ⟨u0, u1⟩, hup⟩ := pr_up hu hb hbi
        have hpos : 0 < it (prF ns i ns.length).2 b := by
          have h1 := pr_mono hu u1 hup hb
          have := (pr_at hu hup).1
          omega
        rw [anc_ne' hU hpos p2 hne.symm, p3]
        simp only [if_neg hbi]
        rw [ih (nd ns b).up.toNat (by omega) a _ rfl ha hup, ← anc_ne' hu b0 (anc_in hu hb).2.2 (Ne.symm hab)]
end
end Go.Ab.Try
