/-
  Part C3 of the proof: pruning a pruned tree.
-/
import Derived.Test.YtgpkmepalmdmeaaC2
set_option linter.all false
set_option linter.unusedSimpArgs false
set_option linter.unusedVariables false
set_option maxRecDepth 20000
namespace Go.Ab.Try
open Classical Go.Proofs Go.Ab
theorem twice_main {ns N : List Node} {S : List Int} {i j : Int} (hu : UpOk ns) (hN : (prF ns i ns.length).1 = N) (hS : (prF ns i ns.length).2 = S) (hi : anc ns i i = true) (hj : anc ns i j = true) : ∀ k : Nat, k ≤ ns.length →
    (prF N (it S j) (prF ns i k).1.length).1 = (prF ns j k).1 ∧ ∀ a : Int, 0 ≤ a → a < k → anc ns i a = true → it (prF N (it S j) (prF ns i k).1.length).2 (it S a) = it (prF ns j k).2 a
  | 0, _ => ⟨rfl, fun a a0 a1 => by omega⟩
  | k + 1, hk => by
    obtain ⟨ih1, ih2⟩ := twice_main hu hN hS hi hj k (by omega)
    have hlD := prF_idx ns j k
    have hlR := prF_idx N (it S j) (prF ns i k).1.length
    have fat := fun (a : Int) (ha : anc ns i a = true) => pr_at hu ha
    have fmono := fun (a b : Int) (hab : a < b) (ha : anc ns i a = true) (hb : anc ns i b = true) => pr_mono hu hab ha hb
    have fanc := fun (a b : Int) (ha : anc ns i a = true) (hb : anc ns i b = true) => pr_anc hu hi _ a b rfl ha hb
    have finj := fun (a b : Int) (ha : anc ns i a = true) (hb : anc ns i b = true) => pr_inj hu ha hb
    rw [hN, hS] at fat
    rw [hS] at fmono finj
    rw [hN, hS] at fanc
    cases hk1 : anc ns i k
    · have hjk : anc ns j k = false := by
        rw [← Bool.not_eq_true]
        intro h
        rw [anc_trans hu _ i j k rfl hj h] at hk1
        cases hk1
      have eP : (prF ns i (k + 1)).1 = (prF ns i k).1 := by simp only [prF, hk1, Bool.false_eq_true, if_false]
      have eD : prF ns j (k + 1) = ((prF ns j k).1, (prF ns j k).2 ++ [-1]) := by simp only [prF, hjk, Bool.false_eq_true, if_false]
      rw [eP, eD]
      refine ⟨ih1, fun a a0 a1 ha => ?_⟩
      have hak : a ≠ k := by rintro rfl; rw [ha] at hk1; cases hk1
      rw [ih2 a a0 (by omega) ha]
      simp only
      rw [it_app_lt a0 (by omega)]
    · have hpos : it S k = (prF ns i k).1.length := by rw [← hS]; exact prF_pos (by omega) hk1
      have eP : (prF ns i (k + 1)).1.length = (prF ns i k).1.length + 1 := by simp only [prF, hk1, if_true, List.length_append, List.length_singleton]
      have hNk : nd N ((prF ns i k).1.length : Int) = { nd ns k with up := if (k : Int) = i then -1 else it S (nd ns k).up } := by rw [← hpos]; exact (fat k hk1).2.2
      have hak : anc N (it S j) ((prF ns i k).1.length : Int) = anc ns j k := by rw [← hpos]; exact fanc j k hj hk1
      rw [eP]
      cases hjk : anc ns j k
      · rw [hjk] at hak
        have eD : prF ns j (k + 1) = ((prF ns j k).1, (prF ns j k).2 ++ [-1]) := by simp only [prF, hjk, Bool.false_eq_true, if_false]
        have eR : prF N (it S j) ((prF ns i k).1.length + 1) = ((prF N (it S j) (prF ns i k).1.length).1, (prF N (it S j) (prF ns i k).1.length).2 ++ [-1]) := by simp only [prF, hak, Bool.false_eq_true, if_false]
        rw [eD, eR]
        refine ⟨ih1, fun a a0 a1 ha => ?_⟩
        simp only
        by_cases h : a = k
        · subst h
          rw [it_app_eq (by omega), it_app_eq (by omega)]
        · have hlt := fmono a k (by omega) ha hk1
          rw [it_app_lt (fat a ha).1 (by omega), it_app_lt a0 (by omega)]
          exact ih2 a a0 (by omega) ha
      · rw [hjk] at hak
        have eD : prF ns j (k + 1) = ((prF ns j k).1 ++ [{ nd ns k with up := if (k : Int) = j then -1 else it (prF ns j k).2 (nd ns k).up }], (prF ns j k).2 ++ [((prF ns j k).1.length : Int)]) := by simp only [prF, hjk, if_true]
        have eR : prF N (it S j) ((prF ns i k).1.length + 1) = ((prF N (it S j) (prF ns i k).1.length).1 ++ [{ nd N ((prF ns i k).1.length : Int) with up := if ((prF ns i k).1.length : Int) = it S j then -1 else it (prF N (it S j) (prF ns i k).1.length).2 (nd N ((prF ns i k).1.length : Int)).up }], (prF N (it S j) (prF ns i k).1.length).2 ++ [((prF N (it S j) (prF ns i k).1.length).1.length : Int)]) := by simp only [prF, hak, if_true]
        have hup : (if ((prF ns i k).1.length : Int) = it S j then (-1 : Int) else it (prF N (it S j) (prF ns i k).1.length).2 (nd N ((prF ns i k).1.length : Int)).up) = if (k : Int) = j then -1 else it (prF ns j k).2 (nd ns k).up := by
          by_cases hkj : (k : Int) = j
          · rw [if_pos hkj, if_pos (by rw [← hpos, hkj])]
          · have hki : (k : Int) ≠ i := by
              intro h
              have h2 := anc_le hu hjk
              have h3 := anc_le hu hj
              omega
            obtain ⟨_, ⟨u0, u1⟩, hupi⟩ := pr_up hu hk1 hki
            rw [if_neg hkj, if_neg (by rw [← hpos]; intro h; exact hkj (finj k j hk1 hj h)), hNk]
            simp only [if_neg hki]
            exact ih2 _ u0 (by omega) hupi
        rw [eD, eR, hup]
        refine ⟨by rw [ih1, hNk], fun a a0 a1 ha => ?_⟩
        simp only
        by_cases h : a = k
        · subst h
          rw [it_app_eq (by omega), it_app_eq (by omega), ih1]
        · have hlt := fmono a k (by omega) ha hk1
          rw [it_app_lt (fat a ha).1 (by omega), it_app_lt a0 (by omega)]
          exact ih2 a a0 (by omega) ha
/-- Pruning the pruned tree at a kept node is pruning at that node. -/
theorem prF_twice {ns : List Node} {i j : Int} (hu : UpOk ns) (hi : anc ns i i = true) (hj : anc ns i j = true) :
    (prF (prF ns i ns.length).1 (it (prF ns i ns.length).2 j) (prF ns i ns.length).1.length).1 = (prF ns j ns.length).1 :=
  (twice_main hu rfl rfl hi hj ns.length (Nat.le_refl _)).1
theorem anc_0 {ns : List Node} (hu : UpOk ns) : ∀ (k : Nat) (z : Int), z.toNat = k → 0 ≤ z → z < ns.length → anc ns 0 z = true := by
  intro k
  induction k using Nat.strongRecOn with
  | _ k ih =>
    intro z hk z0 z1
    by_cases h : z = 0
    · subst h; unfold anc; exact decide_eq_true (path_self hu z0 z1)
    · obtain ⟨u0, u1⟩ := hu z (by omega) z1
      rw [anc_up hu z1 (by omega) (by omega)]
      exact ih (nd ns z).up.toNat (by omega) _ rfl u0 (by omega)
theorem prF_root {ns : List Node} (hu : UpOk ns) (hr : (nd ns 0).up = -1) : ∀ k : Nat, k ≤ ns.length → (prF ns 0 k).1 = ns.take k ∧ ∀ a : Int, 0 ≤ a → a < k → it (prF ns 0 k).2 a = a
  | 0, _ => ⟨by simp [prF], fun a a0 a1 => by omega⟩
  | k + 1, hk => by
    obtain ⟨h1, h2⟩ := prF_root hu hr k (by omega)
    have hl := prF_idx ns 0 k
    have ha := anc_0 hu _ (k : Int) rfl (by omega) (by omega)
    have hkn : k < ns.length := by omega
    have hx : nd ns (k : Int) = ns[k] := by simp [nd, hkn]
    have hup : (if (k : Int) = 0 then (-1 : Int) else it (prF ns 0 k).2 (nd ns k).up) = (nd ns k).up := by
      by_cases h : (k : Int) = 0
      · rw [if_pos h, h, hr]
      · obtain ⟨u0, u1⟩ := hu k (by omega) (by omega)
        rw [if_neg h, h2 _ u0 u1]
    have e : prF ns 0 (k + 1) = ((prF ns 0 k).1 ++ [{ nd ns k with up := if (k : Int) = 0 then -1 else it (prF ns 0 k).2 (nd ns k).up }], (prF ns 0 k).2 ++ [((prF ns 0 k).1.length : Int)]) := by simp only [prF, ha, if_true]
    rw [e, hup]
    refine ⟨?_, fun a a0 a1 => ?_⟩
    · simp only
      rw [h1, List.take_succ_eq_append_getElem hkn, ← hx]
    · simp only
      by_cases h : a = k
      · subst h
        rw [it_app_eq (by omega), h1, List.length_take]
        omega
      · rw [it_app_lt a0 (by omega)]
        exact h2 a a0 (by omega)
theorem prF_whole {ns : List Node} (hu : UpOk ns) (hr : (nd ns 0).up = -1) : (prF ns 0 ns.length).1 = ns := by
  rw [(prF_root hu hr ns.length (Nat.le_refl _)).1, List.take_length]
end Go.Ab.Try
