/-
  Part W1 of the proof: what functions of this program compute.
-/
import Derived.Test.YtgpkmepalmdmeaaK8
set_option linter.all false
set_option linter.unusedSimpArgs false
set_option linter.unusedVariables false
set_option maxRecDepth 20000
namespace Go.Ab.Try
open Classical Go.Proofs Go.Ab
/-- The weights of the subtrees: every node from the last one down is added to its parent. -/
def subF (ns : List Node) : Nat → List Int → List Int
  | 0, d => d
  | 1, d => d
  | k + 2, d => subF ns (k + 1) (d.set (nd ns ((k + 1 : Nat) : Int)).up.toNat (IntKind.u64.wrap (it d (nd ns ((k + 1 : Nat) : Int)).up + it d ((k + 1 : Nat) : Int))))
theorem subF_len (ns : List Node) : ∀ (k : Nat) (d : List Int), (subF ns k d).length = d.length
  | 0, d => rfl
  | 1, d => rfl
  | k + 2, d => by
    simp only [subF]
    rw [subF_len ns (k + 1)]
    simp
theorem it_set_ne {l : List Int} {a b v : Int} (a0 : 0 ≤ a) (b0 : 0 ≤ b) (h : a ≠ b) : it (l.set a.toNat v) b = it l b := by
  simp only [it, List.getD_eq_getElem?_getD]
  rw [List.getElem?_set_ne (by omega)]
theorem it_set_eq {l : List Int} {a v : Int} (h : a.toNat < l.length) : it (l.set a.toNat v) a = v := by
  simp [it, h]
theorem subF_high {ns : List Node} (hu : UpOk ns) : ∀ (k : Nat) (d : List Int) (j : Int), k ≤ ns.length → (k : Int) - 1 ≤ j → 0 ≤ j → it (subF ns k d) j = it d j
  | 0, d, j, _, _, _ => rfl
  | 1, d, j, _, _, _ => rfl
  | k + 2, d, j, hk, hj, j0 => by
    obtain ⟨u0, u1⟩ := hu ((k + 1 : Nat) : Int) (by omega) (by omega)
    simp only [subF]
    rw [subF_high hu (k + 1) _ j (by omega) (by omega) j0]
    exact it_set_ne u0 j0 (by omega)
theorem subF_app {p : List Node} (hu : UpOk p) (x : Node) (v : Int) : ∀ (k : Nat) (e : List Int), k ≤ p.length → e.length = p.length → subF (p ++ [x]) k (e ++ [v]) = subF p k e ++ [v]
  | 0, e, _, _ => rfl
  | 1, e, _, _ => rfl
  | k + 2, e, hk, he => by
    obtain ⟨u0, u1⟩ := hu ((k + 1 : Nat) : Int) (by omega) (by omega)
    have h1 : nd (p ++ [x]) ((k + 1 : Nat) : Int) = nd p ((k + 1 : Nat) : Int) := nd_app_lt (by omega) (by omega)
    simp only [subF]
    rw [h1, it_app_lt (by omega) (by omega), it_app_lt (by omega) (by omega), List.set_append_left _ _ (by omega)]
    exact subF_app hu x v (k + 1) _ (by omega) (by simpa using he)
/-- The numbers of the nodes that stay. -/
def kpt (ns : List Node) (i : Int) : Nat → List Int → List Int
  | 0, _ => []
  | k + 1, d => if anc ns i k = true then kpt ns i k d ++ [it d k] else kpt ns i k d
theorem kpt_len (ns : List Node) (i : Int) (d : List Int) : ∀ k : Nat, (kpt ns i k d).length = (prF ns i k).1.length
  | 0 => rfl
  | k + 1 => by
    have := kpt_len ns i d k
    simp only [kpt, prF]
    split <;> simp [this]
theorem kpt_at {ns : List Node} (hu : UpOk ns) {i : Int} (d : List Int) : ∀ k : Nat, k ≤ ns.length → ∀ a : Int, 0 ≤ a → a < k → anc ns i a = true → it (kpt ns i k d) (it (prF ns i k).2 a) = it d a
  | 0, _, a, a0, a1, _ => by omega
  | k + 1, hk, a, a0, a1, ha => by
    have hl := prF_idx ns i k
    have hkl := kpt_len ns i d k
    simp only [kpt, prF]
    by_cases hak : a < k
    · obtain ⟨h1, h2, h3⟩ := prF_at hu k (by omega) a a0 hak ha
      have ih := kpt_at hu d k (by omega) a a0 hak ha
      split
      · simp only
        rw [it_app_lt a0 (by omega), it_app_lt h1 (by omega)]
        exact ih
      · simp only
        rw [it_app_lt a0 (by omega)]
        exact ih
    · have hak : a = k := by omega
      subst hak
      rw [if_pos ha, if_pos ha]
      simp only
      have e := it_app_eq (l := (prF ns i k).2) (x := ((prF ns i k).1.length : Int)) (j := (k : Int)) (by omega)
      rw [e, it_app_eq (by omega)]
theorem kpt_out (ns : List Node) (i : Int) (d : List Int) (a v : Int) (a0 : 0 ≤ a) : ∀ k : Nat, (∀ b : Int, 0 ≤ b → b < k → anc ns i b = true → a ≠ b) → kpt ns i k (d.set a.toNat v) = kpt ns i k d
  | 0, _ => rfl
  | k + 1, h => by
    have ih := kpt_out ns i d a v a0 k fun b b0 b1 hb => h b b0 (by omega) hb
    simp only [kpt]
    split
    · rename_i hk
      rw [ih, it_set_ne a0 (by omega) (h k (by omega) (by omega) hk)]
    · exact ih
theorem kpt_set {ns : List Node} (hu : UpOk ns) {i : Int} (d : List Int) (v : Int) : ∀ k : Nat, k ≤ ns.length → ∀ a : Int, 0 ≤ a → a < k → anc ns i a = true → a < d.length → kpt ns i k (d.set a.toNat v) = (kpt ns i k d).set (it (prF ns i k).2 a).toNat v
  | 0, _, a, a0, a1, _, _ => by omega
  | k + 1, hk, a, a0, a1, ha, had => by
    have hl := prF_idx ns i k
    have hkl := kpt_len ns i d k
    simp only [kpt, prF]
    by_cases hak : a < k
    · obtain ⟨h1, h2, h3⟩ := prF_at hu k (by omega) a a0 hak ha
      have ih := kpt_set hu d v k (by omega) a a0 hak ha had
      split
      · simp only
        rw [it_app_lt a0 (by omega), List.set_append_left _ _ (by omega), ih, it_set_ne a0 (by omega) (by omega)]
      · simp only
        rw [it_app_lt a0 (by omega)]
        exact ih
    · have hak : a = k := by omega
      subst hak
      rw [if_pos ha, if_pos ha, if_pos ha]
      simp only
      rw [it_app_eq (by omega), kpt_out ns i d _ v (by omega) k (fun b b0 b1 _ => by omega), it_set_eq (by omega)]
      rw [List.set_append_right _ _ (by omega)]
      have : (((prF ns i k).1.length : Int)).toNat - (kpt ns i k d).length = 0 := by omega
      rw [this]
      rfl
/-- The subtree's weights of the pruned tree are those of the tree. -/
theorem sub_prune {ns : List Node} (hu : UpOk ns) {i : Int} (hi : anc ns i i = true) : ∀ k : Nat, k ≤ ns.length → ∀ d : List Int, d.length = ns.length → ∀ a : Int, 0 ≤ a → a < k → anc ns i a = true →
    UpOk (prF ns i k).1 → it (subF (prF ns i k).1 (prF ns i k).1.length (kpt ns i k d)) (it (prF ns i k).2 a) = it (subF ns k d) a
  | 0, _, d, hd, a, a0, a1, _, _ => by omega
  | k + 1, hk, d, hd, a, a0, a1, ha, hup => by
    have hl := prF_idx ns i k
    have hkl := kpt_len ns i d k
    have hhigh : it (subF ns (k + 1) d) k = it d k := subF_high hu (k + 1) d k hk (by omega) (by omega)
    by_cases hk0 : k = 0
    · subst hk0
      have ha0 : a = 0 := by omega
      subst ha0
      have hn : (prF ns i 1).1.length = 1 := by simp only [prF]; rw [if_pos (show anc ns i ((0 : Nat) : Int) = true from ha)]; rfl
      rw [hn]
      exact kpt_at hu d 1 hk 0 (by omega) (by omega) ha
    · obtain ⟨u0, u1⟩ := hu k (by omega) (by omega)
      obtain ⟨k', rfl⟩ : ∃ k', k = k' + 1 := ⟨k - 1, by omega⟩
      by_cases hak : anc ns i ((k' + 1 : Nat) : Int) = true
      · by_cases hki : ((k' + 1 : Nat) : Int) = i
        · have hnone : (prF ns i (k' + 1)).1.length = 0 := by
            rcases Nat.eq_zero_or_pos (prF ns i (k' + 1)).1.length with h | h
            · exact h
            · obtain ⟨b, b0, b1, hb, _⟩ := prF_onto ns i (k' + 1) 0 (by omega) (by omega)
              have := anc_le hu hb
              omega
          have hai : a = ((k' + 1 : Nat) : Int) := by have := anc_le hu ha; omega
          subst hai
          have hn : (prF ns i (k' + 1 + 1)).1.length = 1 := by simp only [prF] at hnone ⊢; rw [if_pos hak]; simp only [List.length_append, List.length_cons, List.length_nil]; omega
          rw [hn, hhigh]
          exact kpt_at hu d (k' + 1 + 1) hk _ (by omega) (by omega) hak
        · have hum : anc ns i (nd ns ((k' + 1 : Nat) : Int)).up = true := by rw [← anc_step hu (by omega) (by omega) (Ne.symm hki)]; exact hak
          obtain ⟨p1, p2, p3⟩ := prF_at hu (k' + 1) (by omega) _ u0 u1 hum
          have hupk : UpOk (prF ns i (k' + 1)).1 := by
            intro j j0 j1
            have := hup j j0 (by simp only [prF] at j1 ⊢; rw [if_pos hak]; simp only [List.length_append]; omega)
            rw [show (prF ns i (k' + 1 + 1)).1 = (prF ns i (k' + 1)).1 ++ [{ nd ns ((k' + 1 : Nat) : Int) with up := if ((k' + 1 : Nat) : Int) = i then -1 else it (prF ns i (k' + 1)).2 (nd ns ((k' + 1 : Nat) : Int)).up }] from by rw [prF]; simp only [if_pos hak]] at this
            rw [nd_app_lt (by omega) j1] at this
            exact this
          have e1 : (prF ns i (k' + 1 + 1)).1 = (prF ns i (k' + 1)).1 ++ [{ nd ns ((k' + 1 : Nat) : Int) with up := it (prF ns i (k' + 1)).2 (nd ns ((k' + 1 : Nat) : Int)).up }] := by rw [prF]; simp only [if_pos hak, if_neg hki]
          have e2 : (prF ns i (k' + 1 + 1)).2 = (prF ns i (k' + 1)).2 ++ [((prF ns i (k' + 1)).1.length : Int)] := by rw [prF]; simp only [if_pos hak]
          have e3 : kpt ns i (k' + 1 + 1) d = kpt ns i (k' + 1) d ++ [it d ((k' + 1 : Nat) : Int)] := by rw [kpt]; simp only [if_pos hak]
          have ih := sub_prune hu hi (k' + 1) (by omega) (d.set (nd ns ((k' + 1 : Nat) : Int)).up.toNat (IntKind.u64.wrap (it d (nd ns ((k' + 1 : Nat) : Int)).up + it d ((k' + 1 : Nat) : Int)))) (by simpa using hd)
          have hset := kpt_set hu d (IntKind.u64.wrap (it d (nd ns ((k' + 1 : Nat) : Int)).up + it d ((k' + 1 : Nat) : Int))) (k' + 1) (by omega) _ u0 u1 hum (by omega)
          have hat := kpt_at hu d (k' + 1) (by omega) _ u0 u1 hum
          have hstep : subF (prF ns i (k' + 1 + 1)).1 (prF ns i (k' + 1 + 1)).1.length (kpt ns i (k' + 1 + 1) d) = subF (prF ns i (k' + 1)).1 (prF ns i (k' + 1)).1.length (kpt ns i (k' + 1) (d.set (nd ns ((k' + 1 : Nat) : Int)).up.toNat (IntKind.u64.wrap (it d (nd ns ((k' + 1 : Nat) : Int)).up + it d ((k' + 1 : Nat) : Int))))) ++ [it d ((k' + 1 : Nat) : Int)] := by
            rw [e1, e3, List.length_append]
            generalize hP : (prF ns i (k' + 1)).1 = p at *
            generalize hu' : it (prF ns i (k' + 1)).2 (nd ns ((k' + 1 : Nat) : Int)).up = u' at *
            generalize hK : kpt ns i (k' + 1) d = K at *
            obtain ⟨m, hm⟩ : ∃ m, p.length = m + 1 := ⟨p.length - 1, by omega⟩
            rw [hm]
            show subF _ (m + 2) _ = _
            simp only [subF]
            rw [nd_app_eq (by omega)]
            simp only
            rw [it_app_lt p1 (by omega), it_app_eq (j := ((m + 1 : Nat) : Int)) (by omega), List.set_append_left _ _ (by omega), hat, ← hset]
            exact subF_app hupk _ _ (m + 1) _ (by omega) (by rw [hset]; simp; omega)
          rw [hstep, e2]
          have hlen : (subF (prF ns i (k' + 1)).1 (prF ns i (k' + 1)).1.length (kpt ns i (k' + 1) (d.set (nd ns ((k' + 1 : Nat) : Int)).up.toNat (IntKind.u64.wrap (it d (nd ns ((k' + 1 : Nat) : Int)).up + it d ((k' + 1 : Nat) : Int)))))).length = (prF ns i (k' + 1)).1.length := by rw [subF_len, kpt_len]
          by_cases hak' : a < ((k' + 1 : Nat) : Int)
          · obtain ⟨q1, q2, _⟩ := prF_at hu (k' + 1) (by omega) a a0 hak' ha
            rw [it_app_lt a0 (by omega), it_app_lt q1 (by omega), ih a a0 hak' ha hupk]
            simp only [subF]
          · have : a = ((k' + 1 : Nat) : Int) := by omega
            subst this
            have e := it_app_eq (l := (prF ns i (k' + 1)).2) (x := ((prF ns i (k' + 1)).1.length : Int)) (j := ((k' + 1 : Nat) : Int)) (by omega)
            rw [e, it_app_eq (by omega), hhigh]
      · have e1 : prF ns i (k' + 1 + 1) = ((prF ns i (k' + 1)).1, (prF ns i (k' + 1)).2 ++ [-1]) := by rw [prF]; simp only [if_neg hak]
        have e3 : kpt ns i (k' + 1 + 1) d = kpt ns i (k' + 1) d := by rw [kpt]; simp only [if_neg hak]
        have hak' : a < ((k' + 1 : Nat) : Int) := by
          rcases Int.lt_or_eq_of_le (show a ≤ ((k' + 1 : Nat) : Int) by omega) with h | h
          · exact h
          · subst h; exact absurd ha hak
        have hki : ((k' + 1 : Nat) : Int) ≠ i := by intro h; rw [h] at hak; exact hak hi
        have hum : ¬ anc ns i (nd ns ((k' + 1 : Nat) : Int)).up = true := by rw [← anc_step hu (by omega) (by omega) (Ne.symm hki)]; exact hak
        have ih := sub_prune hu hi (k' + 1) (by omega) (d.set (nd ns ((k' + 1 : Nat) : Int)).up.toNat (IntKind.u64.wrap (it d (nd ns ((k' + 1 : Nat) : Int)).up + it d ((k' + 1 : Nat) : Int)))) (by simpa using hd) a a0 hak' ha (by rw [e1] at hup; exact hup)
        rw [kpt_out ns i d _ _ u0 (k' + 1) (fun b b0 b1 hb he => by rw [← he] at hb; exact hum hb)] at ih
        rw [e1, e3]
        simp only
        rw [it_app_lt a0 (by omega), ih]
        simp only [subF]
end Go.Ab.Try
