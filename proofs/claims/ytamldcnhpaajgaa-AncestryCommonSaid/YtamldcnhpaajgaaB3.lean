/-
  Part B3 of the proof: the common ancestor.
-/
import Derived.Test.YtamldcnhpaajgaaB2
import Derived.Test.YtamldcnhpaajgaaA10
set_option linter.all false
set_option linter.unusedSimpArgs false
set_option linter.unusedVariables false
set_option maxRecDepth 20000
set_option maxHeartbeats 4000000
namespace Go.Ab.Try
open Classical Go.Proofs Go.Ab
theorem allAnc_iff (ns : List Node) (x : Int) (l : List Int) : allAnc ns x l = true ↔ ∀ y ∈ l, anc ns x y = true := by simp [allAnc]
theorem comR_path {ns : List Node} (hu : UpOk ns) (l : List Int) : ∀ (k : Nat) (i : Int), i.toNat = k → 0 ≤ i → i < ns.length →
    (comR ns l (path ns i) = -1 ∧ ∀ x, anc ns x i = true → allAnc ns x l = false) ∨
    (anc ns (comR ns l (path ns i)) i = true ∧ allAnc ns (comR ns l (path ns i)) l = true ∧ ∀ x, anc ns x i = true → allAnc ns x l = true → x ≤ comR ns l (path ns i)) := by
  intro k
  induction k using Nat.strongRecOn with
  | _ k ih =>
    intro i hk i0 i1
    have hself : anc ns i i = true := decide_eq_true (path_self hu i0 i1)
    by_cases hsat : allAnc ns i l = true
    · have e : comR ns l (path ns i) = i := by
        by_cases hi : i = 0
        · subst hi; rw [path_zero (by omega)]; simp [comR, hsat]
        · rw [path_step hu (by omega) i1, comR_app, if_pos hsat]
      rw [e]
      exact .inr ⟨hself, hsat, fun x hx _ => anc_le hu hx⟩
    · have hsf : allAnc ns i l = false := by simpa using hsat
      by_cases hi : i = 0
      · subst hi
        refine .inl ⟨by rw [path_zero (by omega)]; simp [comR, hsf], fun x hx => ?_⟩
        have h1 := anc_le hu hx
        have h2 := (anc_in hu hx).1.1
        have : x = 0 := by omega
        subst this; exact hsf
      · obtain ⟨u0, u1⟩ := hu i (by omega) i1
        have hup : ∀ x, anc ns x i = true → allAnc ns x l = false ∨ anc ns x (nd ns i).up = true := by
          intro x hx
          by_cases hxi : x = i
          · subst hxi; exact .inl hsf
          · have := anc_le hu hx
            rw [anc_up hu i1 (by omega) (anc_in hu hx).1.1] at hx
            exact .inr hx
        rw [path_step hu (by omega) i1, comR_app, if_neg hsat]
        rcases ih (nd ns i).up.toNat (by omega) _ rfl u0 (by omega) with ⟨h1, h2⟩ | ⟨h1, h2, h3⟩
        · refine .inl ⟨h1, fun x hx => ?_⟩
          rcases hup x hx with h | h
          · exact h
          · exact h2 x h
        · have := anc_le hu h1
          refine .inr ⟨by rw [anc_up hu i1 (by omega) (anc_in hu h1).1.1]; exact h1, h2, fun x hx hs => ?_⟩
          rcases hup x hx with h | h
          · rw [h] at hs; cases hs
          · exact h3 x h hs
theorem fold_lca {ns : List Node} (hu : UpOk ns) : ∀ (r : List Int) (c : Int), 0 ≤ c → c < ns.length → (∀ y ∈ r, 0 ≤ y ∧ y < ns.length) →
    anc ns (r.foldl (lca ns) c) c = true ∧ (∀ y ∈ r, anc ns (r.foldl (lca ns) c) y = true) ∧ ∀ z, anc ns z c = true → (∀ y ∈ r, anc ns z y = true) → anc ns z (r.foldl (lca ns) c) = true
  | [], c, c0, c1, _ => ⟨decide_eq_true (path_self hu c0 c1), by simp, fun z hz _ => hz⟩
  | y :: r, c, c0, c1, h => by
    obtain ⟨y0, y1⟩ := h y (by simp)
    obtain ⟨h1, h2, h3⟩ := lca_fact hu c0 c1 y0 y1
    obtain ⟨l0, l1⟩ := (anc_in hu h1).1
    obtain ⟨e1, e2, e3⟩ := fold_lca hu r (lca ns c y) l0 l1 (fun z hz => h z (by simp [hz]))
    simp only [List.foldl_cons]
    refine ⟨anc_trans hu _ _ _ _ rfl e1 h1, fun z hz => ?_, fun z hz hz' => e3 z (h3 z hz (hz' y (by simp))) fun w hw => hz' w (by simp [hw])⟩
    rcases List.mem_cons.1 hz with rfl | hz
    · exact anc_trans hu _ _ _ _ rfl e1 h2
    · exact e2 z hz
theorem com_same {ns : List Node} (hu : UpOk ns) {l : List Int} (h0 : 0 < l.length) (f0 : 0 ≤ it l 0) (f1 : it l 0 < ns.length) : comR ns l (path ns (it l 0)) = comW ns l := by
  obtain ⟨a, r, hl⟩ : ∃ a r, l = a :: r := by cases l with | nil => simp at h0 | cons a r => exact ⟨a, r, rfl⟩
  have ha : it l 0 = a := by rw [hl]; rfl
  rw [ha] at f0 f1 ⊢
  have hp := comR_path hu l _ a rfl f0 f1
  by_cases hv : ∀ x ∈ l, 0 ≤ x ∧ x < ns.length
  · have hW : comW ns l = r.foldl (lca ns) a := by unfold comW; rw [if_pos hv]; unfold comV; rw [ha, hl]; rfl
    obtain ⟨e1, e2, e3⟩ := fold_lca hu r a f0 f1 (fun y hy => hv y (by rw [hl]; simp [hy]))
    rw [hW]
    have hs : allAnc ns (r.foldl (lca ns) a) l = true := by
      rw [allAnc_iff, hl]
      intro y hy
      rcases List.mem_cons.1 hy with rfl | hy
      · exact e1
      · exact e2 y hy
    rcases hp with ⟨_, h2⟩ | ⟨h1, h2, h3⟩
    · rw [h2 _ e1] at hs; cases hs
    · have g1 := h3 _ e1 hs
      rw [allAnc_iff] at h2
      have g2 := anc_le hu (e3 _ h1 fun y hy => h2 y (by rw [hl]; simp [hy]))
      omega
  · obtain ⟨y, hy, hyb⟩ : ∃ y, y ∈ l ∧ ¬ (0 ≤ y ∧ y < ns.length) := by
      apply Classical.byContradiction
      intro h
      exact hv fun x hx => Classical.byContradiction fun h' => h ⟨x, hx, h'⟩
    rw [comW_bad hy hyb]
    rcases hp with ⟨h1, _⟩ | ⟨_, h2, _⟩
    · exact h1
    · rw [allAnc_iff] at h2
      exact absurd (anc_in hu (h2 y hy)).2 hyb
theorem q52 (args : List AV) (st : St) (d : Option Nat) : callFn (callL Try.prog) 52 args st d = callQ (callL Try.prog) 52 (optAll (args.map (expo st))) (decide (∀ x ∈ args, Flat x)) st d := callFn_Q _ _ _ _ _
theorem k51w (ns : List Node) (hu : UpOk ns) (l : List Int) (hl : (l.length : Int) < 1000000) (h0 : 0 < l.length) (fl : Bool) (st : St) (d : Option Nat) : callQ (callL Try.prog) 51 (some [.agg (cTree ⟨ns⟩), .sl l.length (csInt l)]) fl st d = some { dst := d, val := .v (.int .i64 (comW ns l)) } :=
  Q_int (c51g ns hu l hl h0)
theorem k52w (ns : List Node) (hu : UpOk ns) (hn : (ns.length : Int) < 1000000) (l : List Int) (hl : (l.length : Int) < 1000000) (h0 : 0 < l.length) (fl : Bool) (st : St) (d : Option Nat) : callQ (callL Try.prog) 52 (some [.agg (cTree ⟨ns⟩), .sl l.length (csInt l)]) fl st d = some { dst := d, val := .v (.int .i64 (comW ns l)) } := by
  by_cases hf : 0 ≤ it l 0 ∧ it l 0 < ns.length
  · have h := c52 ns hu hn l hl h0 hf.1 hf.2
    rw [com_same hu h0 hf.1 hf.2] at h
    exact Q_int h
  · have h := c52b ns l h0 hf
    rw [← comW_bad (it_mem (Int.le_refl 0) (by omega)) hf] at h
    exact Q_int h
theorem k51z (ns : List Node) (fl : Bool) (st : St) (d : Option Nat) : callQ (callL Try.prog) 51 (some [.agg (cTree ⟨ns⟩), .v (.slice none 0 0)]) fl st d = some { dst := d, val := .v (.int .i64 (-1)) } := Q_int (c51n ns)
theorem k52z (ns : List Node) (fl : Bool) (st : St) (d : Option Nat) : callQ (callL Try.prog) 52 (some [.agg (cTree ⟨ns⟩), .v (.slice none 0 0)]) fl st d = some { dst := d, val := .v (.int .i64 (-1)) } := Q_int (c52n ns)
end Go.Ab.Try
