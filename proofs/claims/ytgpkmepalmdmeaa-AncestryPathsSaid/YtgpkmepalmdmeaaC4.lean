/-
  Part C4 of the proof: pruning a pruned tree.
-/
import Derived.Test.YtgpkmepalmdmeaaC3
import Derived.Test.YtgpkmepalmdmeaaB5
import Derived.Test.YtgpkmepalmdmeaaG6
set_option linter.all false
set_option linter.unusedSimpArgs false
set_option linter.unusedVariables false
set_option maxRecDepth 20000
set_option maxHeartbeats 4000000
namespace Go.Ab.Try
open Classical Go.Proofs Go.Ab
theorem dsc_in (ns : List Node) (i x : Int) : ∀ k : Nat, x ∈ dsc ns i k → anc ns i x = true
  | 0, h => by simp [dsc] at h
  | k + 1, h => by
    simp only [dsc] at h
    split at h
    · rename_i ha
      rcases List.mem_append.1 h with h | h
      · exact dsc_in ns i x k h
      · simp at h; subst h; exact ha
    · exact dsc_in ns i x k h
theorem k36 (ns : List Node) (hu : UpOk ns) (hn : (ns.length : Int) < 1000000) (i : Int) (h : dsc ns i ns.length ≠ []) (st : St) (d : Nat) : callFn (callL Try.prog) 36 [.agg (cTree ⟨ns⟩), .v (.int .i64 i)] st (some d) = some { dst := some d, val := .own d (st.cnt d), new := some (d, [.row 3 1 (dsc ns i ns.length).length (csInt (dsc ns i ns.length))]) } := by
  have hc := c36 ns hu hn i
  rw [if_neg h] at hc
  exact call_uniq (flat2 (flatT _) (.v _)) hc
/-- PruningTwice -/
theorem c4 (l : List Int) (i j : Int) (hl : (l.length : Int) ≤ 9223372036854775807) : callL Try.prog 4 [.sl l.length (csInt l), .v (.int .i64 i), .v (.int .i64 j)] = some (.v (.bool true)) := by
  rw [callL_eq Try.prog Try.func4 rfl ok4 _ (ext_none _ (by decide)) rfl]
  have g := (c30 l hl).2
  have k0 := k30 l hl
  generalize treeOf l = ns at g k0
  have g9 := g.len9
  have g0 := g.len0
  have hn : (ns.length : Int) < 1000000 := by omega
  have hr : (nd ns 0).up < 0 := by rw [g.up0]; omega
  have hne : ((ns.length : Int) = 0) = False := eq_false (by omega)
  obtain ⟨b1, b2⟩ := and_bound i 65535 (by decide)
  have hm := tmod_bound (n := (ns.length : Int)) b1 (by omega)
  obtain ⟨x, hx, x0, x1⟩ : ∃ x, (IntKind.i64.wrap ↑(BitVec.ofInt IntKind.i64.bits i &&& BitVec.ofInt IntKind.i64.bits 65535).toNat).tmod (ns.length : Int) = x ∧ 0 ≤ x ∧ x < ns.length := ⟨_, rfl, hm.1, hm.2⟩
  have hxx : anc ns x x = true := decide_eq_true (path_self g.up x0 x1)
  have hdne := dsc_ne g.up x0 x1 ns.length x1
  have hK := k36 ns g.up hn x hdne
  have hdl := dsc_len ns x ns.length
  have hdi := fun y => dsc_in ns x y ns.length
  generalize dsc ns x ns.length = D at hdne hK hdl hdi
  have hD0 : 0 < D.length := List.length_pos_iff.2 hdne
  have hneD : ((D.length : Int) = 0) = False := eq_false (by omega)
  obtain ⟨c1, c2⟩ := and_bound j 65535 (by decide)
  have hm' := tmod_bound (n := (D.length : Int)) c1 (by omega)
  obtain ⟨m, hmm, m0, m1⟩ : ∃ m, (IntKind.i64.wrap ↑(BitVec.ofInt IntKind.i64.bits j &&& BitVec.ofInt IntKind.i64.bits 65535).toNat).tmod (D.length : Int) = m ∧ 0 ≤ m ∧ m < D.length := ⟨_, rfl, hm'.1, hm'.2⟩
  have hj := hdi _ (it_mem m0 m1)
  obtain ⟨y, hy⟩ : ∃ y, it D m = y := ⟨_, rfl⟩
  rw [hy] at hj
  obtain ⟨_, y0, y1⟩ := anc_in g.up hj
  have hA := k31 ns g.up hr hn x ⟨x0, x1⟩
  have hB := k31 ns g.up hr hn y ⟨y0, y1⟩
  have hC := k31 ns g.up hr hn 0 ⟨by omega, by omega⟩
  have hNn := prF_nodes ns x ns.length
  have hSn := prF_idx ns x ns.length
  have hUN := pr_upok g.up hxx
  obtain ⟨p1, p2, _⟩ := pr_at g.up hj
  have hN0 : (nd (prF ns x ns.length).1 0).up < 0 := by
    have h := (pr_at g.up hxx).2.2
    rw [pr_zero g.up hxx] at h
    rw [h]
    simp
  have hT := k31 (prF ns x ns.length).1 hUN hN0 (by omega) (it (prF ns x ns.length).2 y) ⟨p1, p2⟩
  have h2 := prF_twice g.up hxx hj
  have h3 := prF_whole g.up g.up0
  have hDn := prF_nodes ns y ns.length
  simp only [prOk] at hA hB hC hT
  rw [h3] at hC
  rw [h2] at hT
  generalize (prF ns y ns.length).1 = M at hB hT hDn
  generalize (prF ns y ns.length).2 = My at hB
  generalize (prF ns 0 ns.length).2 = M0 at hC
  generalize (prF (prF ns x ns.length).1 (it (prF ns x ns.length).2 y) (prF ns x ns.length).1.length).2 = Mt at hT
  generalize (prF ns x ns.length).1 = N at hA hT
  generalize (prF ns x ns.length).2 = S at hA hT hSn
  have hq : ((S.length : Int) != (ns.length : Int)) = false := by rw [hSn]; exact bne_self_eq_false _
  have yS : y < S.length := by omega
  have hM : (M.length : Int) < 1000000 := by omega
  simp -implicitDefEqProofs only [ZZ, seval, k0, hne, hx, hK, hneD, hmm, m0, m1, hy, hA, hB, hC, hT, hq, y0, y1, yS, extA, k33, hM, hn, k35, decide_true, bne_self_eq_false, beq_self_eq_true]
  exact endL_tmp (keep_none (by decide)) (.inl rfl) rfl (by simp only [EV, seval] <;> rfl) (.v _)
end Go.Ab.Try
