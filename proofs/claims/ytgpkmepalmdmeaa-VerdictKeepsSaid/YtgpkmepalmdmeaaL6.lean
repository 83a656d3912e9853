/-
  Part L6 of the proof: what functions of this program compute.
-/
import Derived.Test.YtgpkmepalmdmeaaK12
import Derived.Test.YtgpkmepalmdmeaaD1
set_option linter.all false
set_option linter.unusedSimpArgs false
set_option linter.unusedVariables false
set_option maxRecDepth 20000
set_option maxHeartbeats 4000000
namespace Go.Ab.Try
open Classical Go.Proofs Go.Ab
/-- BlocktreeInserts -/
theorem insE_ok {ns : List Node} {b : Block} {s : Int} (h : insE ns b s = 0) : isSt s = true ∧ ¬ 0 ≤ findR ns b.root ∧ ¬ findR ns b.parent < 0 ∧ ¬ b.slot ≤ (nd ns (findR ns b.parent)).block.slot ∧ ¬ 4096 ≤ (ns.length : Int) := by
  unfold insE at h
  cases hs : isSt s
  · rw [hs] at h; simp at h
  · rw [hs] at h
    refine ⟨rfl, ?_⟩
    split at h
    · simp_all
    · split at h
      · omega
      · split at h
        · omega
        · split at h
          · omega
          · split at h
            · omega
            · exact ⟨by assumption, by assumption, by assumption, by assumption⟩
theorem findR_root {ns : List Node} {r : Root} (h : ¬ findR ns r < 0) : (nd ns (findR ns r)).block.root = r := by
  unfold findR at h ⊢
  cases hf : ns.findIdx? (fun n => decide (n.block.root = r)) with
  | none => rw [hf] at h; simp at h
  | some k =>
    simp only
    obtain ⟨h1, h2, _⟩ := List.findIdx?_eq_some_iff_getElem.1 hf
    have : nd ns (k : Int) = ns[k] := by simp [nd, h1]
    rw [this]
    simpa using h2
theorem findR_no {ns : List Node} {r : Root} (h : ¬ 0 ≤ findR ns r) {j : Int} (j0 : 0 ≤ j) (j1 : j < ns.length) : (nd ns j).block.root ≠ r := by
  unfold findR at h
  cases hf : ns.findIdx? (fun n => decide (n.block.root = r)) with
  | some k => rw [hf] at h; simp at h
  | none =>
    rw [List.findIdx?_eq_none_iff] at hf
    obtain ⟨hj, e⟩ := nd_get j0 j1
    rw [e]
    simpa using hf _ (List.getElem_mem hj)
theorem ins_vld {ns : List Node} (v : Vld ns) {b : Block} {s : Int} (h : insE ns b s = 0) : Vld (ns ++ [⟨b, findR ns b.parent, s⟩]) := by
  obtain ⟨h1, h2, h3, h4, h5⟩ := insE_ok h
  have hold : ∀ i : Int, 0 ≤ i → i < ns.length → nd (ns ++ [⟨b, findR ns b.parent, s⟩]) i = nd ns i := fun i i0 i1 => nd_app_lt i0 i1
  have hlast : nd (ns ++ [⟨b, findR ns b.parent, s⟩]) ns.length = ⟨b, findR ns b.parent, s⟩ := nd_app_eq rfl
  have hr := findR_range ns b.parent
  have hl : (ns ++ [(⟨b, findR ns b.parent, s⟩ : Node)]).length = ns.length + 1 := by simp
  have h0 := v.len0
  refine ⟨by omega, by omega, by rw [hold 0 (by omega) (by omega)]; exact v.up0, ?_, ?_, ?_, ?_, ?_⟩
  · intro i i0 i1
    by_cases hi : i < ns.length
    · rw [hold i (by omega) hi]; exact v.up i i0 hi
    · obtain rfl : i = ns.length := by omega
      rw [hlast]; simp only; omega
  · intro i i0 i1
    by_cases hi : i < ns.length
    · have := v.up i i0 hi
      rw [hold i (by omega) hi, hold _ this.1 (by omega)]; exact v.par i i0 hi
    · obtain rfl : i = ns.length := by omega
      rw [hlast]
      simp only
      rw [hold _ (by omega) hr.2]
      exact (findR_root h3).symm
  · intro i i0 i1
    by_cases hi : i < ns.length
    · have := v.up i i0 hi
      rw [hold i (by omega) hi, hold _ this.1 (by omega)]; exact v.slot i i0 hi
    · obtain rfl : i = ns.length := by omega
      rw [hlast]
      simp only
      rw [hold _ (by omega) hr.2]
      omega
  · intro i j i0 hij j1
    by_cases hj : j < ns.length
    · rw [hold i i0 (by omega), hold j (by omega) hj]; exact v.roots i j i0 hij hj
    · obtain rfl : j = ns.length := by omega
      rw [hold i i0 (by omega), hlast]
      exact findR_no h2 i0 (by omega)
  · intro i i0 i1
    by_cases hi : i < ns.length
    · rw [hold i i0 hi]; exact v.st i i0 hi
    · obtain rfl : i = ns.length := by omega
      rw [hlast]; exact h1
theorem k33t (a b : List Node) (hn : (a.length : Int) < 1000000) (st : St) (d : Option Nat) : callFn (callL Try.prog) 33 [.agg (cTree ⟨a⟩), .agg (cTree ⟨b⟩)] st d = some { dst := d, val := .v (.bool (decide (a = b))) } := call_flat (flat2 (flatT _) (flatT _)) (c33 a b hn) (.v _)
theorem k33nn (st : St) (d : Option Nat) : callFn (callL Try.prog) 33 [.agg [.v (.slice none 0 0)], .agg [.v (.slice none 0 0)]] st d = some { dst := d, val := .v (.bool true) } := call_flat (flat2 (.agg _ (by intro x hx; simp at hx; subst hx; exact .v _)) (.agg _ (by intro x hx; simp at hx; subst hx; exact .v _))) c33n (.v _)
/-- BlocktreeInserts -/
theorem c18 (l : List Int) (b : Block) (i s : Int) (hl : (l.length : Int) ≤ 9223372036854775807) : callL Try.prog 18 [.sl l.length (csInt l), .agg (cBlock b), .v (.int .i64 i), .v (.int .i64 s)] = some (.v (.bool true)) := by
  rw [callL_eq Try.prog Try.func18 rfl ok18 _ (ext_none _ (by decide)) rfl]
  have g := (c30 l hl).2
  have k0 := k30 l hl
  generalize treeOf l = ns at g k0
  have g9 := g.len9
  have g0 := g.len0
  have hn : (ns.length : Int) < 1000000 := by omega
  have hne : ((ns.length : Int) = 0) = False := eq_false (by omega)
  have h54 := k54 ns hn
  have h66 := k66 ns hn
  have main : ∀ b' : Block, (insE ns b' s = 0 ∧ insA ns b' s = .tup [.agg (cTree ⟨ns ++ [⟨b', findR ns b'.parent, s⟩]⟩), .v (.int .i64 0)]) ∨ (insE ns b' s ≠ 0 ∧ insA ns b' s = .tup [.agg [.v (.slice none 0 0)], .v (.int .i64 (insE ns b' s))]) := fun b' => by
    unfold insA
    by_cases h : insE ns b' s = 0
    · exact .inl ⟨h, if_pos h⟩
    · exact .inr ⟨h, if_neg h⟩
  obtain ⟨b1, b2⟩ := and_bound i 65535 (by decide)
  obtain ⟨m, hm⟩ : ∃ m, IntKind.i64.wrap ↑(BitVec.ofInt IntKind.i64.bits i &&& BitVec.ofInt IntKind.i64.bits 65535).toNat = m := ⟨_, rfl⟩
  rw [hm] at b1 b2
  obtain ⟨y, hy⟩ : ∃ y, IntKind.i64.wrap ↑(BitVec.ofInt IntKind.i64.bits m &&& BitVec.ofInt IntKind.i64.bits 3).toNat = y := ⟨_, rfl⟩
  by_cases hc : 0 < y
  · have hq := tmod_bound (i := m.fdiv (2 ^ min 2 IntKind.i64.bits)) (n := (ns.length : Int)) (fdiv_nn b1 _) (by omega)
    obtain ⟨x, hx, x0, x1⟩ : ∃ x, (m.fdiv (2 ^ min 2 IntKind.i64.bits)).tmod (ns.length : Int) = x ∧ 0 ≤ x ∧ x < ns.length := ⟨_, rfl, hq.1, hq.2⟩
    rcases main { b with parent := (nd ns x).block.root } with ⟨hE, hA⟩ | ⟨hE, hA⟩
    · have hV := k49 (ns ++ [⟨{ b with parent := (nd ns x).block.root }, findR ns (nd ns x).block.root, s⟩]) (by simp; omega)
      rw [valV_ok (ins_vld g.vld hE)] at hV
      have h33 := k33t (ns ++ [⟨{ b with parent := (nd ns x).block.root }, findR ns (nd ns x).block.root, s⟩]) (ns ++ [⟨{ b with parent := (nd ns x).block.root }, findR ns (nd ns x).block.root, s⟩]) (by simp; omega)
      simp -implicitDefEqProofs only [ZZ, seval, k0, hne, hm, hy, hc, hx, x0, x1, h54, h66, hA, extA, h33, hV, k55, beq_self_eq_true, decide_true, eq_self]
      exact endL_tmp (keep_none (by decide)) (.inl rfl) rfl (by simp only [EV, seval] <;> rfl) (.v _)
    · have hz : (insE ns { b with parent := (nd ns x).block.root } s != 0) = true := by simp [hE]
      simp -implicitDefEqProofs only [ZZ, seval, k0, hne, hm, hy, hc, hx, x0, x1, h54, h66, hA, extA, k33nn, hz, k55, beq_self_eq_true]
      exact endL_tmp (keep_none (by decide)) (.inl rfl) rfl (by simp only [EV, seval] <;> rfl) (.v _)
  · rcases main b with ⟨hE, hA⟩ | ⟨hE, hA⟩
    · have hV := k49 (ns ++ [⟨b, findR ns b.parent, s⟩]) (by simp; omega)
      rw [valV_ok (ins_vld g.vld hE)] at hV
      have h33 := k33t (ns ++ [⟨b, findR ns b.parent, s⟩]) (ns ++ [⟨b, findR ns b.parent, s⟩]) (by simp; omega)
      simp -implicitDefEqProofs only [ZZ, seval, k0, hne, hm, hy, hc, h54, h66, hA, extA, h33, hV, k55, beq_self_eq_true, decide_true, eq_self]
      exact endL_tmp (keep_none (by decide)) (.inl rfl) rfl (by simp only [EV, seval] <;> rfl) (.v _)
    · have hz : (insE ns b s != 0) = true := by simp [hE]
      simp -implicitDefEqProofs only [ZZ, seval, k0, hne, hm, hy, hc, h54, h66, hA, extA, k33nn, hz, k55, beq_self_eq_true]
      exact endL_tmp (keep_none (by decide)) (.inl rfl) rfl (by simp only [EV, seval] <;> rfl) (.v _)
end Go.Ab.Try
