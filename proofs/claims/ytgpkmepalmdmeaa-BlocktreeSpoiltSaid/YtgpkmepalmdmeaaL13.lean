/-
  Part L13 of the proof: what functions of this program compute.
-/
import Derived.Test.YtgpkmepalmdmeaaL12
set_option linter.all false
set_option linter.unusedSimpArgs false
set_option linter.unusedVariables false
set_option maxRecDepth 20000
set_option maxHeartbeats 4000000
namespace Go.Ab.Try
open Classical Go.Proofs Go.Ab
/-- BlocktreeSpoilt -/
theorem c17 (l : List Int) (i j k : Int) (hl : (l.length : Int) ≤ 9223372036854775807) : callL Try.prog 17 [.sl l.length (csInt l), .v (.int .i64 i), .v (.int .i64 j), .v (.int .i64 k)] = some (.v (.bool true)) := by
  rw [callL_eq Try.prog Try.func17 rfl ok17 _ (ext_none _ (by decide)) rfl]
  have g := (c30 l hl).2
  have k0 := k30 l hl
  generalize treeOf l = ns at g k0
  have g9 := g.len9
  have g0 := g.len0
  have hn : (ns.length : Int) < 1000000 := by omega
  have hne : ((ns.length : Int) = 0) = False := eq_false (by omega)
  have hV := valV_ok g.vld
  have h49 := k49 ns hn
  rw [hV] at h49
  obtain ⟨b1, b2⟩ := and_bound j 65535 (by decide)
  have hmm := tmod_bound (n := (ns.length : Int)) b1 (by omega)
  obtain ⟨x, hx, x0, x1⟩ : ∃ x, (IntKind.i64.wrap ↑(BitVec.ofInt IntKind.i64.bits j &&& BitVec.ofInt IntKind.i64.bits 65535).toNat).tmod (ns.length : Int) = x ∧ 0 ≤ x ∧ x < ns.length := ⟨_, rfl, hmm.1, hmm.2⟩
  obtain ⟨m, hm⟩ : ∃ m, (IntKind.i64.wrap ↑(BitVec.ofInt IntKind.i64.bits i &&& BitVec.ofInt IntKind.i64.bits 255).toNat).tmod 6 = m := ⟨_, rfl⟩
  by_cases h0 : m = 0
  · have d0 : (m == 0) = true := by simp [h0]
    obtain ⟨y, hy⟩ : ∃ y, IntKind.i64.wrap ((IntKind.i64.wrap ↑(BitVec.ofInt IntKind.i64.bits k &&& BitVec.ofInt IntKind.i64.bits 15).toNat) - 2) = y := ⟨_, rfl⟩
    obtain ⟨u, hu⟩ : ∃ u, u = putUp ns x y := ⟨_, rfl⟩
    have hul : u.length = ns.length := by rw [hu]; exact putUp_len ns x y
    have hup := upd_up (l := ns) (s := y) x0 x1
    rw [← hu] at hup
    have w1 := w49 u (by omega)
    have w2 := w65 u (by omega)
    rw [hul] at w1 w2
    have hle : x.toNat * 240 + 238 + 1 ≤ ns.length * 240 := by
      have : (x.toNat + 1) * 240 ≤ ns.length * 240 := Nat.mul_le_mul_right _ (by omega)
      omega
    have hle2 : x.toNat * 240 + 239 ≤ ns.length * 240 := by omega
    simp -implicitDefEqProofs only [ZZ, seval, k0, h49, hn, hne, hx, x0, x1, hm, d0, ev_nilCheck, nilA_ptr, k53, hy, hup, hle, hle2, q49, q65, hV, bne_self_eq_false]
    simp -implicitDefEqProofs only [ZZ, seval, ev_nilCheck, nilA_ptr, k53, hy, hup, hle, hle2, q49, q65, w1, w2, k55, beq_self_eq_true]
    exact endL_tmp (keep_none (by decide)) (.inl rfl) rfl (by simp only [EV, seval] <;> rfl) (.v _)
  have d0 : (m == 0) = false := by simp [h0]
  by_cases h1 : m = 1
  · have d1 : (m == 1) = true := by simp [h1]
    obtain ⟨y, hy⟩ : ∃ y, IntKind.i64.wrap ((IntKind.i64.wrap ↑(BitVec.ofInt IntKind.i64.bits k &&& BitVec.ofInt IntKind.i64.bits 7).toNat) - 1) = y := ⟨_, rfl⟩
    obtain ⟨u, hu⟩ : ∃ u, u = setAt ns x y := ⟨_, rfl⟩
    have hul : u.length = ns.length := by rw [hu]; exact setAt_len ns x y
    have hup := upd_status (l := ns) (s := y) x0 x1
    rw [← hu] at hup
    have w1 := w49 u (by omega)
    have w2 := w65 u (by omega)
    rw [hul] at w1 w2
    have hle : x.toNat * 240 + 239 + 1 ≤ ns.length * 240 := by
      have : (x.toNat + 1) * 240 ≤ ns.length * 240 := Nat.mul_le_mul_right _ (by omega)
      omega
    have hle2 : x.toNat * 240 + 240 ≤ ns.length * 240 := by omega
    simp -implicitDefEqProofs only [ZZ, seval, k0, h49, hn, hne, hx, x0, x1, hm, d0, d1, ev_nilCheck, nilA_ptr, k53, hy, hup, hle, hle2, q49, q65, hV, bne_self_eq_false]
    simp -implicitDefEqProofs only [ZZ, seval, ev_nilCheck, nilA_ptr, k53, hy, hup, hle, hle2, q49, q65, w1, w2, k55, beq_self_eq_true]
    exact endL_tmp (keep_none (by decide)) (.inl rfl) rfl (by simp only [EV, seval] <;> rfl) (.v _)
  have d1 : (m == 1) = false := by simp [h1]
  by_cases h2 : m = 2
  · have d2 : (m == 2) = true := by simp [h2]
    obtain ⟨y, hy⟩ : ∃ y, mkRoot (IntKind.i64.wrap ↑(BitVec.ofInt IntKind.i64.bits k &&& BitVec.ofInt IntKind.i64.bits 31).toNat) = y := ⟨_, rfl⟩
    obtain ⟨u, hu⟩ : ∃ u, u = putRoot ns x y := ⟨_, rfl⟩
    have hul : u.length = ns.length := by rw [hu]; exact putRoot_len ns x y
    have hup := upd_root (l := ns) (x := y) x0 x1
    rw [← hu] at hup
    have w1 := w49 u (by omega)
    have w2 := w65 u (by omega)
    rw [hul] at w1 w2
    have hle : x.toNat * 240 + 67 + 32 ≤ ns.length * 240 := by
      have : (x.toNat + 1) * 240 ≤ ns.length * 240 := Nat.mul_le_mul_right _ (by omega)
      omega
    have hle2 : x.toNat * 240 + 99 ≤ ns.length * 240 := by omega
    simp -implicitDefEqProofs only [ZZ, seval, k0, h49, hn, hne, hx, x0, x1, hm, d0, d1, d2, ev_nilCheck, nilA_ptr, k53, hy, hup, hle, hle2, q49, q65, hV, bne_self_eq_false]
    simp -implicitDefEqProofs only [ZZ, seval, ev_nilCheck, nilA_ptr, k53, hy, hup, hle, hle2, q49, q65, w1, w2, k55, beq_self_eq_true]
    exact endL_tmp (keep_none (by decide)) (.inl rfl) rfl (by simp only [EV, seval] <;> rfl) (.v _)
  have d2 : (m == 2) = false := by simp [h2]
  by_cases h3 : m = 3
  · have d3 : (m == 3) = true := by simp [h3]
    obtain ⟨y, hy⟩ : ∃ y, mkRoot (IntKind.i64.wrap ↑(BitVec.ofInt IntKind.i64.bits k &&& BitVec.ofInt IntKind.i64.bits 31).toNat) = y := ⟨_, rfl⟩
    obtain ⟨u, hu⟩ : ∃ u, u = putPar ns x y := ⟨_, rfl⟩
    have hul : u.length = ns.length := by rw [hu]; exact putPar_len ns x y
    have hup := upd_par (l := ns) (x := y) x0 x1
    rw [← hu] at hup
    have w1 := w49 u (by omega)
    have w2 := w65 u (by omega)
    rw [hul] at w1 w2
    have hle : x.toNat * 240 + 99 + 32 ≤ ns.length * 240 := by
      have : (x.toNat + 1) * 240 ≤ ns.length * 240 := Nat.mul_le_mul_right _ (by omega)
      omega
    have hle2 : x.toNat * 240 + 131 ≤ ns.length * 240 := by omega
    simp -implicitDefEqProofs only [ZZ, seval, k0, h49, hn, hne, hx, x0, x1, hm, d0, d1, d2, d3, ev_nilCheck, nilA_ptr, k53, hy, hup, hle, hle2, q49, q65, hV, bne_self_eq_false]
    simp -implicitDefEqProofs only [ZZ, seval, ev_nilCheck, nilA_ptr, k53, hy, hup, hle, hle2, q49, q65, w1, w2, k55, beq_self_eq_true]
    exact endL_tmp (keep_none (by decide)) (.inl rfl) rfl (by simp only [EV, seval] <;> rfl) (.v _)
  have d3 : (m == 3) = false := by simp [h3]
  by_cases h4 : m = 4
  · have d4 : (m == 4) = true := by simp [h4]
    obtain ⟨y, hy⟩ : ∃ y, IntKind.u64.wrap (IntKind.i64.wrap ↑(BitVec.ofInt IntKind.i64.bits k &&& BitVec.ofInt IntKind.i64.bits 15).toNat) = y := ⟨_, rfl⟩
    obtain ⟨u, hu⟩ : ∃ u, u = putSlot ns x y := ⟨_, rfl⟩
    have hul : u.length = ns.length := by rw [hu]; exact putSlot_len ns x y
    have hup := upd_slot (l := ns) (s := y) x0 x1
    rw [← hu] at hup
    have w1 := w49 u (by omega)
    have w2 := w65 u (by omega)
    rw [hul] at w1 w2
    have hle : x.toNat * 240 + 66 + 1 ≤ ns.length * 240 := by
      have : (x.toNat + 1) * 240 ≤ ns.length * 240 := Nat.mul_le_mul_right _ (by omega)
      omega
    have hle2 : x.toNat * 240 + 67 ≤ ns.length * 240 := by omega
    simp -implicitDefEqProofs only [ZZ, seval, k0, h49, hn, hne, hx, x0, x1, hm, d0, d1, d2, d3, d4, ev_nilCheck, nilA_ptr, k53, hy, hup, hle, hle2, q49, q65, hV, bne_self_eq_false]
    simp -implicitDefEqProofs only [ZZ, seval, ev_nilCheck, nilA_ptr, k53, hy, hup, hle, hle2, q49, q65, w1, w2, k55, beq_self_eq_true]
    exact endL_tmp (keep_none (by decide)) (.inl rfl) rfl (by simp only [EV, seval] <;> rfl) (.v _)
  have d4 : (m == 4) = false := by simp [h4]
  obtain ⟨a, t, ht⟩ : ∃ a t, ns = a :: t := by
    cases ns with
    | nil => simp at g0
    | cons a t => exact ⟨a, t, rfl⟩
  have hlt : ns.length = t.length + 1 := by rw [ht]; rfl
  by_cases h5 : t.length = 0
  · have w1 := w49 [] (by decide)
    have w2 := w65 [] (by decide)
    have e0 : ([] : List Node).length = 0 := rfl
    have e2 : csNode ([] : List Node) = [] := rfl
    rw [e0, e2] at w1 w2
    have hs : slO (some (.row 54 240 ns.length (csNode ns))) 19 0 = some (.sl 0 []) := by
      rw [show ns.length = 1 by omega]; exact slO_one _ _ _ _ _
    simp -implicitDefEqProofs only [ZZ, seval, k0, h49, hn, hne, hx, x0, x1, hm, d0, d1, d2, d3, d4, hV, slice_own1, hs, bne_self_eq_false]
    simp -implicitDefEqProofs only [ZZ, seval, q49, q65, w1, w2, expo_sl00, k55, beq_self_eq_true]
    exact endL_tmp (keep_none (by decide)) (.inl rfl) rfl (by simp only [EV, seval] <;> rfl) (.v _)
  · have w1 := w49 t (by omega)
    have w2 := w65 t (by omega)
    have hs : slO (some (.row 54 240 ns.length (csNode ns))) 19 0 = some (.vw 19 0 240 t.length) := by
      obtain ⟨q, hq⟩ : ∃ q, t.length = q + 1 := ⟨t.length - 1, by omega⟩
      rw [hlt, hq]
      exact slO_more _ _ _ _ _ _
    have hW : expoW (some (.row 54 240 ns.length (csNode ns))) 240 t.length = some (.sl t.length (csNode t)) := by
      rw [ht]; exact expoW_tail _ _ _ _
    simp -implicitDefEqProofs only [ZZ, seval, k0, h49, hn, hne, hx, x0, x1, hm, d0, d1, d2, d3, d4, hV, slice_own1, hs, stor_vw, cel_vw, bne_self_eq_false]
    simp -implicitDefEqProofs only [ZZ, seval, q49, q65, w1, w2, expo_aggvw, hW, k55, beq_self_eq_true]
    exact endL_tmp (keep_none (by decide)) (.inl rfl) rfl (by simp only [EV, seval] <;> rfl) (.v _)
end Go.Ab.Try
