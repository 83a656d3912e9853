/-
  Part J10 of the proof: what functions of this program compute.
-/
import Derived.Test.YtgpkmepalmdmeaaJ9
set_option linter.all false
set_option linter.unusedSimpArgs false
set_option linter.unusedVariables false
set_option maxRecDepth 20000
set_option maxHeartbeats 4000000
namespace Go.Ab.Try
open Classical Go.Proofs Go.Ab
/-- What a judgement answers. -/
theorem jud_cases {ns : List Node} (hu : UpOk ns) (hr : (nd ns 0).up = -1) {i : Int} (i0 : 0 ≤ i) (i1 : i < ns.length) (v : Verdict) (l : List Int) :
    (∃ e, e ≠ 0 ∧ judV ns i v l = err2 e) ∨ (∃ r, judV ns i v l = stA (some r) ∧ ((v.kind = 1 ∧ raO ns i = some r) ∨ (v.kind = 2 ∧ cndO ns i v.latest l = some r) ∨ (v.kind ≠ 1 ∧ v.kind ≠ 2 ∧ r = ns ∧ (v.kind = 3 ∨ v.kind = 4)))) := by
  unfold judV
  rw [if_neg (by simp [i0, i1])]
  split
  · rename_i h1
    rw [show raV ns i = stA (raO ns i) from if_pos ⟨i0, i1⟩]
    cases h : raO ns i with
    | none => exact .inl ⟨21, by decide, rfl⟩
    | some r => exact .inr ⟨r, rfl, .inl ⟨h1, rfl⟩⟩
  · rename_i h1
    split
    · rename_i h2
      rw [cndV_O hu hr i0 i1]
      cases h : cndO ns i v.latest l with
      | none => exact .inl ⟨21, by decide, rfl⟩
      | some r => exact .inr ⟨r, rfl, .inr (.inl ⟨h2, rfl⟩)⟩
    · rename_i h2
      split
      · rename_i h3
        exact .inr ⟨ns, rfl, .inr (.inr ⟨h1, h2, rfl, h3⟩)⟩
      · exact .inl ⟨2, by decide, rfl⟩
theorem jud_raise {ns : List Node} {i : Int} (i0 : 0 ≤ i) (i1 : i < ns.length) {v : Verdict} (hv : v.kind = 1) (l : List Int) : judV ns i v l = stA (raO ns i) := by
  unfold judV
  rw [if_neg (by simp [i0, i1]), if_pos hv]
  exact if_pos ⟨i0, i1⟩
theorem jud_cnd {ns : List Node} (hu : UpOk ns) (hr : (nd ns 0).up = -1) {i : Int} (i0 : 0 ≤ i) (i1 : i < ns.length) {v : Verdict} (hv : v.kind = 2) (l : List Int) : judV ns i v l = stA (cndO ns i v.latest l) := by
  unfold judV
  rw [if_neg (by simp [i0, i1]), if_neg (by omega), if_pos hv]
  exact cndV_O hu hr i0 i1 _ _
theorem raised_root {ns r : List Node} {i : Int} (hu : UpOk ns) (h0 : 0 < ns.length) (hr : (nd ns 0).up = -1) (h : raO ns i = some r) : UpOk r ∧ (nd r 0).up = -1 ∧ r.length = ns.length := by
  have hR := raised_of hu h
  exact ⟨hR.c.su.upok hu, by rw [hR.c.upE (by omega) (by omega)]; exact hr, hR.c.len⟩
theorem cnd_root {ns r : List Node} {i : Int} {h : Root} {l : List Int} (hu : UpOk ns) (h0 : 0 < ns.length) (hr : (nd ns 0).up = -1) (h : cndO ns i h l = some r) : UpOk r ∧ (nd r 0).up = -1 ∧ r.length = ns.length := by
  obtain ⟨hC, _⟩ := cnd_of hu h
  exact ⟨hC.su.upok hu, by rw [hC.upE 0 (by omega) (by omega)]; exact hr, hC.len⟩
/-- VerdictRepeats -/
theorem c26 (l : List Int) (i j : Int) (hl : (l.length : Int) ≤ 9223372036854775807) : callL Try.prog 26 [.sl l.length (csInt l), .v (.int .i64 i), .v (.int .i64 j)] = some (.v (.bool true)) := by
  rw [callL_eq Try.prog Try.func26 rfl ok26 _ (ext_none _ (by decide)) rfl]
  have g := (c30 l hl).2
  have k0 := k30 l hl
  generalize treeOf l = ns at g k0
  have g9 := g.len9
  have g0 := g.len0
  have hn : (ns.length : Int) < 1000000 := by omega
  have hne : ((ns.length : Int) = 0) = False := eq_false (by omega)
  obtain ⟨v, kv, m, hkv, hm, h77⟩ := k77 ns g0 hn (IntKind.i64.wrap ↑(BitVec.ofInt IntKind.i64.bits j &&& BitVec.ofInt IntKind.i64.bits 16777215).toNat)
  obtain ⟨b1, b2⟩ := and_bound i 65535 (by decide)
  have hmm := tmod_bound (n := (ns.length : Int)) b1 (by omega)
  obtain ⟨x, hx, x0, x1⟩ : ∃ x, (IntKind.i64.wrap ↑(BitVec.ofInt IntKind.i64.bits i &&& BitVec.ofInt IntKind.i64.bits 65535).toNat).tmod (ns.length : Int) = x ∧ 0 ≤ x ∧ x < ns.length := ⟨_, rfl, hmm.1, hmm.2⟩
  have p78 := k78 ns g.up g.up0 hn x v m hm hkv
  rcases jud_cases g.up g.up0 x0 x1 v m with ⟨e, he, h⟩ | ⟨r, h, hr⟩
  · rw [h] at p78
    simp only [err2] at p78
    have hb : (e != 0) = true := by simp [he]
    simp -implicitDefEqProofs only [ZZ, seval, ZV, k0, hne, h77, hx, p78, hb, extA, k76]
    exact endL_tmp (keep_none (by decide)) (.inl rfl) rfl (by simp only [EV, seval] <;> rfl) (.v _)
  · rw [h] at p78
    simp only [stA] at p78
    rcases hr with ⟨hk, ho⟩ | ⟨hk, ho⟩ | ⟨hk1, hk2, rfl, hk⟩
    · obtain ⟨u2, r2, l2⟩ := raised_root g.up g0 g.up0 ho
      have q78 := k78 r u2 r2 (by omega) x v m hm hkv
      have s78 := k78 r u2 r2 (by omega) x ⟨zVerdict.tagged, 2, v.latest⟩ m hm hkv
      rw [jud_raise x0 (by omega) hk, raise_again g.up (raised_of g.up ho)] at q78
      rw [jud_cnd u2 r2 x0 (by omega) rfl, cnd_raised g.up g.up0 x0 x1 ho] at s78
      simp only [stA, err2] at q78 s78
      have hs := same_two r (by omega)
      have bk : (v.kind == 1) = true := by simp [hk]
      simp -implicitDefEqProofs only [ZZ, seval, ZV, k0, hne, h77, hx, p78, q78, s78, extA, k76, hs, bk, bne_self_eq_false, beq_self_eq_true]
      exact endL_tmp (keep_none (by decide)) (.inl rfl) rfl (by simp only [EV, seval] <;> rfl) (.v _)
    · obtain ⟨u2, r2, l2⟩ := cnd_root g.up g0 g.up0 ho
      have q78 := k78 r u2 r2 (by omega) x v m hm hkv
      have s78 := k78 r u2 r2 (by omega) x ⟨zVerdict.tagged, 1, v.latest⟩ m hm hkv
      rw [jud_cnd u2 r2 x0 (by omega) hk, cnd_again g.up ho] at q78
      rw [jud_raise x0 (by omega) rfl, raise_cnd g.up g.up0 x0 x1 ho] at s78
      simp only [stA, err2] at q78 s78
      have hs := same_two r (by omega)
      have bk : (v.kind == 1) = false := by simp [hk]
      have bk2 : (v.kind == 2) = true := by simp [hk]
      simp -implicitDefEqProofs only [ZZ, seval, ZV, k0, hne, h77, hx, p78, q78, s78, extA, k76, hs, bk, bk2, bne_self_eq_false, beq_self_eq_true]
      exact endL_tmp (keep_none (by decide)) (.inl rfl) rfl (by simp only [EV, seval] <;> rfl) (.v _)
    · have hs := same_two r (by omega)
      have bk : (v.kind == 1) = false := by simp [hk1]
      have bk2 : (v.kind == 2) = false := by simp [hk2]
      simp -implicitDefEqProofs only [ZZ, seval, ZV, k0, hne, h77, hx, p78, extA, k76, hs, bk, bk2, bne_self_eq_false, beq_self_eq_true]
      exact endL_tmp (keep_none (by decide)) (.inl rfl) rfl (by simp only [EV, seval] <;> rfl) (.v _)
end Go.Ab.Try
