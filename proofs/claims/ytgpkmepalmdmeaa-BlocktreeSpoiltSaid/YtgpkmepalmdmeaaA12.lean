/-
  Part A12 of the proof: what functions of this program compute.
-/
import Derived.Test.YtgpkmepalmdmeaaK7
set_option linter.all false
set_option linter.unusedSimpArgs false
set_option linter.unusedVariables false
set_option maxRecDepth 20000
set_option maxHeartbeats 4000000
namespace Go.Ab.Try
open Classical Go.Proofs Go.Ab
theorem k47 (ns : List Node) (hu : UpOk ns) (hr : (nd ns 0).up = -1) (hn : (ns.length : Int) < 1000000) (i : Int) (i0 : 0 ≤ i) (i1 : i < ns.length) (st : St) (d : Nat) : callFn (callL Try.prog) 47 [.agg (cTree ⟨ns⟩), .v (.int .i64 i)] st (some d) = some { dst := some d, val := .own d (st.cnt d), new := some (d, [.row 3 1 (dsc ns i ns.length).length (csInt (dsc ns i ns.length))]) } := call_uniq (flat2 (flatT _) (.v _)) (c47 ns hu hr hn i i0 i1)
theorem dsc_mem (ns : List Node) (i x : Int) : ∀ k : Nat, x ∈ dsc ns i k ↔ (0 ≤ x ∧ x < k) ∧ anc ns i x = true
  | 0 => by simp [dsc]; intro h h'; omega
  | k + 1 => by
    have ih := dsc_mem ns i x k
    simp only [dsc]
    split
    · rename_i h
      rw [List.mem_append, ih, List.mem_singleton]
      constructor
      · rintro (⟨h1, h2⟩ | rfl)
        · exact ⟨by omega, h2⟩
        · exact ⟨by omega, h⟩
      · rintro ⟨h1, h2⟩
        by_cases hk : x = k
        · exact .inr hk
        · exact .inl ⟨by omega, h2⟩
    · rename_i h
      rw [ih]
      constructor
      · rintro ⟨h1, h2⟩; exact ⟨by omega, h2⟩
      · rintro ⟨h1, h2⟩
        by_cases hk : x = k
        · subst hk; exact absurd h2 h
        · exact ⟨by omega, h2⟩
theorem dsc_pw (ns : List Node) (i : Int) : ∀ k : Nat, (dsc ns i k).Pairwise (· < ·)
  | 0 => List.Pairwise.nil
  | k + 1 => by
    have ih := dsc_pw ns i k
    simp only [dsc]
    split
    · rw [List.pairwise_append]
      refine ⟨ih, by simp, fun a ha b hb => ?_⟩
      simp at hb
      have := ((dsc_mem ns i a k).1 ha).1.2
      omega
    · exact ih
theorem pw_it {l : List Int} (h : l.Pairwise (· < ·)) {j : Int} (j0 : 0 < j) (j1 : j < l.length) : it l (j - 1) < it l j := by
  obtain ⟨h1, e1⟩ := it_get (i := j - 1) (by omega) (show j - 1 < l.length by omega)
  obtain ⟨h2, e2⟩ := it_get (i := j) (by omega) j1
  rw [e1, e2]
  exact List.pairwise_iff_getElem.1 h _ _ h1 h2 (by omega)
/-- Of two ancestors of one node, one is an ancestor of the other. -/
theorem anc_cmp {ns : List Node} (hu : UpOk ns) : ∀ (k : Nat) (x y z : Int), z.toNat = k → anc ns x z = true → anc ns y z = true → anc ns x y = true ∨ anc ns y x = true := by
  intro k
  induction k using Nat.strongRecOn with
  | _ k ih =>
    intro x y z hk hxz hyz
    obtain ⟨⟨x0, x1⟩, z0, z1⟩ := anc_in hu hxz
    have y0 := (anc_in hu hyz).1.1
    by_cases hx : x = z
    · rw [hx]; exact .inr hyz
    · by_cases hy : y = z
      · rw [hy]; exact .inl hxz
      · have h1 := anc_le hu hxz
        have h2 := anc_le hu hyz
        obtain ⟨u0, u1⟩ := hu z (by omega) z1
        exact ih (nd ns z).up.toNat (by omega) x y _ rfl (by rw [← anc_up hu z1 (by omega) x0]; exact hxz) (by rw [← anc_up hu z1 (by omega) y0]; exact hyz)
theorem anc_zero0 {ns : List Node} (hu : UpOk ns) : ∀ (k : Nat) (z : Int), z.toNat = k → 0 ≤ z → z < ns.length → anc ns 0 z = true := by
  intro k
  induction k using Nat.strongRecOn with
  | _ k ih =>
    intro z hk z0 z1
    by_cases h : z = 0
    · subst h; unfold anc; exact decide_eq_true (path_self hu z0 z1)
    · obtain ⟨u0, u1⟩ := hu z (by omega) z1
      rw [anc_up hu z1 (by omega) (by omega)]
      exact ih (nd ns z).up.toNat (by omega) _ rfl u0 (by omega)
/-- AncestryOrder -/
theorem c9 (l : List Int) (i j h : Int) (hl : (l.length : Int) ≤ 9223372036854775807) : callL Try.prog 9 [.sl l.length (csInt l), .v (.int .i64 i), .v (.int .i64 j), .v (.int .i64 h)] = some (.v (.bool true)) := by
  rw [callL_eq Try.prog Try.func9 rfl ok9 _ (ext_none _ (by decide)) rfl]
  have g := (c30 l hl).2
  have k0 := k30 l hl
  generalize treeOf l = ns at g k0
  have g9 := g.len9
  have g0 := g.len0
  have hn : (ns.length : Int) < 1000000 := by omega
  have hne : ((ns.length : Int) = 0) = False := eq_false (by omega)
  have h45 := k42 ns g.up
  obtain ⟨b1, b2⟩ := and_bound i 65535 (by decide)
  have hm := tmod_bound (n := (ns.length : Int)) b1 (by omega)
  obtain ⟨x, hx, x0, x1⟩ : ∃ x, (IntKind.i64.wrap ↑(BitVec.ofInt IntKind.i64.bits i &&& BitVec.ofInt IntKind.i64.bits 65535).toNat).tmod (ns.length : Int) = x ∧ 0 ≤ x ∧ x < ns.length := ⟨_, rfl, hm.1, hm.2⟩
  obtain ⟨c1, c2⟩ := and_bound j 65535 (by decide)
  have hm' := tmod_bound (n := (ns.length : Int)) c1 (by omega)
  obtain ⟨y, hy, y0, y1⟩ : ∃ y, (IntKind.i64.wrap ↑(BitVec.ofInt IntKind.i64.bits j &&& BitVec.ofInt IntKind.i64.bits 65535).toNat).tmod (ns.length : Int) = y ∧ 0 ≤ y ∧ y < ns.length := ⟨_, rfl, hm'.1, hm'.2⟩
  obtain ⟨d1, d2⟩ := and_bound h 65535 (by decide)
  have hm2 := tmod_bound (n := (ns.length : Int)) d1 (by omega)
  obtain ⟨z, hz, z0, z1⟩ : ∃ z, (IntKind.i64.wrap ↑(BitVec.ofInt IntKind.i64.bits h &&& BitVec.ofInt IntKind.i64.bits 65535).toNat).tmod (ns.length : Int) = z ∧ 0 ≤ z ∧ z < ns.length := ⟨_, rfl, hm2.1, hm2.2⟩
  have hD := k47 ns g.up g.up0 hn x x0 x1
  have hdm := dsc_mem ns x y ns.length
  have hpw := dsc_pw ns x ns.length
  have hdl := dsc_len ns x ns.length
  have hfin : decide (y ∈ dsc ns x ns.length) = anc ns x y := by
    rw [Bool.eq_iff_iff, decide_eq_true_eq, hdm]
    exact ⟨fun h => h.2, fun h => ⟨⟨y0, y1⟩, h⟩⟩
  generalize dsc ns x ns.length = p at hD hpw hdl hfin
  have hpl : (p.length : Int) < 1000000 := by omega
  have hxx : anc ns x x = true := decide_eq_true (path_self g.up x0 x1)
  have h0x := anc_zero0 g.up _ x rfl x0 x1
  have t1 : anc ns x y = true → anc ns y z = true → anc ns x z = true := fun h h' => anc_trans g.up _ x y z rfl h h'
  have t2 : (x != y) = true → anc ns x y = true → anc ns y x = false := by
    intro h h'
    rw [← Bool.not_eq_true]
    intro h''
    rw [anc_anti g.up h' h''] at h
    simp at h
  have t3 : anc ns x z = true → anc ns y z = true → anc ns x y = false → anc ns y x = true := by
    intro h h' h''
    rcases anc_cmp g.up _ x y z rfl h h' with h3 | h3
    · rw [h3] at h''; cases h''
    · exact h3
  have t4 : (x != y) = false → anc ns x y = true ∧ anc ns y x = true := by
    intro h
    have : x = y := by simpa using h
    rw [← this]
    exact ⟨hxx, hxx⟩
  cases hA : anc ns x y <;> cases hB : anc ns y z <;> cases hC : anc ns x z <;> cases hDD : anc ns y x <;> cases hE : (x != y)
  all_goals first
    | exact Bool.noConfusion ((t1 hA hB).symm.trans hC)
    | exact Bool.noConfusion ((t2 hE hA).symm.trans hDD)
    | exact Bool.noConfusion ((t3 hC hB hA).symm.trans hDD)
    | exact Bool.noConfusion ((t4 hE).1.symm.trans hA)
    | exact Bool.noConfusion ((t4 hE).2.symm.trans hDD)
    | skip
  all_goals
    simp -implicitDefEqProofs only [ZZ, seval, k0, hne, hx, hy, hz, h45, hxx, h0x, hA, hB, hC, hDD, hE, hD]
    refine use_loop (fun n st => ∃ k : Int, st.env 2 = .v (.int .i64 y) ∧ st.env 10 = .v (.bool (anc ns x y)) ∧ st.env 12 = .own 101 0 ∧ st.heap 101 0 = some (.row 3 1 p.length (csInt p)) ∧ st.env 13 = .v (.bool (decide (y ∈ p.take k.toNat))) ∧ st.env 14 = .v (.int .i64 k) ∧ 0 ≤ k ∧ k ≤ p.length ∧ n = (p.length - k).toNat)
      (fun e st => e = .exit 0 ∧ st.env 10 = .v (.bool (anc ns x y)) ∧ st.env 13 = .v (.bool (anc ns x y))) p.length ?_ ?_ ?_
    · skip
      rintro n st ⟨k, h2, h10, h12, hh12, h13, h14, k0', k1, hn'⟩
      by_cases hlt : k < p.length
      · have hw : IntKind.i64.wrap (k + 1) = k + 1 := w64 _ (by omega) (by omega)
        have ht := take_it k0' hlt
        have hmem : decide (y ∈ p.take (k + 1).toNat) = (decide (y ∈ p.take k.toNat) || (it p k == y)) := by
          rw [ht, Bool.eq_iff_iff]
          simp only [decide_eq_true_eq, List.mem_append, List.mem_singleton, Bool.or_eq_true, beq_iff_eq]
          constructor
          · rintro (h | h)
            · exact .inl h
            · exact .inr h.symm
          · rintro (h | h)
            · exact .inl h
            · exact .inr h.symm
        by_cases hk0 : k = 0
        · have hngt : ¬ 0 < k := by omega
          have hf : decide (y ∈ p.take k.toNat) = false := by rw [hk0]; simp
          rw [hf] at hmem h13
          rw [Bool.false_or] at hmem
          refine go_on (st' := ?_) ?_ ((p.length - (k + 1)).toNat) (by omega) ?_
          rotate_left
          · simp -implicitDefEqProofs only [ZZ, seval, h2, h12, hh12, h13, h14, hlt, k0', hw, hngt]
            rfl
          · exact ⟨k + 1, by simp only [EV, seval, h2], by simp only [EV, seval, h10], by simp only [EV, seval, h12], by simp only [EV, seval, hh12], by rw [hmem]; simp only [EV, seval], (by simp only [EV, seval]), by omega, by omega, rfl⟩
        · have hkp : 0 < k := by omega
          have hw1 : IntKind.i64.wrap (k - 1) = k - 1 := w64 _ (by omega) (by omega)
          have hk10 : 0 ≤ k - 1 := by omega
          have hk11 : k - 1 < p.length := by omega
          have hpi := pw_it hpw hkp hlt
          have hnle : ¬ it p k ≤ it p (k - 1) := by omega
          cases hb : decide (y ∈ p.take k.toNat)
          · rw [hb] at hmem h13
            rw [Bool.false_or] at hmem
            refine go_on (st' := ?_) ?_ ((p.length - (k + 1)).toNat) (by omega) ?_
            rotate_left
            · simp -implicitDefEqProofs only [ZZ, seval, h2, h12, hh12, h13, h14, hlt, k0', hw, hkp, hw1, hk10, hk11, hnle]
              rfl
            · exact ⟨k + 1, by simp only [EV, seval, h2], by simp only [EV, seval, h10], by simp only [EV, seval, h12], by simp only [EV, seval, hh12], by rw [hmem]; simp only [EV, seval], (by simp only [EV, seval]), by omega, by omega, rfl⟩
          · rw [hb] at hmem h13
            rw [Bool.true_or] at hmem
            refine go_on (st' := ?_) ?_ ((p.length - (k + 1)).toNat) (by omega) ?_
            rotate_left
            · simp -implicitDefEqProofs only [ZZ, seval, h2, h12, hh12, h13, h14, hlt, k0', hw, hkp, hw1, hk10, hk11, hnle]
              rfl
            · exact ⟨k + 1, by simp only [EV, seval, h2], by simp only [EV, seval, h10], by simp only [EV, seval, h12], by simp only [EV, seval, hh12], by rw [hmem]; simp only [EV, seval], (by simp only [EV, seval]), by omega, by omega, rfl⟩
      · have ht : p.take k.toNat = p := List.take_of_length_le (by omega)
        refine go_out (e := .exit 0) (st' := ?_) ?_ (by simp) ?_
        rotate_left
        · simp -implicitDefEqProofs only [ZZ, seval, h2, h12, hh12, h14, hlt]
          rfl
        · exact ⟨rfl, by simp only [EV, seval, h10], by rw [ht, hfin] at h13; simp only [EV, seval, h13]⟩
    · exact ⟨0, (by simp only [EV, seval]), by simp only [EV, seval, hA], (by simp only [EV, seval]), (by simp only [EV, seval]), (by simp only [EV, seval] <;> simp), (by simp only [EV, seval]), by omega, by omega, by omega⟩
    · skip
      rintro e st ⟨rfl, h10, h13⟩
      simp -implicitDefEqProofs only [ZZ, seval, h10, h13, beq_self_eq_true, k41]
      exact endL_tmp (keep_none (by decide)) (.inl rfl) rfl (by simp only [EV, seval] <;> rfl) (.v _)
end Go.Ab.Try
