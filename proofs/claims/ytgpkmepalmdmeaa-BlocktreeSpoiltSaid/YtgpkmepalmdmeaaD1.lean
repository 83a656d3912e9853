/-
  Part D1 of the proof: what functions of this program compute.
-/
import Derived.Test.YtgpkmepalmdmeaaH1
import Derived.Test.YtgpkmepalmdmeaaA12
import Derived.Test.YtgpkmepalmdmeaaK9
set_option linter.all false
set_option linter.unusedSimpArgs false
set_option linter.unusedVariables false
set_option maxRecDepth 20000
set_option maxHeartbeats 4000000
namespace Go.Ab.Try
open Classical Go.Proofs Go.Ab
/-- ref11.Heir -/
theorem c48 (ns : List Node) (hu : UpOk ns) (hn : (ns.length : Int) < 1000000) (a b : Int) : callL Try.prog 48 [.agg (cTree ⟨ns⟩), .v (.int .i64 a), .v (.int .i64 b)] = some (.v (.int .i64 (heirV ns a b))) := by
  rw [callL_eq Try.prog Try.func48 rfl ok48 _ (ext_none _ (by decide)) rfl]
  by_cases hb : 0 ≤ b ∧ b < ns.length
  · have hpl := path_lt hu b
    have h0 := path_nz hu hb.1 hb.2
    have hK := k45 ns hu hn b hb.1 hb.2
    have hat := fun k h h' => heirV_at hu hb.1 hb.2 (k := k) h h'
    have hno := heirV_none hu (a := a) (b := b)
    generalize path ns b = p at hpl h0 hK hat hno
    simp -implicitDefEqProofs only [ZZ, seval, hK]
    refine use_loop (fun n st => ∃ k : Int, (st.env 1 = .v (.int .i64 a) ∧ st.env 7 = .own 11 0 ∧ st.heap 11 0 = some (.row 3 1 p.length (csInt p)) ∧ st.env 8 = .v (.int .i64 k)) ∧ 1 ≤ k ∧ k ≤ p.length ∧ (∀ j : Int, 1 ≤ j → j < k → it p (j - 1) ≠ a) ∧ n = (p.length - k).toNat)
      (fun e st => (e = .ret ∧ st.env 6 = .v (.int .i64 (heirV ns a b))) ∨ (e = .exit 0 ∧ heirV ns a b = -1)) (p.length - 1) ?step ?start ?rest
    case step =>
      rintro n st ⟨k, hI, k1, k2, hj, hn'⟩
      by_cases hlt : k < p.length
      · have hw : IntKind.i64.wrap (k + 1) = k + 1 := w64 _ (by omega) (by omega)
        have hw1 : IntKind.i64.wrap (k - 1) = k - 1 := w64 _ (by omega) (by omega)
        have q0 : 0 ≤ k - 1 := by omega
        have q1 : k - 1 < p.length := by omega
        have k0 : 0 ≤ k := by omega
        by_cases hr : it p (k - 1) = a
        · have hbq : (it p (k - 1) == a) = true := by simp [hr]
          refine go_out (e := .ret) (st' := ?s1) ?h1 (by simp) ?q1
          case h1 =>
            simp -implicitDefEqProofs only [ZZ, seval, hI, hlt, hw1, q0, q1, k0, hbq]
            rfl
          case q1 => exact .inl ⟨rfl, by simp only [EV, seval]; rw [← hr, hat k k1 hlt]⟩
        · have hbq : (it p (k - 1) == a) = false := by simp [hr]
          refine go_on (st' := ?s2) ?h2 ((p.length - (k + 1)).toNat) (by omega) ?q2
          case h2 =>
            simp -implicitDefEqProofs only [ZZ, seval, hI, hlt, hw, hw1, q0, q1, hbq]
            rfl
          case q2 => exact ⟨k + 1, by simp only [EV, seval, hI], by omega, by omega, fun j j0 j1 => by
            rcases Int.lt_or_eq_of_le (show j ≤ k by omega) with h | rfl
            · exact hj j j0 h
            · exact hr, rfl⟩
      · obtain rfl : k = p.length := by omega
        refine go_out (e := .exit 0) (st' := ?s3) ?h3 (by simp) ?q3
        case h3 =>
          simp -implicitDefEqProofs only [ZZ, seval, hI, hlt]
          rfl
        case q3 => exact .inr ⟨rfl, hno fun j j0 j1 => hj j j0 j1⟩
    case start => exact ⟨1, (by simp only [EV, seval]), by omega, by omega, fun j _ _ => by omega, by omega⟩
    case rest =>
      rintro e st (⟨rfl, h⟩ | ⟨rfl, h⟩)
      · simp -implicitDefEqProofs only [ZZ, seval]
        exact endL_tmp (keep_none (by decide)) (.inl rfl) rfl h (.v _)
      · simp -implicitDefEqProofs only [ZZ, seval]
        exact endL_tmp (keep_none (by decide)) (.inl rfl) rfl (by simp only [EV, seval, h]) (.v _)
  · have hv : heirV ns a b = -1 := by unfold heirV; exact if_pos (.inr (anc_range hu fun h => hb h.2))
    simp -implicitDefEqProofs only [ZZ, seval, k45n ns b hb, evL_loop]
    exact endL_tmp (keep_none (by decide)) (.inl rfl) rfl (by simp only [EV, seval, hv]) (.v _)
theorem k48 (ns : List Node) (hu : UpOk ns) (hn : (ns.length : Int) < 1000000) (a b : Int) (st : St) (d : Option Nat) : callFn (callL Try.prog) 48 [.agg (cTree ⟨ns⟩), .v (.int .i64 a), .v (.int .i64 b)] st d = some { dst := d, val := .v (.int .i64 (heirV ns a b)) } := call_flat (flat3 (flatT _) (.v _) (.v _)) (c48 ns hu hn a b) (.v _)
theorem c47n (ns : List Node) (i : Int) (h : ¬ (0 ≤ i ∧ i < ns.length)) : callL Try.prog 47 [.agg (cTree ⟨ns⟩), .v (.int .i64 i)] = some (.v (.slice none 0 0)) := by
  rw [callL_eq Try.prog Try.func47 rfl ok47 _ (ext_none _ (by decide)) rfl]
  have hd : (decide (0 ≤ i) && decide (i < ns.length)) = false := by
    rw [← Bool.not_eq_true]; simpa using h
  simp -implicitDefEqProofs only [ZZ, seval, k88, hd]
  exact endL_tmp (keep_none (by decide)) (.inl rfl) rfl (by simp only [EV, seval]) (.v _)
theorem k47n (ns : List Node) (i : Int) (h : ¬ (0 ≤ i ∧ i < ns.length)) (st : St) (d : Option Nat) : callFn (callL Try.prog) 47 [.agg (cTree ⟨ns⟩), .v (.int .i64 i)] st d = some { dst := d, val := .v (.slice none 0 0) } := call_flat (flat2 (flatT _) (.v _)) (c47n ns i h) (.v _)
theorem dsc_none {ns : List Node} (hu : UpOk ns) {i : Int} (h : ¬ (0 ≤ i ∧ i < ns.length)) : ∀ k : Nat, dsc ns i k = []
  | 0 => rfl
  | k + 1 => by
    simp only [dsc]
    rw [dsc_none hu h k, anc_range hu fun h' => h h'.1]
    rfl
theorem k36n (ns : List Node) (hu : UpOk ns) (hn : (ns.length : Int) < 1000000) (i : Int) (h : ¬ (0 ≤ i ∧ i < ns.length)) (st : St) (d : Option Nat) : callFn (callL Try.prog) 36 [.agg (cTree ⟨ns⟩), .v (.int .i64 i)] st d = some { dst := d, val := .v (.slice none 0 0) } := by
  have hc := c36 ns hu hn i
  rw [if_pos (dsc_none hu h _)] at hc
  exact call_flat (flat2 (flatT _) (.v _)) hc (.v _)
/-- AncestryPaths -/
theorem c8 (l : List Int) (i j : Int) (hl : (l.length : Int) ≤ 9223372036854775807) : callL Try.prog 8 [.sl l.length (csInt l), .v (.int .i64 i), .v (.int .i64 j)] = some (.v (.bool true)) := by
  rw [callL_eq Try.prog Try.func8 rfl ok8 _ (ext_none _ (by decide)) rfl]
  have g := (c30 l hl).2
  have k0 := k30 l hl
  generalize treeOf l = ns at g k0
  have g9 := g.len9
  have g0 := g.len0
  have hn : (ns.length : Int) < 1000000 := by omega
  have hne : ((ns.length : Int) = 0) = False := eq_false (by omega)
  have h42 := k42 ns g.up
  have h46 := k46 ns g.up hn
  have h43 := k43 ns g.up
  have h48 := k48 ns g.up hn
  have mem : ∀ x : Int, 0 ≤ x → x < ns.length → ∃ p q : List Int, (∀ (st : St) (d : Nat), callFn (callL Try.prog) 44 [.agg (cTree ⟨ns⟩), .v (.int .i64 x)] st (some d) = some { dst := some d, val := .own d (st.cnt d), new := some (d, [.row 3 1 p.length (csInt p)]) }) ∧
      (∀ (st : St) (d : Nat), callFn (callL Try.prog) 45 [.agg (cTree ⟨ns⟩), .v (.int .i64 x)] st (some d) = some { dst := some d, val := .own d (st.cnt d), new := some (d, [.row 3 1 p.length (csInt p)]) }) ∧
      (∀ (st : St) (d : Nat), callFn (callL Try.prog) 47 [.agg (cTree ⟨ns⟩), .v (.int .i64 x)] st (some d) = some { dst := some d, val := .own d (st.cnt d), new := some (d, [.row 3 1 q.length (csInt q)]) }) ∧
      (∀ (st : St) (d : Nat), callFn (callL Try.prog) 36 [.agg (cTree ⟨ns⟩), .v (.int .i64 x)] st (some d) = some { dst := some d, val := .own d (st.cnt d), new := some (d, [.row 3 1 q.length (csInt q)]) }) ∧ (p.length : Int) < 1000000 ∧ (q.length : Int) < 1000000 := fun x x0 x1 =>
    ⟨path ns x, dsc ns x ns.length, k44 ns g.up g.up0 hn x x0 x1, k45 ns g.up hn x x0 x1, k47 ns g.up g.up0 hn x x0 x1, k36 ns g.up hn x (dsc_ne g.up x0 x1 _ x1), by have := path_lt g.up x; omega, by have := dsc_len ns x ns.length; omega⟩
  obtain ⟨b0, hb0⟩ : ∃ b, IntKind.i64.wrap ↑(BitVec.ofInt IntKind.i64.bits i &&& BitVec.ofInt IntKind.i64.bits 3).toNat = b := ⟨_, rfl⟩
  by_cases hc : 0 < b0
  · obtain ⟨b1, b2⟩ := and_bound (i.fdiv (2 ^ min 2 IntKind.i64.bits)) 65535 (by decide)
    have hm := tmod_bound (n := (ns.length : Int)) b1 (by omega)
    obtain ⟨x, hx, x0, x1⟩ : ∃ x, (IntKind.i64.wrap ↑(BitVec.ofInt IntKind.i64.bits (i.fdiv (2 ^ min 2 IntKind.i64.bits)) &&& BitVec.ofInt IntKind.i64.bits 65535).toNat).tmod (ns.length : Int) = x ∧ 0 ≤ x ∧ x < ns.length := ⟨_, rfl, hm.1, hm.2⟩
    obtain ⟨c1, c2⟩ := and_bound (j.fdiv (2 ^ min 2 IntKind.i64.bits)) 65535 (by decide)
    have hm' := tmod_bound (n := (ns.length : Int)) c1 (by omega)
    obtain ⟨y, hy, y0, y1⟩ : ∃ y, (IntKind.i64.wrap ↑(BitVec.ofInt IntKind.i64.bits (j.fdiv (2 ^ min 2 IntKind.i64.bits)) &&& BitVec.ofInt IntKind.i64.bits 65535).toNat).tmod (ns.length : Int) = y ∧ 0 ≤ y ∧ y < ns.length := ⟨_, rfl, hm'.1, hm'.2⟩
    obtain ⟨p, q, h1, h2, h3, h4, h5, h6⟩ := mem x x0 x1
    simp -implicitDefEqProofs only [ZZ, seval, k0, hne, hb0, hc, hx, hy, h42, h46, h43, h48, h1, h2, h3, h4, q34, k34, h5, h6, k41, beq_self_eq_true, decide_true, eq_self]
    exact endL_tmp (keep_none (by decide)) (.inl rfl) rfl (by simp only [EV, seval] <;> rfl) (.v _)
  · by_cases hv : 0 ≤ i ∧ i < ns.length
    · obtain ⟨p, q, h1, h2, h3, h4, h5, h6⟩ := mem i hv.1 hv.2
      simp -implicitDefEqProofs only [ZZ, seval, k0, hne, hb0, hc, h42, h46, h43, h48, h1, h2, h3, h4, q34, k34, h5, h6, k41, beq_self_eq_true, decide_true, eq_self]
      exact endL_tmp (keep_none (by decide)) (.inl rfl) rfl (by simp only [EV, seval] <;> rfl) (.v _)
    · have h1 := k44n ns i hv
      have h2 := k45n ns i hv
      have h3 := k47n ns i hv
      have h4 := k36n ns g.up hn i hv
      simp -implicitDefEqProofs only [ZZ, seval, k0, hne, hb0, hc, h42, h46, h43, h48, h1, h2, h3, h4, q34, k34n, k41, beq_self_eq_true, decide_true, eq_self]
      exact endL_tmp (keep_none (by decide)) (.inl rfl) rfl (by simp only [EV, seval] <;> rfl) (.v _)
end Go.Ab.Try
