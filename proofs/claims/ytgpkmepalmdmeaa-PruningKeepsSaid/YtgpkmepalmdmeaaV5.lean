/-
  Part V5 of the proof: what functions of this program compute.
-/
import Derived.Test.YtgpkmepalmdmeaaV4
import Derived.Test.YtgpkmepalmdmeaaK9
set_option linter.all false
set_option linter.unusedSimpArgs false
set_option linter.unusedVariables false
set_option maxRecDepth 20000
set_option maxHeartbeats 4000000
namespace Go.Ab.Try
open Classical Go.Proofs Go.Ab
theorem prF_neg (ns : List Node) (i : Int) : ∀ (k : Nat) (j : Int), 0 ≤ j → j < k → anc ns i j = false → it (prF ns i k).2 j = -1
  | 0, j, _, h, _ => by omega
  | k + 1, j, h0, h1, ha => by
    have hl := prF_idx ns i k
    by_cases hj : j < k
    · have ih := prF_neg ns i k j h0 hj ha
      simp only [prF]
      split
      · simp only; rw [it_app_lt h0 (by omega)]; exact ih
      · simp only; rw [it_app_lt h0 (by omega)]; exact ih
    · have hjk : j = k := by omega
      subst hjk
      simp only [prF, ha, Bool.false_eq_true, if_false]
      exact it_app_eq (by omega)
/-- PruningKeeps -/
theorem c10 (l : List Int) (i j h : Int) (hl : (l.length : Int) ≤ 9223372036854775807) : callL Try.prog 10 [.sl l.length (csInt l), .v (.int .i64 i), .v (.int .i64 j), .v (.int .i64 h)] = some (.v (.bool true)) := by
  rw [callL_eq Try.prog Try.func10 rfl ok10 _ (ext_none _ (by decide)) rfl]
  have g := (c30 l hl).2
  have k0 := k30 l hl
  generalize treeOf l = ns at g k0
  have g9 := g.len9
  have g0 := g.len0
  have hn : (ns.length : Int) < 1000000 := by omega
  have hr : (nd ns 0).up < 0 := by rw [g.up0]; omega
  have hne : ((ns.length : Int) = 0) = False := eq_false (by omega)
  obtain ⟨b1, b2⟩ := and_bound i 65535 (by decide)
  have hm := tmod_bound (n := (ns.length : Int)) b1 (by omega)
  obtain ⟨x, hx, x0, x1⟩ : ∃ x, (IntKind.i64.wrap ↑(BitVec.ofInt IntKind.i64.bits i &&& BitVec.ofInt IntKind.i64.bits 65535).toNat).tmod (ns.length : Int) = x ∧ 0 ≤ x ∧ x < ns.length := ⟨_, rfl, hm.1, hm.2⟩
  obtain ⟨c1, c2⟩ := and_bound j 65535 (by decide)
  have hm' := tmod_bound (n := (ns.length : Int)) c1 (by omega)
  obtain ⟨a, ha, a0, a1⟩ : ∃ y, (IntKind.i64.wrap ↑(BitVec.ofInt IntKind.i64.bits j &&& BitVec.ofInt IntKind.i64.bits 65535).toNat).tmod (ns.length : Int) = y ∧ 0 ≤ y ∧ y < ns.length := ⟨_, rfl, hm'.1, hm'.2⟩
  obtain ⟨d1, d2⟩ := and_bound h 65535 (by decide)
  have hm2 := tmod_bound (n := (ns.length : Int)) d1 (by omega)
  obtain ⟨b, hb, b0, b1'⟩ : ∃ z, (IntKind.i64.wrap ↑(BitVec.ofInt IntKind.i64.bits h &&& BitVec.ofInt IntKind.i64.bits 65535).toNat).tmod (ns.length : Int) = z ∧ 0 ≤ z ∧ z < ns.length := ⟨_, rfl, hm2.1, hm2.2⟩
  have hxx : anc ns x x = true := decide_eq_true (path_self g.up x0 x1)
  have hA := k31 ns g.up hr hn x ⟨x0, x1⟩
  simp only [prOk] at hA
  have hsl := prF_idx ns x ns.length
  have hsg := fun j h h' => prF_sign ns x ns.length j h h'
  have hat := fun a h => (pr_at g.up (i := x) (a := a) h)
  have hpos := fun (k : Nat) hk h => prF_pos (ns := ns) (i := x) (n := ns.length) (k := k) hk h
  have hupN := pr_upok g.up hxx
  have hV := valV_ok (pr_vld g.vld hxx)
  have hC := clsV_ok (pr_vld g.vld hxx) (pr_cld g.up g.cld hxx)
  have hNn := prF_nodes ns x ns.length
  have hanc := fun a b ha hb => pr_anc g.up hxx _ a b rfl ha hb
  have h46 := k46 ns g.up hn
  have hneg : ∀ k : Int, 0 ≤ k → k < ns.length → anc ns x k = false → it (prF ns x ns.length).2 k = -1 := fun k h0 h1 hk => prF_neg ns x ns.length k h0 h1 hk
  generalize hS : (prF ns x ns.length).2 = S at *
  generalize hN : (prF ns x ns.length).1 = N at *
  have hNl : (N.length : Int) < 1000000 := by omega
  have h49 := k49 N hNl
  have h50 := k50 N hNl
  rw [hV] at h49
  rw [hC] at h50
  have h46' := k46 N hupN hNl
  have hq : ((S.length : Int) != (ns.length : Int)) = false := by rw [hsl]; exact bne_self_eq_false _
  simp -implicitDefEqProofs only [ZZ, seval, k0, hne, hx, ha, hb, hA, hq, extA, h49, h50]
  refine use_loop (fun n st => ∃ k : Nat, (st.env 1 = .v (.int .i64 x) ∧ st.env 2 = .v (.int .i64 a) ∧ st.env 3 = .v (.int .i64 b) ∧ st.env 9 = .ptr 9 0 0 ∧ st.heap 9 0 = some (.cells (cTree ⟨ns⟩)) ∧ st.env 10 = .ptr 10 0 0 ∧ st.heap 10 0 = some (.cells (cTree ⟨N⟩)) ∧ st.env 11 = .sl S.length (csInt S) ∧ st.env 13 = .v (.int .i64 (prF ns x k).1.length) ∧ st.env 14 = .v (.int .i64 k)) ∧ k ≤ ns.length ∧ n = ns.length - k)
    (fun e st => e = .exit 0 ∧ st.env 1 = .v (.int .i64 x) ∧ st.env 2 = .v (.int .i64 a) ∧ st.env 3 = .v (.int .i64 b) ∧ st.env 9 = .ptr 9 0 0 ∧ st.heap 9 0 = some (.cells (cTree ⟨ns⟩)) ∧ st.env 10 = .ptr 10 0 0 ∧ st.heap 10 0 = some (.cells (cTree ⟨N⟩)) ∧ st.env 11 = .sl S.length (csInt S) ∧ st.env 13 = .v (.int .i64 N.length)) ns.length ?step ?start ?rest
  case step =>
    rintro n st ⟨k, hI, hk, hn'⟩
    have hpn := prF_nodes ns x k
    by_cases hlt : k < ns.length
    · have hlS : (k : Int) < S.length := by omega
      have hlN : (k : Int) < ns.length := by omega
      have q0 : (0 : Int) ≤ k := by omega
      have hw : IntKind.i64.wrap ((k : Int) + 1) = ((k + 1 : Nat) : Int) := by rw [w64 _ (by omega) (by omega)]; omega
      cases hak : anc ns x k
      · have hv : (it S k != -1) = false := by rw [hneg k q0 hlN hak]; rfl
        have hs : (prF ns x (k + 1)).1.length = (prF ns x k).1.length := by simp only [prF, hak, Bool.false_eq_true, if_false]
        refine go_on (st' := ?s1) ?h1 (ns.length - (k + 1)) (by omega) ?q1
        case h1 =>
          simp -implicitDefEqProofs only [ZZ, seval, hI, hlS, q0, h46, hak, hv, hw]
          rfl
        case q1 => exact ⟨k + 1, by rw [hs]; simp only [EV, seval, hI], by omega, rfl⟩
      · obtain ⟨p1, p2, p3⟩ := hat k hak
        have hp := hpos k hlt hak
        have hv : (it S k != ((prF ns x k).1.length : Int)) = false := by rw [hp]; exact bne_self_eq_false _
        have hs : (prF ns x (k + 1)).1.length = (prF ns x k).1.length + 1 := by simp only [prF, hak, if_true, List.length_append, List.length_cons, List.length_nil]
        have hge : (N.length ≤ ((prF ns x k).1.length : Int)) = False := eq_false (by omega)
        have hlt2 : ((prF ns x k).1.length : Int) < N.length := by omega
        have r0 : (0 : Int) ≤ ((prF ns x k).1.length : Int) := by omega
        have hblk : decide ((nd N ((prF ns x k).1.length : Int)).block = (nd ns k).block) = true := by rw [← hp, p3]; simp
        have hsta : ((nd N ((prF ns x k).1.length : Int)).status != (nd ns k).status) = false := by rw [← hp, p3]; simp
        have hw2 : IntKind.i64.wrap (((prF ns x k).1.length : Int) + 1) = (((prF ns x k).1.length + 1 : Nat) : Int) := by rw [w64 _ (by omega) (by omega)]; omega
        refine go_on (st' := ?s2) ?h2 (ns.length - (k + 1)) (by omega) ?q2
        case h2 =>
          simp -implicitDefEqProofs only [ZZ, seval, hI, hlS, hlN, q0, h46, hak, hv, hw, hge, hlt2, r0, hblk, hsta, hw2]
          rfl
        case q2 => exact ⟨k + 1, by rw [hs]; simp only [EV, seval, hI], by omega, rfl⟩
    · obtain rfl : k = ns.length := by omega
      have hlS : ¬ (ns.length : Int) < S.length := by omega
      refine go_out (e := .exit 0) (st' := ?s3) ?h3 (by simp) ?q3
      case h3 =>
        simp -implicitDefEqProofs only [ZZ, seval, hI, hlS]
        rfl
      case q3 => exact ⟨rfl, by simp only [EV, seval, hI]; rw [hN]⟩
  case start => exact ⟨0, by simp only [EV, seval]; rfl, by omega, by omega⟩
  case rest =>
    rintro e st ⟨rfl, hI⟩
    have sa := hsg a a0 a1
    have sb := hsg b b0 b1'
    have la : a < S.length := by omega
    have lb : b < S.length := by omega
    have hnn : ((N.length : Int) != (N.length : Int)) = false := bne_self_eq_false _
    cases haa : anc ns x a
    · have fa : (0 ≤ it S a) = False := by rw [sa, haa]; simp
      simp -implicitDefEqProofs only [ZZ, seval, hI, hnn, a0, la, fa, k35]
      exact endL_tmp (keep_none (by decide)) (.inl rfl) rfl (by simp only [EV, seval] <;> rfl) (.v _)
    · have fa : (0 ≤ it S a) = True := by rw [sa, haa]; simp
      cases hbb : anc ns x b
      · have fb : (0 ≤ it S b) = False := by rw [sb, hbb]; simp
        simp -implicitDefEqProofs only [ZZ, seval, hI, hnn, a0, la, fa, b0, lb, fb, k35]
        exact endL_tmp (keep_none (by decide)) (.inl rfl) rfl (by simp only [EV, seval] <;> rfl) (.v _)
      · have fb : (0 ≤ it S b) = True := by rw [sb, hbb]; simp
        have he := hanc a b haa hbb
        simp -implicitDefEqProofs only [ZZ, seval, hI, hnn, a0, la, fa, b0, lb, fb, k35, h46, h46', he, beq_self_eq_true]
        exact endL_tmp (keep_none (by decide)) (.inl rfl) rfl (by simp only [EV, seval] <;> rfl) (.v _)
end Go.Ab.Try
