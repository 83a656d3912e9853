/-
  Part W3 of the proof: what functions of this program compute.
-/
import Derived.Test.YtgpkmepalmdmeaaW2
set_option linter.all false
set_option linter.unusedSimpArgs false
set_option linter.unusedVariables false
set_option maxRecDepth 20000
set_option maxHeartbeats 4000000
namespace Go.Ab.Try
open Classical Go.Proofs Go.Ab
theorem q38 (args : List AV) (st : St) (d : Option Nat) : callFn (callL Try.prog) 38 args st d = callQ (callL Try.prog) 38 (optAll (args.map (expo st))) (decide (∀ x ∈ args, Flat x)) st d := callFn_Q _ _ _ _ _
/-- PruningWeights -/
theorem c5 (l m : List Int) (i : Int) (hl : (l.length : Int) ≤ 9223372036854775807) (hml : (m.length : Int) ≤ 9223372036854775807) : callL Try.prog 5 [.sl l.length (csInt l), .sl m.length (csInt m), .v (.int .i64 i)] = some (.v (.bool true)) := by
  rw [callL_eq Try.prog Try.func5 rfl ok5 _ (ext_none _ (by decide)) rfl]
  have g := (c30 l hl).2
  have k0 := k30 l hl
  generalize treeOf l = ns at g k0
  have g9 := g.len9
  have g0 := g.len0
  have hn : (ns.length : Int) < 1000000 := by omega
  have hr : (nd ns 0).up < 0 := by rw [g.up0]; omega
  have hne : ((ns.length : Int) = 0) = False := eq_false (by omega)
  obtain ⟨b1, b2⟩ := and_bound i 65535 (by decide)
  have hm := tmod_bound (n := (ns.length : Int)) b1 (by omega)
  obtain ⟨x, hx, x0, x1⟩ : ∃ x, (IntKind.i64.wrap ↑(BitVec.ofInt IntKind.i64.bits i &&& BitVec.ofInt IntKind.i64.bits 65535).toNat).tmod (ns.length : Int) = x ∧ 0 ≤ x ∧ x < ns.length := ⟨_, rfl, hm.1, hm.2⟩
  have hxx : anc ns x x = true := decide_eq_true (path_self g.up x0 x1)
  obtain ⟨y, hy, d, hd', rfl⟩ := c37 m hml ns.length (by omega) (by omega)
  have hd : d.length = ns.length := by rw [hd']; omega
  have hA := k31 ns g.up hr hn x ⟨x0, x1⟩
  simp only [prOk] at hA
  have hsl := prF_idx ns x ns.length
  have hsg := fun j h h' => prF_sign ns x ns.length j h h'
  have hat := fun a h => (pr_at g.up (i := x) (a := a) h)
  have hupN := pr_upok g.up hxx
  have hKl := kpt_len ns x d ns.length
  have hN0 : 0 < (prF ns x ns.length).1.length := by have := hat x hxx; omega
  have hNn := prF_nodes ns x ns.length
  have hXY := sub_prune g.up hxx ns.length (Nat.le_refl _) d hd
  have hX := subF_len ns ns.length d
  have hY := subF_len (prF ns x ns.length).1 (prF ns x ns.length).1.length (kpt ns x ns.length d)
  have h38 := c38 ns g.up hn g0 d hd
  have h38' := c38 (prF ns x ns.length).1 hupN (by omega) hN0 (kpt ns x ns.length d) hKl
  have h37 := fun (st : St) (d' : Nat) => call_uniq (st := st) (d := d') (flat2 (flatSl m) (.v (.int .i64 (ns.length : Int)))) hy
  have hNK : ((ns.length : Nat) : Int) = ns.length := rfl
  generalize hS : (prF ns x ns.length).2 = S at *
  generalize hN : (prF ns x ns.length).1 = N at *
  generalize subF ns ns.length d = X at *
  generalize hKe : kpt ns x ns.length d = K at *
  generalize subF N N.length K = Y at *
  have hq : ((S.length : Int) != (ns.length : Int)) = false := by rw [hsl]; exact bne_self_eq_false _
  have k38 := fun (fl : Bool) (st : St) (d' : Nat) => Q_uniq (fl := fl) (st := st) (d := d') h38 (mem_csU64 _)
  have k38' := fun (fl : Bool) (st : St) (d' : Nat) => Q_uniq (fl := fl) (st := st) (d := d') h38' (mem_csU64 _)
  simp -implicitDefEqProofs only [ZZ, seval, k0, hne, hx, h37, hA, hq, extA]
  refine use_loop (fun n st => ∃ k : Nat, (st.env 7 = .ptr 7 0 0 ∧ st.heap 7 0 = some (.cells (cTree ⟨ns⟩)) ∧ st.env 8 = .own 23 0 ∧ st.heap 23 0 = some (.row 38 1 d.length (csU64 d)) ∧ st.env 9 = .ptr 9 0 0 ∧ st.heap 9 0 = some (.cells (cTree ⟨N⟩)) ∧ st.env 10 = .sl S.length (csInt S) ∧ st.env 13 = .v (.int .i64 k)) ∧
      ((kpt ns x k d = [] ∧ st.env 12 = .v (.slice none 0 0)) ∨ ∃ g, st.env 12 = .own 63 g ∧ g < st.cnt 63 ∧ st.heap 63 g = some (.row 38 1 (kpt ns x k d).length (csU64 (kpt ns x k d)))) ∧ k ≤ ns.length ∧ n = ns.length - k)
    (fun e st => e = .exit 0 ∧ ∃ g, st.env 7 = .ptr 7 0 0 ∧ st.heap 7 0 = some (.cells (cTree ⟨ns⟩)) ∧ st.env 8 = .own 23 0 ∧ st.heap 23 0 = some (.row 38 1 d.length (csU64 d)) ∧ st.env 9 = .ptr 9 0 0 ∧ st.heap 9 0 = some (.cells (cTree ⟨N⟩)) ∧ st.env 10 = .sl S.length (csInt S) ∧ st.env 12 = .own 63 g ∧ st.heap 63 g = some (.row 38 1 K.length (csU64 K))) ns.length ?step ?start ?rest
  case step =>
    rintro n st ⟨k, hI, h12, hk, hn'⟩
    have hkl : (kpt ns x k d).length ≤ k := by rw [kpt_len]; exact prF_nodes ns x k
    have hkl' : ((kpt ns x k d).length : Int) < 1000000 := by omega
    by_cases hlt : k < ns.length
    · have hlS : (k : Int) < S.length := by omega
      have hld : (k : Int) < d.length := by omega
      have q0 : (0 : Int) ≤ k := by omega
      have hw : IntKind.i64.wrap ((k : Int) + 1) = ((k + 1 : Nat) : Int) := by rw [w64 _ (by omega) (by omega)]; omega
      have hg : ∀ j : Int, 0 ≤ j → j < d.length → (csU64 d)[j.toNat]? = some (.v (.int .u64 (it d j))) := fun j => get_csU64
      cases ha : anc ns x k
      · have hge : (0 ≤ it S k) = False := by rw [hsg k q0 (by omega), ha]; simp
        have hs : kpt ns x (k + 1) d = kpt ns x k d := by simp only [kpt, ha, Bool.false_eq_true, if_false]
        refine go_on (st' := ?s1) ?h1 (ns.length - (k + 1)) (by omega) ?q1
        case h1 =>
          simp -implicitDefEqProofs only [ZZ, seval, hI, hlS, hld, q0, hw, hge]
          rfl
        case q1 => exact ⟨k + 1, by simp only [EV, seval, hI], by rw [hs]; simpa only [EV, seval] using h12, by omega, rfl⟩
      · have hge : (0 ≤ it S k) = True := by rw [hsg k q0 (by omega), ha]; simp
        have hs : kpt ns x (k + 1) d = kpt ns x k d ++ [it d k] := by simp only [kpt, ha, if_true]
        rcases h12 with ⟨h12, h5⟩ | ⟨g, h5⟩
        · rw [h12] at hs
          refine go_on (st' := ?s2) ?h2 (ns.length - (k + 1)) (by omega) ?q2
          case h2 =>
            simp -implicitDefEqProofs only [ZZ, seval, hI, h5, hlS, hld, q0, hw, hge, hg, an_u1]
            rfl
          case q2 => exact ⟨k + 1, by simp only [EV, seval, hI], .inr ⟨_, by simp only [EV, seval] <;> rfl, (by simp only [EV, seval] <;> omega), (by rw [hs]; simp only [EV, seval] <;> rfl)⟩, by omega, rfl⟩
        · refine go_on (st' := ?s3) ?h3 (ns.length - (k + 1)) (by omega) ?q3
          case h3 =>
            simp -implicitDefEqProofs only [ZZ, seval, hI, h5, hlS, hld, q0, hw, hge, hg, ao_u1, hkl']
            rfl
          case q3 => exact ⟨k + 1, by simp only [EV, seval, hI], .inr ⟨_, by simp only [EV, seval] <;> rfl, (by simp only [EV, seval] <;> omega), (by rw [hs]; simp only [EV, seval] <;> rfl)⟩, by omega, rfl⟩
    · obtain rfl : k = ns.length := by omega
      have hlS : ¬ (ns.length : Int) < S.length := by omega
      rw [hKe] at h12
      rcases h12 with ⟨h12, h5⟩ | ⟨g, h5⟩
      · rw [h12] at hKl; simp at hKl; omega
      · refine go_out (e := .exit 0) (st' := ?s4) ?h4 (by simp) ?q4
        case h4 =>
          simp -implicitDefEqProofs only [ZZ, seval, hI, hlS]
          rfl
        case q4 => exact ⟨rfl, g, by simp only [EV, seval, hI, h5]⟩
  case start => exact ⟨0, by simp only [EV, seval], .inl ⟨rfl, (by simp only [EV, seval])⟩, by omega, by omega⟩
  case rest =>
    rintro e st ⟨rfl, g, hI⟩
    have q1 : ((K.length : Int) != (N.length : Int)) = false := by rw [hKl]; exact bne_self_eq_false _
    have q2 : ((X.length : Int) != (ns.length : Int)) = false := by rw [hX, hd]; exact bne_self_eq_false _
    have q3 : ((Y.length : Int) != (N.length : Int)) = false := by rw [hY, hKl]; exact bne_self_eq_false _
    simp -implicitDefEqProofs only [ZZ, seval, hI, q1, q2, q3, q38, k38, k38']
    refine use_loop (fun n st => ∃ (a b k : Nat), (st.env 14 = .own 72 a ∧ st.heap 72 a = some (.row 38 1 X.length (csU64 X)) ∧ st.env 15 = .own 75 b ∧ st.heap 75 b = some (.row 38 1 Y.length (csU64 Y)) ∧ st.env 10 = .sl S.length (csInt S) ∧ st.env 16 = .v (.int .i64 k)) ∧ k ≤ ns.length ∧ n = ns.length - k)
      (fun e st => e = .exit 2) ns.length ?step ?start ?rest
    case step =>
      rintro n st ⟨a, b, k, hI, hk, hn'⟩
      by_cases hlt : k < ns.length
      · have hlS : (k : Int) < S.length := by omega
        have hlX : (k : Int) < X.length := by omega
        have q0 : (0 : Int) ≤ k := by omega
        have hw : IntKind.i64.wrap ((k : Int) + 1) = ((k + 1 : Nat) : Int) := by rw [w64 _ (by omega) (by omega)]; omega
        have hgX : ∀ j : Int, 0 ≤ j → j < X.length → (csU64 X)[j.toNat]? = some (.v (.int .u64 (it X j))) := fun j => get_csU64
        have hgY : ∀ j : Int, 0 ≤ j → j < Y.length → (csU64 Y)[j.toNat]? = some (.v (.int .u64 (it Y j))) := fun j => get_csU64
        cases ha : anc ns x k
        · have hge : (0 ≤ it S k) = False := by rw [hsg k q0 (by omega), ha]; simp
          refine go_on (st' := ?s5) ?h5 (ns.length - (k + 1)) (by omega) ?q5
          case h5 =>
            simp -implicitDefEqProofs only [ZZ, seval, hI, hlS, q0, hw, hge]
            rfl
          case q5 => exact ⟨a, b, k + 1, by simp only [EV, seval, hI], by omega, rfl⟩
        · have hge : (0 ≤ it S k) = True := by rw [hsg k q0 (by omega), ha]; simp
          obtain ⟨p1, p2, _⟩ := hat k ha
          have hlY : it S k < Y.length := by omega
          have hnY : (Y.length ≤ it S k) = False := eq_false (by omega)
          have hv : (it Y (it S k) != it X k) = false := by rw [hXY k q0 (by omega) ha hupN]; exact bne_self_eq_false _
          refine go_on (st' := ?s6) ?h6 (ns.length - (k + 1)) (by omega) ?q6
          case h6 =>
            simp -implicitDefEqProofs only [ZZ, seval, hI, hlS, hlX, hlY, hnY, p1, q0, hw, hge, hgX, hgY, hv]
            rfl
          case q6 => exact ⟨a, b, k + 1, by simp only [EV, seval, hI], by omega, rfl⟩
      · obtain rfl : k = ns.length := by omega
        have hlS : ¬ (ns.length : Int) < S.length := by omega
        refine go_out (e := .exit 2) (st' := ?s7) ?h7 (by simp) ?q7
        case h7 =>
          simp -implicitDefEqProofs only [ZZ, seval, hI, hlS]
          rfl
        case q7 => rfl
    case start => exact ⟨st.cnt 72, st.cnt 75, 0, by simp only [EV, seval, hI], by omega, by omega⟩
    case rest =>
      rintro e st rfl
      simp -implicitDefEqProofs only [ZZ, seval, k35]
      exact endL_tmp (keep_none (by decide)) (.inl rfl) rfl (by simp only [EV, seval] <;> rfl) (.v _)
end Go.Ab.Try
