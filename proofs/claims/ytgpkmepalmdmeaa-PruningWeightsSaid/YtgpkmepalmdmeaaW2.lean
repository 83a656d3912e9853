/-
  Part W2 of the proof: what functions of this program compute.
-/
import Derived.Test.YtgpkmepalmdmeaaW1
import Derived.Test.YtgpkmepalmdmeaaK5
import Derived.Test.YtgpkmepalmdmeaaK9
set_option linter.all false
set_option linter.unusedSimpArgs false
set_option linter.unusedVariables false
set_option maxRecDepth 20000
set_option maxHeartbeats 4000000
namespace Go.Ab.Try
open Classical Go.Proofs Go.Ab
/-- slices.Clone of numbers -/
theorem c87 (l : List Int) (h0 : 0 < l.length) (hn : (l.length : Int) < 1000000) : callL Try.prog 87 [.sl l.length (csU64 l)] = some (.uniq 38 1 l.length (csU64 l)) := by
  rw [callL_eq Try.prog Try.func87 rfl ok87 _ (ext_none _ (by decide)) rfl]
  have hne := nil_csU64 h0
  have ha := fun s g => ao_zero (e := 38) (sz := 1) (by_ := 8) (s := s) (g := g) (n := l.length) (cs := csU64 l) (by simp) (by omega) (by unfold maxLen; omega)
  simp -implicitDefEqProofs only [ZZ, seval, hne, ha]
  exact endL_row (keep_none (by decide)) (.inl rfl) rfl (by simp only [EV, seval]; rfl) (by simp only [EV, seval]) (flat_csU64 _)
theorem k87 (l : List Int) (h0 : 0 < l.length) (hn : (l.length : Int) < 1000000) (st : St) (d : Nat) : callFn (callL Try.prog) 87 [.sl l.length (csU64 l)] st (some d) = some { dst := some d, val := .own d (st.cnt d), new := some (d, [.row 38 1 l.length (csU64 l)]) } := call_uniq (flat1 (flatSlU _)) (c87 l h0 hn)
noncomputable def numV (l : List Int) (k : Int) : Int := if (((bAt l k).fdiv (2 ^ min 8 IntKind.i64.bits)).tmod 11 == 0) = true then 72057594037927936 else IntKind.u64.wrap (IntKind.i64.wrap ↑(BitVec.ofInt IntKind.i64.bits (bAt l k) &&& BitVec.ofInt IntKind.i64.bits 255).toNat)
/-- base.Numbers -/
theorem c37 (l : List Int) (hl : (l.length : Int) ≤ 9223372036854775807) (n : Int) (n0 : 0 < n) (n1 : n < 1000) : ∃ x, callL Try.prog 37 [.sl l.length (csInt l), .v (.int .i64 n)] = some x ∧ ∃ o : List Int, o.length = n.toNat ∧ x = .uniq 38 1 o.length (csU64 o) := by
  rw [callL_eq Try.prog Try.func37 rfl ok37 _ (ext_none _ (by decide)) rfl]
  have kA := fun (i : Int) (i0 : 0 ≤ i) (i1 : i < 1000000) => k85 l hl i i0 i1
  simp -implicitDefEqProofs only [ZZ, seval]
  refine use_loopX (fun m st => ∃ (k : Int) (o : List Int), (st.env 0 = .sl l.length (csInt l) ∧ st.env 1 = .v (.int .i64 n) ∧ st.env 6 = .v (.int .i64 k)) ∧ ((o = [] ∧ st.env 5 = .v (.slice none 0 0)) ∨ ∃ g, st.env 5 = .own 27 g ∧ g < st.cnt 27 ∧ st.heap 27 g = some (.row 38 1 o.length (csU64 o))) ∧ 0 ≤ k ∧ k ≤ n ∧ o.length = k.toNat ∧ m = (n - k).toNat)
    (fun e st => e = .exit 0 ∧ ∃ (o : List Int), o.length = n.toNat ∧ ∃ g, st.env 5 = .own 27 g ∧ st.heap 27 g = some (.row 38 1 o.length (csU64 o))) n.toNat ?step ?start ?rest
  case step =>
    rintro m st ⟨k, o, hI, h5, k0, k1, ho, hm⟩
    have hol : (o.length : Int) < 1000000 := by omega
    by_cases hlt : k < n
    · have hw : IntKind.i64.wrap (k + 1) = k + 1 := w64 _ (by omega) (by omega)
      have hK := kA k k0 (by omega)
      cases hc : (((bAt l k).fdiv (2 ^ min 8 IntKind.i64.bits)).tmod 11 == 0)
      all_goals
        have hv : numV l k = numV l k := rfl
        conv at hv => rhs; unfold numV; rw [hc]
        simp only [Bool.false_eq_true, if_false, if_true] at hv
        rcases h5 with ⟨hy, h5⟩ | ⟨g, h5⟩
        · subst hy
          refine go_on (st' := ?_) ?_ ((n - (k + 1)).toNat) (by omega) ?_
          rotate_left
          · simp -implicitDefEqProofs only [ZZ, seval, hI, h5, hlt, hw, hK, hc, an_u1]
            rfl
          · exact ⟨k + 1, [numV l k], by simp only [EV, seval, hI], .inr ⟨_, by simp only [EV, seval] <;> rfl, (by simp only [EV, seval] <;> omega), (by rw [hv]; simp only [EV, seval] <;> rfl)⟩, by omega, by omega, by simp at ho ⊢; omega, rfl⟩
        · refine go_on (st' := ?_) ?_ ((n - (k + 1)).toNat) (by omega) ?_
          rotate_left
          · simp -implicitDefEqProofs only [ZZ, seval, hI, h5, hlt, hw, hK, hc, ao_u1, hol]
            rfl
          · exact ⟨k + 1, o ++ [numV l k], by simp only [EV, seval, hI], .inr ⟨_, by simp only [EV, seval] <;> rfl, (by simp only [EV, seval] <;> omega), (by rw [hv]; simp only [EV, seval] <;> rfl)⟩, by omega, by omega, by simp; omega, rfl⟩
    · obtain rfl : k = n := by omega
      rcases h5 with ⟨hy, h5⟩ | ⟨g, h5⟩
      · subst hy; simp at ho; omega
      · refine go_out (e := .exit 0) (st' := ?s1) ?h1 (by simp) ?q1
        case h1 =>
          simp -implicitDefEqProofs only [ZZ, seval, hI, hlt]
          rfl
        case q1 => exact ⟨rfl, o, ho, g, by simp only [EV, seval, h5], by simp only [EV, seval, h5]⟩
  case start => exact ⟨0, [], (by simp only [EV, seval]), .inl ⟨rfl, (by simp only [EV, seval])⟩, by omega, by omega, rfl, by omega⟩
  case rest =>
    rintro e st ⟨rfl, o, ho, g, h5, hh5⟩
    refine ⟨_, ?_, o, ho, rfl⟩
    simp -implicitDefEqProofs only [ZZ, seval, h5, hh5]
    exact endL_row (keep_none (by decide)) (.inl rfl) rfl (by simp only [EV, seval]; rfl) (by simp only [EV, seval, hh5]) (flat_csU64 _)
/-- weights.Subtree -/
theorem c38 (ns : List Node) (hu : UpOk ns) (hn : (ns.length : Int) < 1000000) (h0 : 0 < ns.length) (d : List Int) (hd : d.length = ns.length) : callL Try.prog 38 [.agg (cTree ⟨ns⟩), .sl d.length (csU64 d)] = some (.uniq 38 1 (subF ns ns.length d).length (csU64 (subF ns ns.length d))) := by
  rw [callL_eq Try.prog Try.func38 rfl ok38 _ (ext_none _ (by decide)) rfl]
  have hK := k87 d (by omega) (by omega)
  have hw0 : IntKind.i64.wrap ((ns.length : Int) - 1) = ns.length - 1 := w64 _ (by omega) (by omega)
  simp -implicitDefEqProofs only [ZZ, seval, hK, hw0]
  refine use_loop (fun m st => ∃ (c : Nat) (o : List Int), (st.env 2 = .ptr 2 0 0 ∧ st.heap 2 0 = some (.cells (cTree ⟨ns⟩)) ∧ st.env 5 = .own 8 0 ∧ st.heap 8 0 = some (.row 38 1 o.length (csU64 o)) ∧ st.env 6 = .v (.int .i64 c)) ∧ c < ns.length ∧ o.length = ns.length ∧ subF ns (c + 1) o = subF ns ns.length d ∧ m = c)
    (fun e st => e = .exit 0 ∧ st.env 5 = .own 8 0 ∧ st.heap 8 0 = some (.row 38 1 (subF ns ns.length d).length (csU64 (subF ns ns.length d)))) (ns.length - 1) ?step ?start ?rest
  case step =>
    rintro m st ⟨c, o, hI, c1, ho, hs, hm⟩
    by_cases hc : (0 : Int) < c
    · obtain ⟨c, rfl⟩ : ∃ c', c = c' + 1 := ⟨c - 1, by omega⟩
      obtain ⟨u0, u1⟩ := hu ((c + 1 : Nat) : Int) (by omega) (by omega)
      have hw : IntKind.i64.wrap (((c + 1 : Nat) : Int) - 1) = (c : Int) := by rw [w64 _ (by omega) (by omega)]; omega
      have q0 : (0 : Int) ≤ ((c + 1 : Nat) : Int) := by omega
      have q1 : ((c + 1 : Nat) : Int) < ns.length := by omega
      have q2 : ((c + 1 : Nat) : Int) < o.length := by omega
      have u2 : (nd ns ((c + 1 : Nat) : Int)).up < o.length := by omega
      have hup := fun x => up_csU o (nd ns ((c + 1 : Nat) : Int)).up x (by omega)
      have hg : ∀ j : Int, 0 ≤ j → j < o.length → (csU64 o)[j.toNat]? = some (.v (.int .u64 (it o j))) := fun j => get_csU64
      have hle : (nd ns ((c + 1 : Nat) : Int)).up.toNat + 1 ≤ o.length := by omega
      refine go_on (st' := ?s2) ?h2 (c) (by omega) ?q2
      case h2 =>
        simp -implicitDefEqProofs only [ZZ, seval, hI, hc, hw, q0, q1, q2, u0, u2, hup, hg, hle]
        rfl
      case q2 => exact ⟨c, o.set (nd ns ((c + 1 : Nat) : Int)).up.toNat (IntKind.u64.wrap (it o (nd ns ((c + 1 : Nat) : Int)).up + it o ((c + 1 : Nat) : Int))), ⟨by simp only [EV, seval, hI], by simp only [EV, seval, hI], by simp only [EV, seval, hI], by simp only [EV, seval, hI, List.length_set] <;> rfl, by simp only [EV, seval, hI]⟩, by omega, by simpa using ho, hs, rfl⟩
    · obtain rfl : c = 0 := by omega
      refine go_out (e := .exit 0) (st' := ?s3) ?h3 (by simp) ?q3
      case h3 =>
        simp -implicitDefEqProofs only [ZZ, seval, hI, hc]
        rfl
      case q3 => exact ⟨rfl, by simp only [EV, seval, hI], by rw [← hs]; simp only [EV, seval, hI, subF]⟩
  case start => exact ⟨ns.length - 1, d, ⟨(by simp only [EV, seval]), (by simp only [EV, seval]), (by simp only [EV, seval]), by simp only [EV, seval], by simp only [EV, seval]; congr 3; omega⟩, by omega, hd, by rw [show ns.length - 1 + 1 = ns.length by omega], rfl⟩
  case rest =>
    rintro e st ⟨rfl, h5, hh5⟩
    simp -implicitDefEqProofs only [ZZ, seval, h5, hh5]
    exact endL_row (keep_none (by decide)) (.inl rfl) rfl (by simp only [EV, seval]; rfl) (by simp only [EV, seval, hh5]) (flat_csU64 _)
end Go.Ab.Try
