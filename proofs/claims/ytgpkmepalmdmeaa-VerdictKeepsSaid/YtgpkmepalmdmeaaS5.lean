/-
  Part S5 of the proof: what functions of this program compute.
-/
import Derived.Test.YtgpkmepalmdmeaaS4
import Derived.Test.YtgpkmepalmdmeaaL6
set_option linter.all false
set_option linter.unusedSimpArgs false
set_option linter.unusedVariables false
set_option maxRecDepth 20000
set_option maxHeartbeats 4000000
namespace Go.Ab.Try
open Classical Go.Proofs Go.Ab
theorem raV_cases (ns : List Node) (hn : (ns.length : Int) < 1000000) (i : Int) : (∃ e, raV ns i = .tup [.agg [.v (.slice none 0 0)], .v (.int .i64 e)]) ∨ ∃ r : List Node, raV ns i = .tup [.agg (cTree ⟨r⟩), .v (.int .i64 0)] ∧ (r.length : Int) < 1000000 := by
  unfold raV
  split
  · cases h : raO ns i with
    | none => exact .inl ⟨21, rfl⟩
    | some r => exact .inr ⟨r, rfl, by rw [chg_len _ _ _ h]; exact hn⟩
  · exact .inl ⟨10, rfl⟩
theorem coV_cases (ns : List Node) (hn : (ns.length : Int) < 1000000) (i : Int) : (∃ e, coV ns i = .tup [.agg [.v (.slice none 0 0)], .v (.int .i64 e)]) ∨ ∃ r : List Node, coV ns i = .tup [.agg (cTree ⟨r⟩), .v (.int .i64 0)] ∧ (r.length : Int) < 1000000 := by
  unfold coV
  split
  · cases h : coO ns i with
    | none => exact .inl ⟨21, rfl⟩
    | some r => exact .inr ⟨r, rfl, by rw [chg_len _ _ _ h]; exact hn⟩
  · exact .inl ⟨10, rfl⟩
/-- changes -/
theorem c69 (ns : List Node) (hu : UpOk ns) (hr : (nd ns 0).up = -1) (hn : (ns.length : Int) < 1000000) (i : Int) : callL Try.prog 69 [.agg (cTree ⟨ns⟩), .v (.int .i64 i)] = some (.v (.bool true)) := by
  rw [callL_eq Try.prog Try.func69 rfl ok69 _ (ext_none _ (by decide)) rfl]
  have h70 := k70 ns hu hr hn i
  have h96 := k96 ns hu hn i
  have h71 := k71 ns hu hr hn i
  have h97 := k97 ns hu hn i
  rcases raV_cases ns hn i with ⟨e, ha⟩ | ⟨r, ha, hrl⟩ <;> rcases coV_cases ns hn i with ⟨e', hb⟩ | ⟨r', hb, hrl'⟩
  · rw [ha] at h70 h96; rw [hb] at h71 h97
    simp -implicitDefEqProofs only [ZZ, seval, h70, h96, h71, h97, extA, k33nn, beq_self_eq_true]
    exact endL_tmp (keep_none (by decide)) (.inl rfl) rfl (by simp only [EV, seval] <;> rfl) (.v _)
  · rw [ha] at h70 h96; rw [hb] at h71 h97
    have h33 := k33t r' r' hrl'
    simp -implicitDefEqProofs only [ZZ, seval, h70, h96, h71, h97, extA, k33nn, h33, beq_self_eq_true, decide_true, eq_self]
    exact endL_tmp (keep_none (by decide)) (.inl rfl) rfl (by simp only [EV, seval] <;> rfl) (.v _)
  · rw [ha] at h70 h96; rw [hb] at h71 h97
    have h33 := k33t r r hrl
    simp -implicitDefEqProofs only [ZZ, seval, h70, h96, h71, h97, extA, k33nn, h33, beq_self_eq_true, decide_true, eq_self]
    exact endL_tmp (keep_none (by decide)) (.inl rfl) rfl (by simp only [EV, seval] <;> rfl) (.v _)
  · rw [ha] at h70 h96; rw [hb] at h71 h97
    have h33 := k33t r r hrl
    have h33' := k33t r' r' hrl'
    simp -implicitDefEqProofs only [ZZ, seval, h70, h96, h71, h97, extA, h33, h33', beq_self_eq_true, decide_true, eq_self]
    exact endL_tmp (keep_none (by decide)) (.inl rfl) rfl (by simp only [EV, seval] <;> rfl) (.v _)
theorem k69 (ns : List Node) (hu : UpOk ns) (hr : (nd ns 0).up = -1) (hn : (ns.length : Int) < 1000000) (i : Int) (st : St) (d : Option Nat) : callFn (callL Try.prog) 69 [.agg (cTree ⟨ns⟩), .v (.int .i64 i)] st d = some { dst := d, val := .v (.bool true) } := call_flat (flat2 (flatT _) (.v _)) (c69 ns hu hr hn i) (.v _)
/-- StatusChanges -/
theorem c21 (l : List Int) (i : Int) (hl : (l.length : Int) ≤ 9223372036854775807) : callL Try.prog 21 [.sl l.length (csInt l), .v (.int .i64 i)] = some (.v (.bool true)) := by
  rw [callL_eq Try.prog Try.func21 rfl ok21 _ (ext_none _ (by decide)) rfl]
  have g := (c30 l hl).2
  have k0 := k30 l hl
  generalize treeOf l = ns at g k0
  have g9 := g.len9
  have hn : (ns.length : Int) < 1000000 := by omega
  have h69 := k69 ns g.up g.up0 hn
  simp -implicitDefEqProofs only [ZZ, seval, k0]
  refine use_loop (fun n st => ∃ k : Int, (st.env 1 = .v (.int .i64 i) ∧ st.env 5 = .ptr 5 0 0 ∧ st.heap 5 0 = some (.cells (cTree ⟨ns⟩)) ∧ st.env 6 = .v (.int .i64 k)) ∧ -1 ≤ k ∧ k ≤ ns.length + 1 ∧ n = (ns.length + 1 - k).toNat)
    (fun e st => e = .exit 0 ∧ st.env 1 = .v (.int .i64 i) ∧ st.env 5 = .ptr 5 0 0 ∧ st.heap 5 0 = some (.cells (cTree ⟨ns⟩))) (ns.length + 2) ?step ?start ?rest
  case step =>
    rintro n st ⟨k, hI, q0, q1, hn'⟩
    by_cases hlt : k ≤ ns.length
    · have hw : IntKind.i64.wrap (k + 1) = k + 1 := w64 _ (by omega) (by omega)
      refine go_on (st' := ?s1) ?h1 ((ns.length + 1 - (k + 1)).toNat) (by omega) ?q1
      case h1 =>
        simp -implicitDefEqProofs only [ZZ, seval, hI, hlt, hw, h69]
        rfl
      case q1 => exact ⟨k + 1, by simp only [EV, seval, hI], by omega, by omega, rfl⟩
    · refine go_out (e := .exit 0) (st' := ?s2) ?h2 (by simp) ?q2
      case h2 =>
        simp -implicitDefEqProofs only [ZZ, seval, hI, hlt]
        rfl
      case q2 => exact ⟨rfl, by simp only [EV, seval, hI]⟩
  case start => exact ⟨-1, by simp only [EV, seval], by omega, by omega, by omega⟩
  case rest =>
    rintro e st ⟨rfl, hI⟩
    simp -implicitDefEqProofs only [ZZ, seval, hI, h69, k68]
    exact endL_tmp (keep_none (by decide)) (.inl rfl) rfl (by simp only [EV, seval] <;> rfl) (.v _)
theorem q50 (args : List AV) (st : St) (d : Option Nat) : callFn (callL Try.prog) 50 args st d = callQ (callL Try.prog) 50 (optAll (args.map (expo st))) (decide (∀ x ∈ args, Flat x)) st d := callFn_Q _ _ _ _ _
theorem q67 (args : List AV) (st : St) (d : Option Nat) : callFn (callL Try.prog) 67 args st d = callQ (callL Try.prog) 67 (optAll (args.map (expo st))) (decide (∀ x ∈ args, Flat x)) st d := callFn_Q _ _ _ _ _
/-- StatusValid -/
theorem c19 (l : List Int) (i j : Int) (hl : (l.length : Int) ≤ 9223372036854775807) : callL Try.prog 19 [.sl l.length (csInt l), .v (.int .i64 i), .v (.int .i64 j)] = some (.v (.bool true)) := by
  rw [callL_eq Try.prog Try.func19 rfl ok19 _ (ext_none _ (by decide)) rfl]
  have g := (c30 l hl).2
  have k0 := k30 l hl
  generalize treeOf l = ns at g k0
  have g9 := g.len9
  have g0 := g.len0
  have hn : (ns.length : Int) < 1000000 := by omega
  have hne : ((ns.length : Int) = 0) = False := eq_false (by omega)
  obtain ⟨b1, b2⟩ := and_bound i 65535 (by decide)
  have hm := tmod_bound (n := (ns.length : Int)) b1 (by omega)
  obtain ⟨x, hx, x0, x1⟩ : ∃ x, (IntKind.i64.wrap ↑(BitVec.ofInt IntKind.i64.bits i &&& BitVec.ofInt IntKind.i64.bits 65535).toNat).tmod (ns.length : Int) = x ∧ 0 ≤ x ∧ x < ns.length := ⟨_, rfl, hm.1, hm.2⟩
  obtain ⟨s, hs⟩ : ∃ s, IntKind.i64.wrap (IntKind.i64.wrap ↑(BitVec.ofInt IntKind.i64.bits j &&& BitVec.ofInt IntKind.i64.bits 7).toNat - 1) = s := ⟨_, rfl⟩
  have h50 := k50 ns hn
  rw [clsV_ok g.vld g.cld] at h50
  have hu := upd_status (s := s) x0 x1
  have hle : x.toNat * 240 + 239 + 1 ≤ ns.length * 240 := by
    have : (x.toNat + 1) * 240 ≤ ns.length * 240 := Nat.mul_le_mul_right _ (by omega)
    omega
  have hle2 : x.toNat * 240 + 240 ≤ ns.length * 240 := by omega
  have hsl := setAt_len ns x s
  have h50' : ∀ (fl : Bool) (st : St) (d : Option Nat), callQ (callL Try.prog) 50 (some [.agg [.sl ns.length (csNode (setAt ns x s))]]) fl st d = some { dst := d, val := .v (.int .i64 (clsV (setAt ns x s))) } := fun fl st d => by
    have := c50 (setAt ns x s) (by omega)
    rw [show cTree ⟨setAt ns x s⟩ = [.sl (setAt ns x s).length (csNode (setAt ns x s))] from rfl, hsl] at this
    exact Q_int this
  have h67' : ∀ (fl : Bool) (st : St) (d : Option Nat), callQ (callL Try.prog) 67 (some [.agg [.sl ns.length (csNode (setAt ns x s))]]) fl st d = some { dst := d, val := .v (.int .i64 (clsV (setAt ns x s))) } := fun fl st d => by
    have := c67 (setAt ns x s) (by omega)
    rw [show cTree ⟨setAt ns x s⟩ = [.sl (setAt ns x s).length (csNode (setAt ns x s))] from rfl, hsl] at this
    exact Q_int this
  simp -implicitDefEqProofs only [ZZ, seval, k0, hne, hx, hs, h50, hn, x0, x1, hu, hle, hle2, q67, q50, h50', h67', k68, beq_self_eq_true]
  exact endL_tmp (keep_none (by decide)) (.inl rfl) rfl (by simp only [EV, seval] <;> rfl) (.v _)
end Go.Ab.Try
