/-
  Part J1 of the proof: what functions of this program compute.
-/
import Derived.Test.YtgpkmepalmdmeaaX7
import Derived.Test.YtgpkmepalmdmeaaS5
set_option linter.all false
set_option linter.unusedSimpArgs false
set_option linter.unusedVariables false
set_option maxRecDepth 20000
set_option maxHeartbeats 4000000
namespace Go.Ab.Try
open Classical Go.Proofs Go.Ab
/-- roots.IsZero -/
theorem c99 (r : Root) : callL Try.prog 99 [.agg (cRoot r)] = some (.v (.bool (decide (r = zRoot)))) := by
  rw [callL_eq Try.prog Try.func99 rfl ok99 _ (ext_none _ (by decide)) rfl]
  simp -implicitDefEqProofs only [ZZ, seval]
  exact endL_tmp (keep_none (by decide)) (.inl rfl) rfl (by simp only [EV, seval]) (.v _)
theorem k99 (r : Root) (st : St) (d : Option Nat) : callFn (callL Try.prog) 99 [.agg (cRoot r)] st d = some { dst := d, val := .v (.bool (decide (r = zRoot))) } := call_flat (flat1 (flatR _)) (c99 r) (.v _)
def pay (ns : List Node) (x : Int) : Root := (nd ns x).block.payload
/-- The first node of a path with a payload; n nodes are left. -/
noncomputable def firstF (ns : List Node) (p : List Int) : Nat → Option Nat
  | 0 => none
  | n + 1 => if pay ns (it p ((p.length - (n + 1) : Nat) : Int)) = zRoot then firstF ns p n else some (p.length - (n + 1))
/-- The last node of a path, but for its end, with the payload. -/
noncomputable def lastF (ns : List Node) (p : List Int) (h : Root) : Nat → Option Nat
  | 0 => none
  | n + 1 => if pay ns (it p (n : Int)) = h then some n else lastF ns p h n
noncomputable def reachV (ns : List Node) (i : Int) (h : Root) : Int × Int :=
  if path ns i = [] then (-1, -1)
  else if h = zRoot then
    match firstF ns (path ns i) (path ns i).length with
    | none => (-1, i)
    | some k => (if k = 0 then -1 else it (path ns i) ((k : Int) - 1), it (path ns i) k)
  else
    match lastF ns (path ns i) h ((path ns i).length - 1) with
    | none => (-1, i)
    | some k => (it (path ns i) k, it (path ns i) ((k : Int) + 1))
noncomputable def reA (ns : List Node) (i : Int) (h : Root) : AV := .tup [.v (.int .i64 (reachV ns i h).1), .v (.int .i64 (reachV ns i h).2)]
theorem firstF_lt {ns : List Node} {p : List Int} : ∀ (n k : Nat), n ≤ p.length → firstF ns p n = some k → k < p.length
  | 0, k, _, h => by simp [firstF] at h
  | n + 1, k, hn, h => by
    simp only [firstF] at h
    split at h
    · exact firstF_lt n k (by omega) h
    · simp at h; omega
theorem lastF_lt {ns : List Node} {p : List Int} {h : Root} : ∀ (n k : Nat), lastF ns p h n = some k → k < n
  | 0, k, hk => by simp [lastF] at hk
  | n + 1, k, hk => by
    simp only [lastF] at hk
    split at hk
    · simp at hk; omega
    · have := lastF_lt n k hk; omega
theorem reach_none {ns : List Node} {i : Int} {h : Root} (hp : path ns i = []) : reachV ns i h = (-1, -1) := if_pos hp
/-- verdict.Reach -/
theorem c74 (ns : List Node) (hu : UpOk ns) (hr : (nd ns 0).up = -1) (hn : (ns.length : Int) < 1000000) (i : Int) (h : Root) : callL Try.prog 74 [.agg (cTree ⟨ns⟩), .v (.int .i64 i), .agg (cRoot h)] = some (reA ns i h) := by
  rw [callL_eq Try.prog Try.func74 rfl ok74 _ (ext_none _ (by decide)) rfl]
  unfold reA
  by_cases hm : 0 ≤ i ∧ i < ns.length
  · have h44 := k44 ns hu hr hn i hm.1 hm.2
    have hpl := path_lt hu i
    have hp0 := path_nz hu hm.1 hm.2
    have hin := path_in hu (i := i)
    have hpe : path ns i ≠ [] := by intro h; rw [h] at hp0; simp at hp0
    have hq : (((path ns i).length : Int) == 0) = false := by simp [hpe]
    unfold reachV
    rw [if_neg hpe]
    generalize path ns i = p at h44 hpl hp0 hin hq
    by_cases hz : h = zRoot
    · have hd : decide (h = zRoot) = true := decide_eq_true hz
      rw [if_pos hz]
      simp -implicitDefEqProofs only [ZZ, seval, h44, hq, k99, hd]
      refine use_loop (fun n st => ∃ k : Nat, (st.env 1 = .v (.int .i64 i) ∧ st.env 3 = .ptr 3 0 0 ∧ st.heap 3 0 = some (.cells (cTree ⟨ns⟩)) ∧ st.env 8 = .own 14 0 ∧ st.heap 14 0 = some (.row 3 1 p.length (csInt p)) ∧ st.env 20 = .own 14 0 ∧ st.env 21 = .v (.int .i64 p.length) ∧ st.env 22 = .v (.int .i64 k)) ∧ firstF ns p p.length = firstF ns p (p.length - k) ∧ k ≤ p.length ∧ n = p.length - k)
        (fun e st => (e = .ret ∧ ∃ k, firstF ns p p.length = some k ∧ st.env 6 = .v (.int .i64 (if k = 0 then -1 else it p ((k : Int) - 1))) ∧ st.env 7 = .v (.int .i64 (it p k))) ∨ (e = .exit 0 ∧ firstF ns p p.length = none ∧ st.env 1 = .v (.int .i64 i))) p.length ?step ?start ?rest
      case step =>
        rintro n st ⟨k, hI, hf, hk, hn'⟩
        by_cases hlt : (k : Int) < p.length
        · have q0 : (0 : Int) ≤ k := by omega
          have hw : IntKind.i64.wrap ((k : Int) + 1) = ((k + 1 : Nat) : Int) := by rw [w64 _ (by omega) (by omega)]; omega
          obtain ⟨x0, x1⟩ := hin _ (it_mem q0 hlt)
          obtain ⟨m, hm'⟩ : ∃ m, p.length - k = m + 1 := ⟨p.length - k - 1, by omega⟩
          rw [hm'] at hf
          simp only [firstF] at hf
          rw [show p.length - (m + 1) = k by omega] at hf
          by_cases hpz : pay ns (it p k) = zRoot
          · rw [if_pos hpz] at hf
            have hd2 : decide ((nd ns (it p k)).block.payload = zRoot) = true := decide_eq_true hpz
            refine go_on (st' := ?s1) ?h1 (p.length - (k + 1)) (by omega) ?q1
            case h1 =>
              simp -implicitDefEqProofs only [ZZ, seval, hI, hlt, q0, x0, x1, k99, hd2, hw]
              rfl
            case q1 => exact ⟨k + 1, by simp only [EV, seval, hI], by rw [hf, show p.length - (k + 1) = m by omega], by omega, rfl⟩
          · rw [if_neg hpz] at hf
            have hd2 : decide ((nd ns (it p k)).block.payload = zRoot) = false := decide_eq_false hpz
            by_cases hk0 : k = 0
            · have hb : ((k : Int) == 0) = true := by simp [hk0]
              refine go_out (e := .ret) (st' := ?s2) ?h2 (by simp) ?q2
              case h2 =>
                simp -implicitDefEqProofs only [ZZ, seval, hI, hlt, q0, x0, x1, k99, hd2, hb]
                rfl
              case q2 => exact .inl ⟨rfl, k, hf, by rw [if_pos hk0]; simp only [EV, seval], by simp only [EV, seval]⟩
            · have hb : ((k : Int) == 0) = false := by simp [hk0]
              have hw1 : IntKind.i64.wrap ((k : Int) - 1) = (k : Int) - 1 := w64 _ (by omega) (by omega)
              have r0 : (0 : Int) ≤ (k : Int) - 1 := by omega
              have r1 : (k : Int) - 1 < p.length := by omega
              refine go_out (e := .ret) (st' := ?s3) ?h3 (by simp) ?q3
              case h3 =>
                simp -implicitDefEqProofs only [ZZ, seval, hI, hlt, q0, x0, x1, k99, hd2, hb, hw1, r0, r1]
                rfl
              case q3 => exact .inl ⟨rfl, k, hf, by rw [if_neg hk0]; simp only [EV, seval], by simp only [EV, seval]⟩
        · obtain rfl : k = p.length := by omega
          rw [Nat.sub_self] at hf
          refine go_out (e := .exit 0) (st' := ?s4) ?h4 (by simp) ?q4
          case h4 =>
            simp -implicitDefEqProofs only [ZZ, seval, hI, hlt]
            rfl
          case q4 => exact .inr ⟨rfl, hf, by simp only [EV, seval, hI]⟩
      case start => exact ⟨0, by simp only [EV, seval] <;> rfl, rfl, by omega, rfl⟩
      case rest =>
        rintro e st (⟨rfl, k, hf, h6, h7⟩ | ⟨rfl, hf, h1⟩)
        · rw [hf]
          simp -implicitDefEqProofs only [ZZ, seval]
          exact endL_two (keep_none (by decide)) (.inl rfl) rfl (by simp only [resA, EV, seval, h6] <;> rfl) (by simp only [resA, EV, seval, h7] <;> rfl) (by simp only [EV, seval] <;> rfl) (by simp only [EV, seval] <;> rfl)
        · rw [hf]
          simp -implicitDefEqProofs only [ZZ, seval, h1]
          exact endL_two (keep_none (by decide)) (.inl rfl) rfl (by simp only [resA, EV, seval] <;> rfl) (by simp only [resA, EV, seval] <;> rfl) (by simp only [EV, seval] <;> rfl) (by simp only [EV, seval] <;> rfl)
    · have hd : decide (h = zRoot) = false := decide_eq_false hz
      have hw0 : IntKind.i64.wrap ((p.length : Int) - 2) = (p.length : Int) - 2 := w64 _ (by omega) (by omega)
      rw [if_neg hz]
      simp -implicitDefEqProofs only [ZZ, seval, h44, hq, k99, hd, hw0]
      refine use_loop (fun n st => ∃ m : Nat, (st.env 1 = .v (.int .i64 i) ∧ st.env 3 = .ptr 3 0 0 ∧ st.heap 3 0 = some (.cells (cTree ⟨ns⟩)) ∧ st.env 5 = .ptr 5 0 0 ∧ st.heap 5 0 = some (.cells (cRoot h)) ∧ st.env 8 = .own 14 0 ∧ st.heap 14 0 = some (.row 3 1 p.length (csInt p)) ∧ st.env 11 = .v (.int .i64 ((m : Int) - 1))) ∧ lastF ns p h (p.length - 1) = lastF ns p h m ∧ m ≤ p.length - 1 ∧ n = m)
        (fun e st => (e = .ret ∧ ∃ k, lastF ns p h (p.length - 1) = some k ∧ st.env 6 = .v (.int .i64 (it p k)) ∧ st.env 7 = .v (.int .i64 (it p ((k : Int) + 1)))) ∨ (e = .exit 2 ∧ lastF ns p h (p.length - 1) = none ∧ st.env 1 = .v (.int .i64 i))) (p.length - 1) ?step ?start ?rest
      case step =>
        rintro n st ⟨m, hI, hf, hm', hn'⟩
        by_cases hlt : (0 : Int) ≤ (m : Int) - 1
        · obtain ⟨k, rfl⟩ : ∃ k, m = k + 1 := ⟨m - 1, by omega⟩
          have e1 : ((k + 1 : Nat) : Int) - 1 = k := by omega
          rw [e1] at hI hlt
          have k1 : (k : Int) < p.length := by omega
          have hw : IntKind.i64.wrap ((k : Int) - 1) = (k : Int) - 1 := w64 _ (by omega) (by omega)
          obtain ⟨x0, x1⟩ := hin _ (it_mem hlt k1)
          simp only [lastF] at hf
          by_cases hpz : pay ns (it p k) = h
          · rw [if_pos hpz] at hf
            have hd2 : decide ((nd ns (it p k)).block.payload = h) = true := decide_eq_true hpz
            have hw1 : IntKind.i64.wrap ((k : Int) + 1) = (k : Int) + 1 := w64 _ (by omega) (by omega)
            have r0 : (0 : Int) ≤ (k : Int) + 1 := by omega
            have r1 : (k : Int) + 1 < p.length := by omega
            refine go_out (e := .ret) (st' := ?s5) ?h5 (by simp) ?q5
            case h5 =>
              simp -implicitDefEqProofs only [ZZ, seval, hI, hlt, k1, x0, x1, hd2, hw1, r0, r1]
              rfl
            case q5 => exact .inl ⟨rfl, k, hf, by simp only [EV, seval], by simp only [EV, seval]⟩
          · rw [if_neg hpz] at hf
            have hd2 : decide ((nd ns (it p k)).block.payload = h) = false := decide_eq_false hpz
            refine go_on (st' := ?s6) ?h6 (k) (by omega) ?q6
            case h6 =>
              simp -implicitDefEqProofs only [ZZ, seval, hI, hlt, k1, x0, x1, hd2, hw]
              rfl
            case q6 => exact ⟨k, by simp only [EV, seval, hI], hf, by omega, rfl⟩
        · obtain rfl : m = 0 := by omega
          refine go_out (e := .exit 2) (st' := ?s7) ?h7 (by simp) ?q7
          case h7 =>
            simp -implicitDefEqProofs only [ZZ, seval, hI, hlt]
            rfl
          case q7 => exact .inr ⟨rfl, hf, by simp only [EV, seval, hI]⟩
      case start =>
        have hs : (p.length : Int) - 2 = ((p.length - 1 : Nat) : Int) - 1 := by omega
        exact ⟨p.length - 1, by simp only [EV, seval, hs], rfl, by omega, rfl⟩
      case rest =>
        rintro e st (⟨rfl, k, hf, h6, h7⟩ | ⟨rfl, hf, h1⟩)
        · rw [hf]
          simp -implicitDefEqProofs only [ZZ, seval]
          exact endL_two (keep_none (by decide)) (.inl rfl) rfl (by simp only [resA, EV, seval, h6] <;> rfl) (by simp only [resA, EV, seval, h7] <;> rfl) (by simp only [EV, seval] <;> rfl) (by simp only [EV, seval] <;> rfl)
        · rw [hf]
          simp -implicitDefEqProofs only [ZZ, seval, h1]
          exact endL_two (keep_none (by decide)) (.inl rfl) rfl (by simp only [resA, EV, seval] <;> rfl) (by simp only [resA, EV, seval] <;> rfl) (by simp only [EV, seval] <;> rfl) (by simp only [EV, seval] <;> rfl)
  · rw [reach_none (path_none hm)]
    have h44 := k44n ns i hm
    simp -implicitDefEqProofs only [ZZ, seval, h44]
    exact endL_two (keep_none (by decide)) (.inl rfl) rfl (by simp only [resA, EV, seval] <;> rfl) (by simp only [resA, EV, seval] <;> rfl) (by simp only [EV, seval] <;> rfl) (by simp only [EV, seval] <;> rfl)
end Go.Ab.Try
