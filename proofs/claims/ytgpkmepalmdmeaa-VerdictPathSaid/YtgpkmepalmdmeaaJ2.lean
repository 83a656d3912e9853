/-
  Part J2 of the proof: what functions of this program compute.
-/
import Derived.Test.YtgpkmepalmdmeaaJ1
import Derived.Test.YtgpkmepalmdmeaaS7
set_option linter.all false
set_option linter.unusedSimpArgs false
set_option linter.unusedVariables false
set_option maxRecDepth 20000
set_option maxHeartbeats 4000000
namespace Go.Ab.Try
open Classical Go.Proofs Go.Ab
theorem path_upit {ns : List Node} (hu : UpOk ns) : ∀ (n : Nat) (c : Int), c.toNat = n → 0 ≤ c → c < ns.length → ∀ k : Int, 1 ≤ k → k < (path ns c).length → (nd ns (it (path ns c) k)).up = it (path ns c) (k - 1) := by
  intro n
  induction n using Nat.strongRecOn with
  | _ n ih =>
    intro c hc c0 c1 k k0 k1
    by_cases h : c = 0
    · subst h
      rw [path_zero (by omega)] at k1
      simp at k1
      omega
    · obtain ⟨u0, u1⟩ := hu c (by omega) c1
      rw [path_step hu (by omega) c1] at k1 ⊢
      simp at k1
      by_cases hk : k = (path ns (nd ns c).up).length
      · rw [it_app_eq hk, it_app_lt (by omega) (by omega), hk, path_last hu u0 (by omega)]
      · rw [it_app_lt (by omega) (by omega), it_app_lt (by omega) (by omega)]
        exact ih (nd ns c).up.toNat (by omega) _ rfl u0 (by omega) k k0 (by omega)
theorem path_it0 {ns : List Node} (hu : UpOk ns) : ∀ (n : Nat) (c : Int), c.toNat = n → 0 ≤ c → c < ns.length → it (path ns c) 0 = 0 := by
  intro n
  induction n using Nat.strongRecOn with
  | _ n ih =>
    intro c hc c0 c1
    by_cases h : c = 0
    · subst h; rw [path_zero (by omega)]; rfl
    · obtain ⟨u0, u1⟩ := hu c (by omega) c1
      have := path_nz hu u0 (by omega)
      rw [path_step hu (by omega) c1, it_app_lt (Int.le_refl _) (by omega)]
      exact ih _ (by omega) _ rfl u0 (by omega)
/-- ref11.Reach -/
theorem c75 (ns : List Node) (hu : UpOk ns) (hr : (nd ns 0).up = -1) (hn : (ns.length : Int) < 1000000) (i : Int) (h : Root) : callL Try.prog 75 [.agg (cTree ⟨ns⟩), .v (.int .i64 i), .agg (cRoot h)] = some (reA ns i h) := by
  rw [callL_eq Try.prog Try.func75 rfl ok75 _ (ext_none _ (by decide)) rfl]
  unfold reA
  by_cases hm : 0 ≤ i ∧ i < ns.length
  · have h45 := k45 ns hu hn i hm.1 hm.2
    have hpl := path_lt hu i
    have hp0 := path_nz hu hm.1 hm.2
    have hin := path_in hu (i := i)
    have hpe : path ns i ≠ [] := by intro h; rw [h] at hp0; simp at hp0
    have hq : (((path ns i).length : Int) == 0) = false := by simp [hpe]
    have hup := fun k h h' => path_upit hu _ i rfl hm.1 hm.2 k h h'
    have hi0 := path_it0 hu _ i rfl hm.1 hm.2
    unfold reachV
    rw [if_neg hpe]
    generalize path ns i = p at h45 hpl hp0 hin hq hup hi0
    by_cases hz : h = zRoot
    · have hd : decide (h = zRoot) = true := decide_eq_true hz
      rw [if_pos hz]
      simp -implicitDefEqProofs only [ZZ, seval, h45, hq, hd]
      refine use_loop (fun n st => ∃ k : Nat, (st.env 1 = .v (.int .i64 i) ∧ st.env 3 = .ptr 3 0 0 ∧ st.heap 3 0 = some (.cells (cTree ⟨ns⟩)) ∧ st.env 8 = .own 13 0 ∧ st.heap 13 0 = some (.row 3 1 p.length (csInt p)) ∧ st.env 9 = .v (.int .i64 k)) ∧ firstF ns p p.length = firstF ns p (p.length - k) ∧ k ≤ p.length ∧ n = p.length - k)
        (fun e st => (e = .ret ∧ ∃ k, firstF ns p p.length = some k ∧ st.env 6 = .v (.int .i64 (if k = 0 then -1 else it p ((k : Int) - 1))) ∧ st.env 7 = .v (.int .i64 (it p k))) ∨ (e = .exit 0 ∧ firstF ns p p.length = none ∧ st.env 1 = .v (.int .i64 i))) p.length ?step ?start ?rest
      case step =>
        rintro n st ⟨k, hI, hf, hk, hn'⟩
        by_cases hlt : (k : Int) < p.length
        · have q0 : (0 : Int) ≤ k := by omega
          have hw : IntKind.i64.wrap ((k : Int) + 1) = ((k + 1 : Nat) : Int) := by rw [w64 _ (by omega) (by omega)]; omega
          obtain ⟨x0, x1⟩ := hin _ (it_mem q0 hlt)
          obtain ⟨m, hm'⟩ : ∃ m, p.length - k = m + 1 := ⟨p.length - k - 1, by omega⟩
          rw [hm'] at hf
          simp only [firstF] at hf
          rw [show p.length - (m + 1) = k by omega] at hf
          by_cases hpz : pay ns (it p k) = zRoot
          · rw [if_pos hpz] at hf
            have hd2 : decide ((nd ns (it p k)).block.payload = zRoot) = true := decide_eq_true hpz
            refine go_on (st' := ?s1) ?h1 (p.length - (k + 1)) (by omega) ?q1
            case h1 =>
              simp -implicitDefEqProofs only [ZZ, seval, hI, hlt, q0, x0, x1, hd2, hw]
              rfl
            case q1 => exact ⟨k + 1, by simp only [EV, seval, hI], by rw [hf, show p.length - (k + 1) = m by omega], by omega, rfl⟩
          · rw [if_neg hpz] at hf
            have hd2 : decide ((nd ns (it p k)).block.payload = zRoot) = false := decide_eq_false hpz
            have hupk : (nd ns (it p k)).up = if k = 0 then -1 else it p ((k : Int) - 1) := by
              by_cases hk0 : k = 0
              · rw [if_pos hk0, show ((k : Int)) = 0 by omega, hi0, hr]
              · rw [if_neg hk0, hup k (by omega) hlt]
            refine go_out (e := .ret) (st' := ?s2) ?h2 (by simp) ?q2
            case h2 =>
              simp -implicitDefEqProofs only [ZZ, seval, hI, hlt, q0, x0, x1, hd2]
              rfl
            case q2 => exact .inl ⟨rfl, k, hf, by rw [← hupk]; simp only [EV, seval], by simp only [EV, seval]⟩
        · obtain rfl : k = p.length := by omega
          rw [Nat.sub_self] at hf
          refine go_out (e := .exit 0) (st' := ?s3) ?h3 (by simp) ?q3
          case h3 =>
            simp -implicitDefEqProofs only [ZZ, seval, hI, hlt]
            rfl
          case q3 => exact .inr ⟨rfl, hf, by simp only [EV, seval, hI]⟩
      case start => exact ⟨0, by simp only [EV, seval] <;> rfl, rfl, by omega, rfl⟩
      case rest =>
        rintro e st (⟨rfl, k, hf, h6, h7⟩ | ⟨rfl, hf, h1⟩)
        · rw [hf]
          simp -implicitDefEqProofs only [ZZ, seval]
          exact endL_two (keep_none (by decide)) (.inl rfl) rfl (by simp only [resA, EV, seval, h6] <;> rfl) (by simp only [resA, EV, seval, h7] <;> rfl) (by simp only [EV, seval] <;> rfl) (by simp only [EV, seval] <;> rfl)
        · rw [hf]
          simp -implicitDefEqProofs only [ZZ, seval, h1]
          exact endL_two (keep_none (by decide)) (.inl rfl) rfl (by simp only [resA, EV, seval] <;> rfl) (by simp only [resA, EV, seval] <;> rfl) (by simp only [EV, seval] <;> rfl) (by simp only [EV, seval] <;> rfl)
    · have hd : decide (h = zRoot) = false := decide_eq_false hz
      have hw0 : IntKind.i64.wrap ((p.length : Int) - 2) = (p.length : Int) - 2 := w64 _ (by omega) (by omega)
      rw [if_neg hz]
      simp -implicitDefEqProofs only [ZZ, seval, h45, hq, hd, hw0]
      refine use_loop (fun n st => ∃ m : Nat, (st.env 1 = .v (.int .i64 i) ∧ st.env 3 = .ptr 3 0 0 ∧ st.heap 3 0 = some (.cells (cTree ⟨ns⟩)) ∧ st.env 5 = .ptr 5 0 0 ∧ st.heap 5 0 = some (.cells (cRoot h)) ∧ st.env 8 = .own 13 0 ∧ st.heap 13 0 = some (.row 3 1 p.length (csInt p)) ∧ st.env 10 = .v (.int .i64 ((m : Int) - 1))) ∧ lastF ns p h (p.length - 1) = lastF ns p h m ∧ m ≤ p.length - 1 ∧ n = m)
        (fun e st => (e = .ret ∧ ∃ k, lastF ns p h (p.length - 1) = some k ∧ st.env 6 = .v (.int .i64 (it p k)) ∧ st.env 7 = .v (.int .i64 (it p ((k : Int) + 1)))) ∨ (e = .exit 2 ∧ lastF ns p h (p.length - 1) = none ∧ st.env 1 = .v (.int .i64 i))) (p.length - 1) ?step ?start ?rest
      case step =>
        rintro n st ⟨m, hI, hf, hm', hn'⟩
        by_cases hlt : (0 : Int) ≤ (m : Int) - 1
        · obtain ⟨k, rfl⟩ : ∃ k, m = k + 1 := ⟨m - 1, by omega⟩
          have e1 : ((k + 1 : Nat) : Int) - 1 = k := by omega
          rw [e1] at hI hlt
          have k1 : (k : Int) < p.length := by omega
          have hw : IntKind.i64.wrap ((k : Int) - 1) = (k : Int) - 1 := w64 _ (by omega) (by omega)
          obtain ⟨x0, x1⟩ := hin _ (it_mem hlt k1)
          simp only [lastF] at hf
          by_cases hpz : pay ns (it p k) = h
          · rw [if_pos hpz] at hf
            have hd2 : decide ((nd ns (it p k)).block.payload = h) = true := decide_eq_true hpz
            have hw1 : IntKind.i64.wrap ((k : Int) + 1) = (k : Int) + 1 := w64 _ (by omega) (by omega)
            have r0 : (0 : Int) ≤ (k : Int) + 1 := by omega
            have r1 : (k : Int) + 1 < p.length := by omega
            refine go_out (e := .ret) (st' := ?s4) ?h4 (by simp) ?q4
            case h4 =>
              simp -implicitDefEqProofs only [ZZ, seval, hI, hlt, k1, x0, x1, hd2, hw1, r0, r1]
              rfl
            case q4 => exact .inl ⟨rfl, k, hf, by simp only [EV, seval], by simp only [EV, seval]⟩
          · rw [if_neg hpz] at hf
            have hd2 : decide ((nd ns (it p k)).block.payload = h) = false := decide_eq_false hpz
            refine go_on (st' := ?s5) ?h5 (k) (by omega) ?q5
            case h5 =>
              simp -implicitDefEqProofs only [ZZ, seval, hI, hlt, k1, x0, x1, hd2, hw]
              rfl
            case q5 => exact ⟨k, by simp only [EV, seval, hI], hf, by omega, rfl⟩
        · obtain rfl : m = 0 := by omega
          refine go_out (e := .exit 2) (st' := ?s6) ?h6 (by simp) ?q6
          case h6 =>
            simp -implicitDefEqProofs only [ZZ, seval, hI, hlt]
            rfl
          case q6 => exact .inr ⟨rfl, hf, by simp only [EV, seval, hI]⟩
      case start =>
        have hs : (p.length : Int) - 2 = ((p.length - 1 : Nat) : Int) - 1 := by omega
        exact ⟨p.length - 1, by simp only [EV, seval, hs], rfl, by omega, rfl⟩
      case rest =>
        rintro e st (⟨rfl, k, hf, h6, h7⟩ | ⟨rfl, hf, h1⟩)
        · rw [hf]
          simp -implicitDefEqProofs only [ZZ, seval]
          exact endL_two (keep_none (by decide)) (.inl rfl) rfl (by simp only [resA, EV, seval, h6] <;> rfl) (by simp only [resA, EV, seval, h7] <;> rfl) (by simp only [EV, seval] <;> rfl) (by simp only [EV, seval] <;> rfl)
        · rw [hf]
          simp -implicitDefEqProofs only [ZZ, seval, h1]
          exact endL_two (keep_none (by decide)) (.inl rfl) rfl (by simp only [resA, EV, seval] <;> rfl) (by simp only [resA, EV, seval] <;> rfl) (by simp only [EV, seval] <;> rfl) (by simp only [EV, seval] <;> rfl)
  · rw [reach_none (path_none hm)]
    have h45 := k45n ns i hm
    simp -implicitDefEqProofs only [ZZ, seval, h45]
    exact endL_two (keep_none (by decide)) (.inl rfl) rfl (by simp only [resA, EV, seval] <;> rfl) (by simp only [resA, EV, seval] <;> rfl) (by simp only [EV, seval] <;> rfl) (by simp only [EV, seval] <;> rfl)
theorem flat_reA (ns : List Node) (i : Int) (h : Root) : Flat (reA ns i h) := .tup _ (flat2 (.v _) (.v _))
theorem k74 (ns : List Node) (hu : UpOk ns) (hr : (nd ns 0).up = -1) (hn : (ns.length : Int) < 1000000) (i : Int) (h : Root) (st : St) (d : Option Nat) : callFn (callL Try.prog) 74 [.agg (cTree ⟨ns⟩), .v (.int .i64 i), .agg (cRoot h)] st d = some { dst := d, val := .tup [.v (.int .i64 (reachV ns i h).1), .v (.int .i64 (reachV ns i h).2)] } := call_flat (flat3 (flatT _) (.v _) (flatR _)) (c74 ns hu hr hn i h) (flat_reA ns i h)
theorem k75 (ns : List Node) (hu : UpOk ns) (hr : (nd ns 0).up = -1) (hn : (ns.length : Int) < 1000000) (i : Int) (h : Root) (st : St) (d : Option Nat) : callFn (callL Try.prog) 75 [.agg (cTree ⟨ns⟩), .v (.int .i64 i), .agg (cRoot h)] st d = some { dst := d, val := .tup [.v (.int .i64 (reachV ns i h).1), .v (.int .i64 (reachV ns i h).2)] } := call_flat (flat3 (flatT _) (.v _) (flatR _)) (c75 ns hu hr hn i h) (flat_reA ns i h)
/-- Where Reach leads. -/
theorem reach_fact {ns : List Node} (hu : UpOk ns) (hr : (nd ns 0).up = -1) {i : Int} (i0 : 0 ≤ i) (i1 : i < ns.length) (h : Root) : (reachV ns i h).2 ∈ path ns i ∧ ((reachV ns i h).1 < 0 ∨ ((reachV ns i h).1 ∈ path ns i ∧ (nd ns (reachV ns i h).2).up = (reachV ns i h).1)) := by
  have hp0 := path_nz hu i0 i1
  have hpe : path ns i ≠ [] := by intro h; rw [h] at hp0; simp at hp0
  have hself := path_self hu i0 i1
  have hup := fun k h h' => path_upit hu _ i rfl i0 i1 k h h'
  unfold reachV
  rw [if_neg hpe]
  by_cases hz : h = zRoot
  · rw [if_pos hz]
    cases hf : firstF ns (path ns i) (path ns i).length with
    | none => exact ⟨hself, .inl (by simp)⟩
    | some k =>
      have hk := firstF_lt _ _ (Nat.le_refl _) hf
      simp only
      refine ⟨it_mem (by omega) (by omega), ?_⟩
      by_cases hk0 : k = 0
      · rw [if_pos hk0]; exact .inl (by omega)
      · rw [if_neg hk0]
        exact .inr ⟨it_mem (by omega) (by omega), hup k (by omega) (by omega)⟩
  · rw [if_neg hz]
    cases hf : lastF ns (path ns i) h ((path ns i).length - 1) with
    | none => exact ⟨hself, .inl (by simp)⟩
    | some k =>
      have hk := lastF_lt _ _ hf
      simp only
      refine ⟨it_mem (by omega) (by omega), .inr ⟨it_mem (by omega) (by omega), ?_⟩⟩
      have := hup ((k : Int) + 1) (by omega) (by omega)
      rw [this]
      congr 1
      omega
end Go.Ab.Try
