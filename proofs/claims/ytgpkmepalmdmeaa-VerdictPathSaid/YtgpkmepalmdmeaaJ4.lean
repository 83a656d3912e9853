/-
  Part J4 of the proof: what functions of this program compute.
-/
import Derived.Test.YtgpkmepalmdmeaaJ3
set_option linter.all false
set_option linter.unusedSimpArgs false
set_option linter.unusedVariables false
set_option maxRecDepth 20000
set_option maxHeartbeats 4000000
namespace Go.Ab.Try
open Classical Go.Proofs Go.Ab
/-- ref Judge -/
theorem c79 (ns : List Node) (hu : UpOk ns) (hr : (nd ns 0).up = -1) (hn : (ns.length : Int) < 1000000) (i : Int) (v : Verdict) (l : List Int) (hl : (l.length : Int) < 1000000) {kv : AV} (hkv : KeepV kv l) :
    callL Try.prog 79 [.agg (cTree ⟨ns⟩), .v (.int .i64 i), .agg (cVerdict v), kv] = some (judV ns i v l) := by
  rw [callL_eq Try.prog Try.func79 rfl ok79 _ (ext_none _ (by decide)) (by rcases hkv with rfl | ⟨rfl, rfl⟩ <;> rfl)]
  have h86 := k86 ns i
  unfold judV
  by_cases hm : 0 ≤ i ∧ i < ns.length
  · obtain ⟨i0, i1⟩ := hm
    have hd : (decide (0 ≤ i) && decide (i < (ns.length : Int))) = true := by simp [i0, i1]
    rw [hd] at h86
    rw [if_neg (by simp [i0, i1])]
    by_cases h1 : v.kind = 1
    · rw [if_pos h1]
      have b1 : (v.kind == 1) = true := by simp [h1]
      have h96 := k96 ns hu hn i
      rcases raV_cases ns hn i with ⟨e, he⟩ | ⟨q, he, _⟩
      all_goals
        rw [he] at h96
        rw [he]
        simp -implicitDefEqProofs only [ZZ, seval, ZV, h86, b1, h96, extA]
        exact endL_two (keep_none (by decide)) (.inl rfl) rfl (by simp -implicitDefEqProofs only [resA, ZZ, seval]; rfl) (by simp only [resA, EV, seval] <;> rfl) (by simp only [EV, seval] <;> rfl) (by simp only [EV, seval] <;> rfl)
    · rw [if_neg h1]
      have b1 : (v.kind == 1) = false := by simp [h1]
      by_cases h2 : v.kind = 2
      · rw [if_pos h2]
        have b2 : (v.kind == 2) = true := by simp [h2]
        have b3 : (v.kind == 3) = false := by simp [h2]
        have b4 : (v.kind == 4) = false := by simp [h2]
        have hRe := k75 ns hu hr hn i v.latest
        have hfact := reach_fact hu hr i0 i1 v.latest
        have hv := hkv.view
        have hix := fun st (k : IntKind) (i : Int) h0 h1 => hkv.idx st (k := k) (i := i) h0 h1
        have h46 := k46 ns hu hn
        unfold cndV
        obtain ⟨a, ha⟩ : ∃ a, (reachV ns i v.latest).1 = a := ⟨_, rfl⟩
        obtain ⟨c, hc⟩ : ∃ c, (reachV ns i v.latest).2 = c := ⟨_, rfl⟩
        rw [ha, hc] at hRe hfact
        rw [ha, hc]
        simp -implicitDefEqProofs only [ZZ, seval, ZV, h86, b1, b2, b3, b4, hRe, extA]
        refine use_loop (fun n st => ∃ k : Nat, (st.env 3 = kv ∧ st.env 4 = .ptr 4 0 0 ∧ st.heap 4 0 = some (.cells (cTree ⟨ns⟩)) ∧ st.env 8 = .ptr 8 0 0 ∧ st.heap 8 0 = some (.cells [.v (.slice none 0 0)]) ∧ st.env 10 = .v (.int .i64 a) ∧ st.env 11 = .v (.int .i64 c) ∧ st.env 12 = .v (.int .i64 k)) ∧ (∀ j : Int, 0 ≤ j → j < k → anc ns c (it l j) = false) ∧ k ≤ l.length ∧ n = l.length - k)
          (fun e st => (e = .ret ∧ Keeps ns c l ∧ st.env 8 = .ptr 8 0 0 ∧ st.heap 8 0 = some (.cells [.v (.slice none 0 0)]) ∧ st.env 9 = .v (.int .i64 21)) ∨ (e = .exit 1 ∧ ¬ Keeps ns c l ∧ st.env 4 = .ptr 4 0 0 ∧ st.heap 4 0 = some (.cells (cTree ⟨ns⟩)) ∧ st.env 8 = .ptr 8 0 0 ∧ st.heap 8 0 = some (.cells [.v (.slice none 0 0)]) ∧ st.env 10 = .v (.int .i64 a) ∧ st.env 11 = .v (.int .i64 c))) l.length ?step ?start ?rest
        case step =>
          rintro n st ⟨k, hI, hj, hk, hn'⟩
          by_cases hlt : (k : Int) < l.length
          · have q0 : (0 : Int) ≤ k := by omega
            have hw : IntKind.i64.wrap ((k : Int) + 1) = ((k + 1 : Nat) : Int) := by rw [w64 _ (by omega) (by omega)]; omega
            cases hA : anc ns c (it l k)
            · refine go_on (st' := ?s1) ?h1 (l.length - (k + 1)) (by omega) ?q1
              case h1 =>
                simp -implicitDefEqProofs only [ZZ, seval, hI, hlt, q0, hv, hix, h46, hA, hw]
                rfl
              case q1 => exact ⟨k + 1, by simp only [EV, seval, hI], fun j j0 j1 => by
                by_cases hjk : j < k
                · exact hj j j0 hjk
                · rw [show j = (k : Int) by omega]; exact hA, by omega, rfl⟩
            · refine go_out (e := .ret) (st' := ?s2) ?h2 (by simp) ?q2
              case h2 =>
                simp -implicitDefEqProofs only [ZZ, seval, hI, hlt, q0, hv, hix, h46, hA]
                rfl
              case q2 => exact .inl ⟨rfl, ⟨_, it_mem q0 hlt, hA⟩, by simp only [EV, seval, hI], by simp only [EV, seval, hI], by simp only [EV, seval, hI]⟩
          · obtain rfl : k = l.length := by omega
            have hno : ¬ Keeps ns c l := by
              rintro ⟨x, hx, hxa⟩
              obtain ⟨j, hj', rfl⟩ := List.getElem_of_mem hx
              have := hj j (by omega) (by omega)
              rw [show it l (j : Int) = l[j] by simp [it, hj']] at this
              rw [this] at hxa
              cases hxa
            refine go_out (e := .exit 1) (st' := ?s3) ?h3 (by simp) ?q3
            case h3 =>
              simp -implicitDefEqProofs only [ZZ, seval, hI, hv, hlt]
              rfl
            case q3 => exact .inr ⟨rfl, hno, by simp only [EV, seval, hI]⟩
        case start => exact ⟨0, by simp only [EV, seval], fun j _ _ => by omega, by omega, by omega⟩
        case rest =>
          rintro e st (⟨rfl, hk, hI⟩ | ⟨rfl, hk, hI⟩)
          · rw [if_pos hk]
            simp -implicitDefEqProofs only [ZZ, seval]
            exact endL_two (keep_none (by decide)) (.inl rfl) rfl (by simp -implicitDefEqProofs only [resA, ZZ, seval, hI]; rfl) (by simp only [resA, EV, seval, hI] <;> rfl) (by simp only [EV, seval] <;> rfl) (by simp only [EV, seval] <;> rfl)
          · rw [if_neg hk]
            by_cases h0 : 0 ≤ a
            · rw [if_pos h0]
              have hap : a ∈ path ns i := by
                rcases hfact.2 with h | h
                · omega
                · exact h.1
              obtain ⟨_, a1⟩ := path_in hu a hap
              have h96 := k96 ns hu hn a
              rw [show raV ns a = stA (raO ns a) from if_pos ⟨h0, a1⟩] at h96
              cases ho : raO ns a with
              | none =>
                rw [ho] at h96
                simp only [stA, err2] at h96
                simp -implicitDefEqProofs only [ZZ, seval, hI, h0, h96, extA]
                exact endL_two (keep_none (by decide)) (.inl rfl) rfl (by simp -implicitDefEqProofs only [resA, ZZ, seval, hI]; rfl) (by simp only [resA, EV, seval, hI] <;> rfl) (by simp only [EV, seval] <;> rfl) (by simp only [EV, seval] <;> rfl)
              | some r =>
                rw [ho] at h96
                simp only [stA] at h96
                have hR := raised_of hu ho
                have hu2 := hR.c.su.upok hu
                have h97 := k97 r hu2 (by rw [hR.c.len]; exact hn) c
                rcases coV_cases r (by rw [hR.c.len]; exact hn) c with ⟨e, he⟩ | ⟨q, he, _⟩
                all_goals
                  rw [he] at h97
                  simp only [he]
                  simp -implicitDefEqProofs only [ZZ, seval, hI, h0, h96, h97, extA]
                  exact endL_two (keep_none (by decide)) (.inl rfl) rfl (by simp -implicitDefEqProofs only [resA, ZZ, seval, hI]; rfl) (by simp only [resA, EV, seval, hI] <;> rfl) (by simp only [EV, seval] <;> rfl) (by simp only [EV, seval] <;> rfl)
            · rw [if_neg h0]
              have h97 := k97 ns hu hn c
              rcases coV_cases ns hn c with ⟨e, he⟩ | ⟨q, he, _⟩
              all_goals
                rw [he] at h97
                rw [he]
                simp -implicitDefEqProofs only [ZZ, seval, hI, h0, h97, extA]
                exact endL_two (keep_none (by decide)) (.inl rfl) rfl (by simp -implicitDefEqProofs only [resA, ZZ, seval, hI]; rfl) (by simp only [resA, EV, seval, hI] <;> rfl) (by simp only [EV, seval] <;> rfl) (by simp only [EV, seval] <;> rfl)
      · rw [if_neg h2]
        have b2 : (v.kind == 2) = false := by simp [h2]
        by_cases h3 : v.kind = 3
        · rw [if_pos (.inl h3)]
          have b3 : (v.kind == 3) = true := by simp [h3]
          simp -implicitDefEqProofs only [ZZ, seval, ZV, h86, b1, b2, b3]
          exact endL_two (keep_none (by decide)) (.inl rfl) rfl (by simp -implicitDefEqProofs only [resA, ZZ, seval]; rfl) (by simp only [resA, EV, seval] <;> rfl) (by simp only [EV, seval] <;> rfl) (by simp only [EV, seval] <;> rfl)
        · have b3 : (v.kind == 3) = false := by simp [h3]
          by_cases h4 : v.kind = 4
          · rw [if_pos (.inr h4)]
            have b4 : (v.kind == 4) = true := by simp [h4]
            simp -implicitDefEqProofs only [ZZ, seval, ZV, h86, b1, b2, b3, b4]
            exact endL_two (keep_none (by decide)) (.inl rfl) rfl (by simp -implicitDefEqProofs only [resA, ZZ, seval]; rfl) (by simp only [resA, EV, seval] <;> rfl) (by simp only [EV, seval] <;> rfl) (by simp only [EV, seval] <;> rfl)
          · rw [if_neg (by omega)]
            have b4 : (v.kind == 4) = false := by simp [h4]
            simp -implicitDefEqProofs only [ZZ, seval, ZV, h86, b1, b2, b3, b4]
            exact endL_two (keep_none (by decide)) (.inl rfl) rfl (by simp -implicitDefEqProofs only [resA, ZZ, seval]; rfl) (by simp only [resA, EV, seval] <;> rfl) (by simp only [EV, seval] <;> rfl) (by simp only [EV, seval] <;> rfl)
  · rw [if_pos hm]
    have hd : (decide (0 ≤ i) && decide (i < (ns.length : Int))) = false := by
      by_cases h0 : 0 ≤ i
      · have : ¬ i < ns.length := fun h => hm ⟨h0, h⟩
        simp [this]
      · simp [h0]
    rw [hd] at h86
    simp -implicitDefEqProofs only [ZZ, seval, h86]
    exact endL_two (keep_none (by decide)) (.inl rfl) rfl (by simp -implicitDefEqProofs only [resA, ZZ, seval]; rfl) (by simp only [resA, EV, seval] <;> rfl) (by simp only [EV, seval] <;> rfl) (by simp only [EV, seval] <;> rfl)
theorem k79 (ns : List Node) (hu : UpOk ns) (hr : (nd ns 0).up = -1) (hn : (ns.length : Int) < 1000000) (i : Int) (v : Verdict) (l : List Int) (hl : (l.length : Int) < 1000000) {kv : AV} (hkv : KeepV kv l) (st : St) (d : Option Nat) :
    callFn (callL Try.prog) 79 [.agg (cTree ⟨ns⟩), .v (.int .i64 i), .agg (cVerdict v), kv] st d = some { dst := d, val := judV ns i v l } := call_flat (flat4 (flatT _) (.v _) (.agg _ (flat_cVerdict _)) hkv.flat) (c79 ns hu hr hn i v l hl hkv) (flat_judV ns i v l)
theorem k78 (ns : List Node) (hu : UpOk ns) (hr : (nd ns 0).up = -1) (hn : (ns.length : Int) < 1000000) (i : Int) (v : Verdict) (l : List Int) (hl : (l.length : Int) < 1000000) {kv : AV} (hkv : KeepV kv l) (st : St) (d : Option Nat) :
    callEat (callL Try.prog) 78 [.agg (cTree ⟨ns⟩), .v (.int .i64 i), .agg (cVerdict v), kv] st d = some { dst := d, val := judV ns i v l } := eat_call (flat4 (flatT _) (.v _) (.agg _ (flat_cVerdict _)) hkv.flat) (c78 ns hu hr hn i v l hl hkv) (flat_judV ns i v l)
/-- latest -/
theorem c73 (ns : List Node) (h0 : 0 < ns.length) (hn : (ns.length : Int) < 1000000) (k : Int) : ∃ r : Root, callL Try.prog 73 [.agg (cTree ⟨ns⟩), .v (.int .i64 k)] = some (.agg (cRoot r)) := by
  rw [callL_eq Try.prog Try.func73 rfl ok73 _ (ext_none _ (by decide)) rfl]
  obtain ⟨a, ha⟩ : ∃ a, IntKind.i64.wrap ↑(BitVec.ofInt IntKind.i64.bits k &&& BitVec.ofInt IntKind.i64.bits 3).toNat = a := ⟨_, rfl⟩
  by_cases a0 : a = 0
  · have b0 : (a == 0) = true := by simp [a0]
    refine ⟨zRoot, ?_⟩
    simp -implicitDefEqProofs only [ZZ, seval, ha, b0]
    exact endL_cell (keep_none (by decide)) (.inl rfl) rfl (by simp only [EV, seval] <;> rfl) (by simp -implicitDefEqProofs only [ZZ, seval] <;> rfl) (.agg _ (flat_cRoot _))
  · have b0 : (a == 0) = false := by simp [a0]
    by_cases a1 : a = 1
    · have b1 : (a == 1) = true := by simp [a1]
      refine ⟨mkRoot 4000, ?_⟩
      simp -implicitDefEqProofs only [ZZ, seval, ha, b0, b1, k53]
      exact endL_cell (keep_none (by decide)) (.inl rfl) rfl (by simp only [EV, seval] <;> rfl) (by simp -implicitDefEqProofs only [ZZ, seval] <;> rfl) (.agg _ (flat_cRoot _))
    · have b1 : (a == 1) = false := by simp [a1]
      have hne : ((ns.length : Int) = 0) = False := eq_false (by omega)
      obtain ⟨c0, c1⟩ := and_bound (k.fdiv (2 ^ min 2 IntKind.i64.bits)) 65535 (by decide)
      have hm := tmod_bound (n := (ns.length : Int)) c0 (by omega)
      obtain ⟨x, hx, x0, x1⟩ : ∃ x, (IntKind.i64.wrap ↑(BitVec.ofInt IntKind.i64.bits (k.fdiv (2 ^ min 2 IntKind.i64.bits)) &&& BitVec.ofInt IntKind.i64.bits 65535).toNat).tmod (ns.length : Int) = x ∧ 0 ≤ x ∧ x < ns.length := ⟨_, rfl, hm.1, hm.2⟩
      refine ⟨(nd ns x).block.payload, ?_⟩
      simp -implicitDefEqProofs only [ZZ, seval, ha, b0, b1, hne, hx, x0, x1]
      exact endL_cell (keep_none (by decide)) (.inl rfl) rfl (by simp only [EV, seval] <;> rfl) (by simp -implicitDefEqProofs only [ZZ, seval] <;> rfl) (.agg _ (flat_cRoot _))
theorem k73 (ns : List Node) (h0 : 0 < ns.length) (hn : (ns.length : Int) < 1000000) (k : Int) : ∃ r : Root, ∀ (st : St) (d : Option Nat), callFn (callL Try.prog) 73 [.agg (cTree ⟨ns⟩), .v (.int .i64 k)] st d = some { dst := d, val := .agg (cRoot r) } := by
  obtain ⟨r, h⟩ := c73 ns h0 hn k
  exact ⟨r, fun st d => call_flat (flat2 (flatT _) (.v _)) h (flatR _)⟩
end Go.Ab.Try
