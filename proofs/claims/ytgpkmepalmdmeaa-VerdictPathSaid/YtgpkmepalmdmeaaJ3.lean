/-
  Part J3 of the proof: what functions of this program compute.
-/
import Derived.Test.YtgpkmepalmdmeaaJ2
set_option linter.all false
set_option linter.unusedSimpArgs false
set_option linter.unusedVariables false
set_option maxRecDepth 20000
set_option maxHeartbeats 4000000
namespace Go.Ab.Try
open Classical Go.Proofs Go.Ab
/-- Nodes to be kept, as they are handed in. -/
def KeepV (kv : AV) (l : List Int) : Prop := kv = .sl l.length (csInt l) ∨ (l = [] ∧ kv = .v (.slice none 0 0))
theorem KeepV.view {kv : AV} {l : List Int} (h : KeepV kv l) (st : St) : sliceView st kv = some (l.length, csInt l) := by
  rcases h with rfl | ⟨rfl, rfl⟩ <;> rfl
theorem KeepV.idx {kv : AV} {l : List Int} (h : KeepV kv l) (st : St) {k : IntKind} {i : Int} (h0 : 0 ≤ i) (h1 : i < l.length) : indexAddrA Try.prog st 22 kv (.v (.int k i)) = some (.ip (cInt (it l i)) 0) := by
  rcases h with rfl | ⟨rfl, rfl⟩
  · exact idx22 st h0 h1
  · simp at h1; omega
theorem KeepV.flat {kv : AV} {l : List Int} (h : KeepV kv l) : Flat kv := by
  rcases h with rfl | ⟨rfl, rfl⟩
  · exact flatSl l
  · exact .v _
/-- Is a node to be kept below? -/
def Keeps (ns : List Node) (c : Int) (l : List Int) : Prop := ∃ k ∈ l, anc ns c k = true
noncomputable def cndV (ns : List Node) (i : Int) (h : Root) (l : List Int) : AV :=
  if Keeps ns (reachV ns i h).2 l then err2 21
  else if 0 ≤ (reachV ns i h).1 then
    match raO ns (reachV ns i h).1 with
    | none => err2 21
    | some r => coV r (reachV ns i h).2
  else coV ns (reachV ns i h).2
noncomputable def judV (ns : List Node) (i : Int) (v : Verdict) (l : List Int) : AV :=
  if ¬ (0 ≤ i ∧ i < ns.length) then err2 10
  else if v.kind = 1 then raV ns i
  else if v.kind = 2 then cndV ns i v.latest l
  else if v.kind = 3 ∨ v.kind = 4 then .tup [.agg (cTree ⟨ns⟩), .v (.int .i64 0)]
  else err2 2
theorem flat_cndV (ns : List Node) (i : Int) (h : Root) (l : List Int) : Flat (cndV ns i h l) := by
  unfold cndV
  split
  · exact flat_err2 _
  · split
    · split
      · exact flat_err2 _
      · exact flat_coV _ _
    · exact flat_coV _ _
theorem flat_judV (ns : List Node) (i : Int) (v : Verdict) (l : List Int) : Flat (judV ns i v l) := by
  unfold judV
  split
  · exact flat_err2 _
  · split
    · exact flat_raV _ _
    · split
      · exact flat_cndV _ _ _ _
      · split
        · exact .tup _ (flat2 (flatT _) (.v _))
        · exact flat_err2 _
/-- verdict.condemn -/
theorem c101 (ns : List Node) (hu : UpOk ns) (hr : (nd ns 0).up = -1) (hn : (ns.length : Int) < 1000000) (i : Int) (i0 : 0 ≤ i) (i1 : i < ns.length) (h : Root) (l : List Int) (hl : (l.length : Int) < 1000000) {kv : AV} (hkv : KeepV kv l) :
    callL Try.prog 101 [.agg (cTree ⟨ns⟩), .v (.int .i64 i), .agg (cRoot h), kv] = some (cndV ns i h l) := by
  rw [callL_eq Try.prog Try.func101 rfl ok101 _ (ext_none _ (by decide)) (by rcases hkv with rfl | ⟨rfl, rfl⟩ <;> rfl)]
  have hRe := k74 ns hu hr hn i h
  have hfact := reach_fact hu hr i0 i1 h
  have hv := hkv.view
  have hix := fun st (k : IntKind) (i : Int) h0 h1 => hkv.idx st (k := k) (i := i) h0 h1
  have h42 := k42 ns hu
  unfold cndV
  obtain ⟨a, ha⟩ : ∃ a, (reachV ns i h).1 = a := ⟨_, rfl⟩
  obtain ⟨c, hc⟩ : ∃ c, (reachV ns i h).2 = c := ⟨_, rfl⟩
  rw [ha, hc] at hRe hfact
  rw [ha, hc]
  simp -implicitDefEqProofs only [ZZ, seval, hRe, extA, hv]
  refine use_loop (fun n st => ∃ k : Nat, (st.env 4 = .ptr 4 0 0 ∧ st.heap 4 0 = some (.cells (cTree ⟨ns⟩)) ∧ st.env 8 = .ptr 8 0 0 ∧ st.heap 8 0 = some (.cells [.v (.slice none 0 0)]) ∧ st.env 10 = .v (.int .i64 a) ∧ st.env 11 = .v (.int .i64 c) ∧ st.env 23 = kv ∧ st.env 24 = .v (.int .i64 l.length) ∧ st.env 25 = .v (.int .i64 k)) ∧ (∀ j : Int, 0 ≤ j → j < k → anc ns c (it l j) = false) ∧ k ≤ l.length ∧ n = l.length - k)
    (fun e st => (e = .ret ∧ Keeps ns c l ∧ st.env 8 = .ptr 8 0 0 ∧ st.heap 8 0 = some (.cells [.v (.slice none 0 0)]) ∧ st.env 9 = .v (.int .i64 21)) ∨ (e = .exit 0 ∧ ¬ Keeps ns c l ∧ st.env 4 = .ptr 4 0 0 ∧ st.heap 4 0 = some (.cells (cTree ⟨ns⟩)) ∧ st.env 8 = .ptr 8 0 0 ∧ st.heap 8 0 = some (.cells [.v (.slice none 0 0)]) ∧ st.env 10 = .v (.int .i64 a) ∧ st.env 11 = .v (.int .i64 c))) l.length ?step ?start ?rest
  case step =>
    rintro n st ⟨k, hI, hj, hk, hn'⟩
    by_cases hlt : (k : Int) < l.length
    · have q0 : (0 : Int) ≤ k := by omega
      have hw : IntKind.i64.wrap ((k : Int) + 1) = ((k + 1 : Nat) : Int) := by rw [w64 _ (by omega) (by omega)]; omega
      cases hA : anc ns c (it l k)
      · refine go_on (st' := ?s1) ?h1 (l.length - (k + 1)) (by omega) ?q1
        case h1 =>
          simp -implicitDefEqProofs only [ZZ, seval, hI, hlt, q0, hix, h42, hA, hw]
          rfl
        case q1 => exact ⟨k + 1, by simp only [EV, seval, hI], fun j j0 j1 => by
          by_cases hjk : j < k
          · exact hj j j0 hjk
          · rw [show j = (k : Int) by omega]; exact hA, by omega, rfl⟩
      · refine go_out (e := .ret) (st' := ?s2) ?h2 (by simp) ?q2
        case h2 =>
          simp -implicitDefEqProofs only [ZZ, seval, hI, hlt, q0, hix, h42, hA]
          rfl
        case q2 => exact .inl ⟨rfl, ⟨_, it_mem q0 hlt, hA⟩, by simp only [EV, seval, hI], by simp only [EV, seval, hI], by simp only [EV, seval, hI]⟩
    · obtain rfl : k = l.length := by omega
      have hno : ¬ Keeps ns c l := by
        rintro ⟨x, hx, hxa⟩
        obtain ⟨j, hj', rfl⟩ := List.getElem_of_mem hx
        have := hj j (by omega) (by omega)
        rw [show it l (j : Int) = l[j] by simp [it, hj']] at this
        rw [this] at hxa
        cases hxa
      refine go_out (e := .exit 0) (st' := ?s3) ?h3 (by simp) ?q3
      case h3 =>
        simp -implicitDefEqProofs only [ZZ, seval, hI, hlt]
        rfl
      case q3 => exact .inr ⟨rfl, hno, by simp only [EV, seval, hI]⟩
  case start => exact ⟨0, by simp only [EV, seval], fun j _ _ => by omega, by omega, by omega⟩
  case rest =>
    rintro e st (⟨rfl, hk, hI⟩ | ⟨rfl, hk, hI⟩)
    · rw [if_pos hk]
      simp -implicitDefEqProofs only [ZZ, seval]
      exact endL_two (keep_none (by decide)) (.inl rfl) rfl (by simp -implicitDefEqProofs only [resA, ZZ, seval, hI]; rfl) (by simp only [resA, EV, seval, hI] <;> rfl) (by simp only [EV, seval] <;> rfl) (by simp only [EV, seval] <;> rfl)
    · rw [if_neg hk]
      by_cases h0 : 0 ≤ a
      · rw [if_pos h0]
        have hap : a ∈ path ns i := by
          rcases hfact.2 with h | h
          · omega
          · exact h.1
        obtain ⟨_, a1⟩ := path_in hu a hap
        have h70 := k70 ns hu hr hn a
        rw [show raV ns a = stA (raO ns a) from if_pos ⟨h0, a1⟩] at h70
        cases ho : raO ns a with
        | none =>
          rw [ho] at h70
          simp only [stA, err2] at h70
          simp -implicitDefEqProofs only [ZZ, seval, hI, h0, h70, extA]
          exact endL_two (keep_none (by decide)) (.inl rfl) rfl (by simp -implicitDefEqProofs only [resA, ZZ, seval, hI]; rfl) (by simp only [resA, EV, seval, hI] <;> rfl) (by simp only [EV, seval] <;> rfl) (by simp only [EV, seval] <;> rfl)
        | some r =>
          rw [ho] at h70
          simp only [stA] at h70
          have hR := raised_of hu ho
          have hu2 := hR.c.su.upok hu
          have hr2 : (nd r 0).up = -1 := by rw [hR.c.upE (by omega) (by omega)]; exact hr
          have h71 := k71 r hu2 hr2 (by rw [hR.c.len]; exact hn) c
          rcases coV_cases r (by rw [hR.c.len]; exact hn) c with ⟨e, he⟩ | ⟨q, he, _⟩
          all_goals
            rw [he] at h71
            simp only [he]
            simp -implicitDefEqProofs only [ZZ, seval, hI, h0, h70, h71, extA]
            exact endL_two (keep_none (by decide)) (.inl rfl) rfl (by simp -implicitDefEqProofs only [resA, ZZ, seval, hI]; rfl) (by simp only [resA, EV, seval, hI] <;> rfl) (by simp only [EV, seval] <;> rfl) (by simp only [EV, seval] <;> rfl)
      · rw [if_neg h0]
        have h71 := k71 ns hu hr hn c
        rcases coV_cases ns hn c with ⟨e, he⟩ | ⟨q, he, _⟩
        all_goals
          rw [he] at h71
          rw [he]
          simp -implicitDefEqProofs only [ZZ, seval, hI, h0, h71, extA]
          exact endL_two (keep_none (by decide)) (.inl rfl) rfl (by simp -implicitDefEqProofs only [resA, ZZ, seval, hI]; rfl) (by simp only [resA, EV, seval, hI] <;> rfl) (by simp only [EV, seval] <;> rfl) (by simp only [EV, seval] <;> rfl)
theorem two_cases {x : AV} (h : Flat x) : x = x := rfl
theorem cnd_shape (ns : List Node) (hn : (ns.length : Int) < 1000000) (i : Int) (h : Root) (l : List Int) : (∃ e, cndV ns i h l = .tup [.agg [.v (.slice none 0 0)], .v (.int .i64 e)]) ∨ ∃ r : List Node, cndV ns i h l = .tup [.agg (cTree ⟨r⟩), .v (.int .i64 0)] ∧ (r.length : Int) < 1000000 := by
  unfold cndV
  split
  · exact .inl ⟨21, rfl⟩
  · split
    · split
      · exact .inl ⟨21, rfl⟩
      · rename_i r hr
        exact coV_cases r (by rw [chg_len _ _ _ hr]; exact hn) _
    · exact coV_cases ns hn _
theorem jud_shape (ns : List Node) (hn : (ns.length : Int) < 1000000) (i : Int) (v : Verdict) (l : List Int) : (∃ e, judV ns i v l = .tup [.agg [.v (.slice none 0 0)], .v (.int .i64 e)]) ∨ ∃ r : List Node, judV ns i v l = .tup [.agg (cTree ⟨r⟩), .v (.int .i64 0)] ∧ (r.length : Int) < 1000000 := by
  unfold judV
  split
  · exact .inl ⟨10, rfl⟩
  · split
    · exact raV_cases ns hn i
    · split
      · exact cnd_shape ns hn i v.latest l
      · split
        · exact .inr ⟨ns, rfl, hn⟩
        · exact .inl ⟨2, rfl⟩
theorem k101 (ns : List Node) (hu : UpOk ns) (hr : (nd ns 0).up = -1) (hn : (ns.length : Int) < 1000000) (i : Int) (i0 : 0 ≤ i) (i1 : i < ns.length) (h : Root) (l : List Int) (hl : (l.length : Int) < 1000000) {kv : AV} (hkv : KeepV kv l) (st : St) (d : Option Nat) :
    callFn (callL Try.prog) 101 [.agg (cTree ⟨ns⟩), .v (.int .i64 i), .agg (cRoot h), kv] st d = some { dst := d, val := cndV ns i h l } := call_flat (flat4 (flatT _) (.v _) (flatR _) hkv.flat) (c101 ns hu hr hn i i0 i1 h l hl hkv) (flat_cndV ns i h l)
/-- verdict.Judge -/
theorem c78 (ns : List Node) (hu : UpOk ns) (hr : (nd ns 0).up = -1) (hn : (ns.length : Int) < 1000000) (i : Int) (v : Verdict) (l : List Int) (hl : (l.length : Int) < 1000000) {kv : AV} (hkv : KeepV kv l) :
    callL Try.prog 78 [.agg (cTree ⟨ns⟩), .v (.int .i64 i), .agg (cVerdict v), kv] = some (judV ns i v l) := by
  rw [callL_eq Try.prog Try.func78 rfl ok78 _ (ext_none _ (by decide)) (by rcases hkv with rfl | ⟨rfl, rfl⟩ <;> rfl)]
  by_cases hm : 0 ≤ i ∧ i < ns.length
  · obtain ⟨i0, i1⟩ := hm
    have hneg : ¬ i < 0 := by omega
    have hge : ((ns.length : Int) ≤ i) = False := eq_false (by omega)
    unfold judV
    rw [if_neg (by simp [i0, i1])]
    by_cases h1 : v.kind = 1
    · rw [if_pos h1]
      have b1 : (v.kind == 1) = true := by simp [h1]
      have h70 := k70 ns hu hr hn i
      rcases raV_cases ns hn i with ⟨e, he⟩ | ⟨q, he, _⟩
      all_goals
        rw [he] at h70
        rw [he]
        simp -implicitDefEqProofs only [ZZ, seval, ZV, hneg, hge, b1, h70, extA]
        exact endL_two (keep_none (by decide)) (.inl rfl) rfl (by simp -implicitDefEqProofs only [resA, ZZ, seval]; rfl) (by simp only [resA, EV, seval] <;> rfl) (by simp only [EV, seval] <;> rfl) (by simp only [EV, seval] <;> rfl)
    · rw [if_neg h1]
      have b1 : (v.kind == 1) = false := by simp [h1]
      by_cases h2 : v.kind = 2
      · rw [if_pos h2]
        have b2 : (v.kind == 2) = true := by simp [h2]
        have h101 := k101 ns hu hr hn i i0 i1 v.latest l hl hkv
        rcases cnd_shape ns hn i v.latest l with ⟨e, he⟩ | ⟨q, he, _⟩
        all_goals
          rw [he] at h101
          rw [he]
          simp -implicitDefEqProofs only [ZZ, seval, ZV, hneg, hge, b1, b2, h101, extA]
          exact endL_two (keep_none (by decide)) (.inl rfl) rfl (by simp -implicitDefEqProofs only [resA, ZZ, seval]; rfl) (by simp only [resA, EV, seval] <;> rfl) (by simp only [EV, seval] <;> rfl) (by simp only [EV, seval] <;> rfl)
      · rw [if_neg h2]
        have b2 : (v.kind == 2) = false := by simp [h2]
        have h102 := k102 ns (by omega) hn
        by_cases h3 : v.kind = 3
        · rw [if_pos (.inl h3)]
          have b3 : (v.kind == 3) = true := by simp [h3]
          simp -implicitDefEqProofs only [ZZ, seval, ZV, hneg, hge, b1, b2, b3, h102]
          exact endL_two (keep_none (by decide)) (.inl rfl) rfl (by simp -implicitDefEqProofs only [resA, ZZ, seval]; rfl) (by simp only [resA, EV, seval] <;> rfl) (by simp only [EV, seval] <;> rfl) (by simp only [EV, seval] <;> rfl)
        · have b3 : (v.kind == 3) = false := by simp [h3]
          by_cases h4 : v.kind = 4
          · rw [if_pos (.inr h4)]
            have b4 : (v.kind == 4) = true := by simp [h4]
            simp -implicitDefEqProofs only [ZZ, seval, ZV, hneg, hge, b1, b2, b3, b4, h102]
            exact endL_two (keep_none (by decide)) (.inl rfl) rfl (by simp -implicitDefEqProofs only [resA, ZZ, seval]; rfl) (by simp only [resA, EV, seval] <;> rfl) (by simp only [EV, seval] <;> rfl) (by simp only [EV, seval] <;> rfl)
          · rw [if_neg (by omega)]
            have b4 : (v.kind == 4) = false := by simp [h4]
            simp -implicitDefEqProofs only [ZZ, seval, ZV, hneg, hge, b1, b2, b3, b4]
            exact endL_two (keep_none (by decide)) (.inl rfl) rfl (by simp -implicitDefEqProofs only [resA, ZZ, seval]; rfl) (by simp only [resA, EV, seval] <;> rfl) (by simp only [EV, seval] <;> rfl) (by simp only [EV, seval] <;> rfl)
  · unfold judV
    rw [if_pos hm]
    by_cases hneg : i < 0
    · simp -implicitDefEqProofs only [ZZ, seval, ZV, hneg]
      exact endL_two (keep_none (by decide)) (.inl rfl) rfl (by simp -implicitDefEqProofs only [resA, ZZ, seval]; rfl) (by simp only [resA, EV, seval] <;> rfl) (by simp only [EV, seval] <;> rfl) (by simp only [EV, seval] <;> rfl)
    · have hge : ((ns.length : Int) ≤ i) = True := eq_true (by omega)
      simp -implicitDefEqProofs only [ZZ, seval, ZV, hneg, hge]
      exact endL_two (keep_none (by decide)) (.inl rfl) rfl (by simp -implicitDefEqProofs only [resA, ZZ, seval]; rfl) (by simp only [resA, EV, seval] <;> rfl) (by simp only [EV, seval] <;> rfl) (by simp only [EV, seval] <;> rfl)
end Go.Ab.Try
