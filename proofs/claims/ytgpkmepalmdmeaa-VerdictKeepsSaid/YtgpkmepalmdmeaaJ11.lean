/-
  Part J11 of the proof: what functions of this program compute.
-/
import Derived.Test.YtgpkmepalmdmeaaJ10
set_option linter.all false
set_option linter.unusedSimpArgs false
set_option linter.unusedVariables false
set_option maxRecDepth 20000
set_option maxHeartbeats 4000000
namespace Go.Ab.Try
open Classical Go.Proofs Go.Ab
theorem k84k {kv : AV} {m : List Int} (h : KeepV kv m) (hm : (m.length : Int) < 1000000) (a : Int) (st : St) (d : Option Nat) : callFn (callL Try.prog) 84 [kv, .v (.int .i64 a)] st d = some { dst := d, val := .v (.bool (decide (a ∈ m))) } := by
  rcases h with rfl | ⟨rfl, rfl⟩
  · exact call_flat (flat2 (flatSl m) (.v _)) (c84 m a hm) (.v _)
  · rw [decide_eq_false (by simp)]
    exact call_flat (flat2 (.v _) (.v _)) (c84n a) (.v _)
theorem dsc_of {ns : List Node} {c x : Int} (hc : c ∈ path ns x) (x0 : 0 ≤ x) (x1 : x < ns.length) : x ∈ dsc ns c ns.length := (dsc_mem ns c x _).2 ⟨⟨x0, x1⟩, decide_eq_true hc⟩
/-- What a judgement leaves. -/
theorem jud_keeps {ns r : List Node} (g : Vld ns) (gc : Cld ns) {x : Int} (x0 : 0 ≤ x) (x1 : x < ns.length) {v : Verdict} {m : List Int}
    (hr : (v.kind = 1 ∧ raO ns x = some r) ∨ (v.kind = 2 ∧ cndO ns x v.latest m = some r) ∨ (v.kind ≠ 1 ∧ v.kind ≠ 2 ∧ r = ns ∧ (v.kind = 3 ∨ v.kind = 4))) :
    Vld r ∧ Cld r ∧ r.length = ns.length ∧ (∀ z : Int, 0 ≤ z → z < ns.length → (nd r z).status = (nd ns z).status ∨ ((nd ns z).status = 0 ∧ (z ∉ m ∨ (nd r z).status ≠ 2))) ∧ (v.kind = 1 → (nd r x).status = 1) ∧ (v.kind = 2 → (nd r x).status = 2) := by
  rcases hr with ⟨hk, ho⟩ | ⟨hk, ho⟩ | ⟨hk1, hk2, rfl, hk⟩
  · have hR := raised_of g.up ho
    refine ⟨hR.c.vld g rfl, hR.cld g gc, hR.c.len, fun z z0 z1 => ?_, fun _ => ?_, by omega⟩
    · rw [hR.c.st z0 z1]
      by_cases hz : z ∈ path ns x
      · rw [if_pos hz]
        have := hR.ok z hz
        have := isSt3 (g.st z z0 z1)
        have : (nd ns z).status = 1 ∨ (nd ns z).status = 0 := by omega
        rcases this with h | h
        · exact .inl h.symm
        · exact .inr ⟨h, .inr (by decide)⟩
      · rw [if_neg hz]; exact .inl rfl
    · rw [hR.c.st x0 x1, if_pos (path_self g.up x0 x1)]
  · obtain ⟨hC, hK⟩ := cnd_of g.up ho
    obtain ⟨hc, _⟩ := reach_fact g.up g.up0 x0 x1 v.latest
    generalize (reachV ns x v.latest).1 = a at *
    generalize (reachV ns x v.latest).2 = c at *
    refine ⟨hC.vld g, hC.cld g gc, hC.len, fun z z0 z1 => ?_, by omega, fun _ => ?_⟩
    · rw [hC.st z z0 z1]
      by_cases hz : z ∈ dsc ns c ns.length
      · rw [if_pos hz]
        have := hC.okc z hz
        have := isSt3 (g.st z z0 z1)
        have : (nd ns z).status = 2 ∨ (nd ns z).status = 0 := by omega
        rcases this with h | h
        · exact .inl h.symm
        · exact .inr ⟨h, .inl fun hm => hK ⟨z, hm, ((dsc_mem ns c z _).1 hz).2⟩⟩
      · rw [if_neg hz]
        by_cases ha : 0 ≤ a ∧ z ∈ path ns a
        · rw [if_pos ha]
          have := hC.oka z ha.1 ha.2
          have := isSt3 (g.st z z0 z1)
          have : (nd ns z).status = 1 ∨ (nd ns z).status = 0 := by omega
          rcases this with h | h
          · exact .inl h.symm
          · exact .inr ⟨h, .inr (by decide)⟩
        · rw [if_neg ha]; exact .inl rfl
    · rw [hC.st x x0 x1, if_pos (dsc_of hc x0 x1)]
  · exact ⟨g, gc, rfl, fun z _ _ => .inl rfl, by omega, by omega⟩
/-- VerdictKeeps -/
theorem c29 (l : List Int) (i j : Int) (hl : (l.length : Int) ≤ 9223372036854775807) : callL Try.prog 29 [.sl l.length (csInt l), .v (.int .i64 i), .v (.int .i64 j)] = some (.v (.bool true)) := by
  rw [callL_eq Try.prog Try.func29 rfl ok29 _ (ext_none _ (by decide)) rfl]
  have g := (c30 l hl).2
  have k0 := k30 l hl
  generalize treeOf l = ns at g k0
  have g9 := g.len9
  have g0 := g.len0
  have hn : (ns.length : Int) < 1000000 := by omega
  have hne : ((ns.length : Int) = 0) = False := eq_false (by omega)
  obtain ⟨v, kv, m, hkv, hm, h77⟩ := k77 ns g0 hn (IntKind.i64.wrap ↑(BitVec.ofInt IntKind.i64.bits j &&& BitVec.ofInt IntKind.i64.bits 16777215).toNat)
  obtain ⟨b1, b2⟩ := and_bound i 65535 (by decide)
  have hmm := tmod_bound (n := (ns.length : Int)) b1 (by omega)
  obtain ⟨x, hx, x0, x1⟩ : ∃ x, (IntKind.i64.wrap ↑(BitVec.ofInt IntKind.i64.bits i &&& BitVec.ofInt IntKind.i64.bits 65535).toNat).tmod (ns.length : Int) = x ∧ 0 ≤ x ∧ x < ns.length := ⟨_, rfl, hmm.1, hmm.2⟩
  have p78 := k78 ns g.up g.up0 hn x v m hm hkv
  have h84 := k84k hkv hm
  rcases jud_cases g.up g.up0 x0 x1 v m with ⟨e, he, h⟩ | ⟨r, h, hr⟩
  · rw [h] at p78
    simp only [err2] at p78
    have hb : (e != 0) = true := by simp [he]
    simp -implicitDefEqProofs only [ZZ, seval, ZV, k0, hne, h77, hx, p78, hb, extA, k76, beq_self_eq_true]
    exact endL_tmp (keep_none (by decide)) (.inl rfl) rfl (by simp only [EV, seval] <;> rfl) (.v _)
  · rw [h] at p78
    simp only [stA] at p78
    obtain ⟨hv, hc, hlen, hall, hk1, hk2⟩ := jud_keeps g.vld g.cld x0 x1 hr
    have h50 := k50 r (by omega)
    rw [clsV_ok hv hc] at h50
    have hlb : ((r.length : Int) != (ns.length : Int)) = false := by rw [hlen]; exact bne_self_eq_false _
    simp -implicitDefEqProofs only [ZZ, seval, ZV, k0, hne, h77, hx, p78, h50, hlb, extA, bne_self_eq_false]
    refine use_loop (fun n st => ∃ k : Nat, (st.env 1 = .v (.int .i64 x) ∧ st.env 7 = .ptr 7 0 0 ∧ st.heap 7 0 = some (.cells (cTree ⟨ns⟩)) ∧ st.env 8 = .ptr 8 0 0 ∧ st.heap 8 0 = some (.cells (cVerdict v)) ∧ st.env 9 = kv ∧ st.env 10 = .ptr 10 0 0 ∧ st.heap 10 0 = some (.cells (cTree ⟨r⟩)) ∧ st.env 12 = .v (.int .i64 k)) ∧ k ≤ ns.length ∧ n = ns.length - k)
      (fun e st => e = .exit 0 ∧ st.env 1 = .v (.int .i64 x) ∧ st.env 7 = .ptr 7 0 0 ∧ st.heap 7 0 = some (.cells (cTree ⟨ns⟩)) ∧ st.env 8 = .ptr 8 0 0 ∧ st.heap 8 0 = some (.cells (cVerdict v)) ∧ st.env 10 = .ptr 10 0 0 ∧ st.heap 10 0 = some (.cells (cTree ⟨r⟩))) ns.length ?step ?start ?rest
    case step =>
      rintro n st ⟨k, hI, hk, hn'⟩
      by_cases hlt : (k : Int) < ns.length
      · have hw : IntKind.i64.wrap ((k : Int) + 1) = ((k + 1 : Nat) : Int) := by rw [w64 _ (by omega) (by omega)]; omega
        have q0 : (0 : Int) ≤ k := by omega
        have hlu : (k : Int) < r.length := by omega
        by_cases hs : (nd ns k).status = (nd r k).status
        · have hb : ((nd ns k).status != (nd r k).status) = false := by rw [hs]; exact bne_self_eq_false _
          refine go_on (st' := ?s1) ?h1 (ns.length - (k + 1)) (by omega) ?q1
          case h1 =>
            simp -implicitDefEqProofs only [ZZ, seval, hI, hlt, hw, q0, hlu, hb]
            rfl
          case q1 => exact ⟨k + 1, by simp only [EV, seval, hI], by omega, rfl⟩
        · have hb : ((nd ns k).status != (nd r k).status) = true := by simp [hs]
          obtain ⟨h3, h4⟩ := (hall k q0 hlt).resolve_left (fun h => hs h.symm)
          have hb2 : ((nd ns k).status != 0) = false := by rw [h3]; rfl
          by_cases hmk : (k : Int) ∈ m
          · have hd : decide ((k : Int) ∈ m) = true := decide_eq_true hmk
            have hb3 : ((nd r k).status == 2) = false := by simp [h4.resolve_left (fun h => h hmk)]
            refine go_on (st' := ?s2) ?h2 (ns.length - (k + 1)) (by omega) ?q2
            case h2 =>
              simp -implicitDefEqProofs only [ZZ, seval, hI, hlt, hw, q0, hlu, hb, hb2, h84, hd, hb3]
              rfl
            case q2 => exact ⟨k + 1, by simp only [EV, seval, hI], by omega, rfl⟩
          · have hd : decide ((k : Int) ∈ m) = false := decide_eq_false hmk
            refine go_on (st' := ?s3) ?h3 (ns.length - (k + 1)) (by omega) ?q3
            case h3 =>
              simp -implicitDefEqProofs only [ZZ, seval, hI, hlt, hw, q0, hlu, hb, hb2, h84, hd]
              rfl
            case q3 => exact ⟨k + 1, by simp only [EV, seval, hI], by omega, rfl⟩
      · obtain rfl : k = ns.length := by omega
        refine go_out (e := .exit 0) (st' := ?s4) ?h4 (by simp) ?q4
        case h4 =>
          simp -implicitDefEqProofs only [ZZ, seval, hI, hlt]
          rfl
        case q4 => exact ⟨rfl, by simp only [EV, seval, hI]⟩
    case start => exact ⟨0, by simp only [EV, seval] <;> rfl, by omega, rfl⟩
    case rest =>
      rintro e st ⟨rfl, hI⟩
      have x2 : x < r.length := by omega
      rcases hr with ⟨hk, ho⟩ | ⟨hk, ho⟩ | ⟨hkn1, hkn2, rfl, hk⟩
      · have bk : (v.kind == 1) = true := by simp [hk]
        have hs := hk1 hk
        simp -implicitDefEqProofs only [ZZ, seval, ZV, hI, bk, x0, x2, hs, k76, beq_self_eq_true]
        exact endL_tmp (keep_none (by decide)) (.inl rfl) rfl (by simp only [EV, seval] <;> rfl) (.v _)
      · have bk : (v.kind == 1) = false := by simp [hk]
        have bk2 : (v.kind == 2) = true := by simp [hk]
        have hs := hk2 hk
        simp -implicitDefEqProofs only [ZZ, seval, ZV, hI, bk, bk2, x0, x2, hs, k76, beq_self_eq_true]
        exact endL_tmp (keep_none (by decide)) (.inl rfl) rfl (by simp only [EV, seval] <;> rfl) (.v _)
      · have bk : (v.kind == 1) = false := by simp [hkn1]
        have bk2 : (v.kind == 2) = false := by simp [hkn2]
        have hs := same_two r (by omega)
        simp -implicitDefEqProofs only [ZZ, seval, ZV, hI, bk, bk2, hs, k76]
        exact endL_tmp (keep_none (by decide)) (.inl rfl) rfl (by simp only [EV, seval] <;> rfl) (.v _)
end Go.Ab.Try
