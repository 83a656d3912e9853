/-
  Part S8 of the proof: what functions of this program compute.
-/
import Derived.Test.YtgpkmepalmdmeaaS7
set_option linter.all false
set_option linter.unusedSimpArgs false
set_option linter.unusedVariables false
set_option maxRecDepth 20000
set_option maxHeartbeats 4000000
namespace Go.Ab.Try
open Classical Go.Proofs Go.Ab
/-- follows, where it holds -/
theorem c72 (ns u : List Node) (hn : (ns.length : Int) < 1000000) (hl : u.length = ns.length) (hc : clsV u = 0) (to : Int) (H : ∀ j : Int, 0 ≤ j → j < ns.length → withSt (nd u j) (nd ns j).status = nd ns j ∧ ((nd u j).status = (nd ns j).status ∨ ((nd ns j).status = 0 ∧ (nd u j).status = to))) :
    callL Try.prog 72 [.agg (cTree ⟨ns⟩), .agg (cTree ⟨u⟩), .v (.int .i64 to)] = some (.v (.bool true)) := by
  rw [callL_eq Try.prog Try.func72 rfl ok72 _ (ext_none _ (by decide)) rfl]
  have h67 := k67 u (by omega)
  rw [hc] at h67
  have hq : ((u.length : Int) != (ns.length : Int)) = false := by rw [hl]; exact bne_self_eq_false _
  simp -implicitDefEqProofs only [ZZ, seval, h67, hq]
  refine use_loop (fun n st => ∃ k : Nat, (st.env 2 = .v (.int .i64 to) ∧ st.env 3 = .ptr 3 0 0 ∧ st.heap 3 0 = some (.cells (cTree ⟨ns⟩)) ∧ st.env 4 = .ptr 4 0 0 ∧ st.heap 4 0 = some (.cells (cTree ⟨u⟩)) ∧ st.env 7 = .v (.int .i64 k)) ∧ k ≤ ns.length ∧ n = ns.length - k)
    (fun e st => e = .exit 0) ns.length ?step ?start ?rest
  case step =>
    rintro n st ⟨k, hI, hk, hn'⟩
    by_cases hlt : (k : Int) < ns.length
    · have hw : IntKind.i64.wrap ((k : Int) + 1) = ((k + 1 : Nat) : Int) := by rw [w64 _ (by omega) (by omega)]; omega
      have q0 : (0 : Int) ≤ k := by omega
      have hlu : (k : Int) < u.length := by omega
      obtain ⟨h1, h2⟩ := H k q0 hlt
      have hd : decide (({ nd u k with status := (nd ns k).status } : Node) = nd ns k) = true := decide_eq_true h1
      by_cases hs : (nd u k).status = (nd ns k).status
      · have hb : ((nd u k).status != (nd ns k).status) = false := by rw [hs]; exact bne_self_eq_false _
        refine go_on (st' := ?s1) ?h1 (ns.length - (k + 1)) (by omega) ?q1
        case h1 =>
          simp -implicitDefEqProofs only [ZZ, seval, hI, hlt, hw, q0, hlu, hb, hd]
          rfl
        case q1 => exact ⟨k + 1, by simp only [EV, seval, hI], by omega, rfl⟩
      · obtain ⟨h3, h4⟩ := h2.resolve_left hs
        have hb : ((nd u k).status != (nd ns k).status) = true := by simp [hs]
        have hb2 : ((nd ns k).status != 0) = false := by rw [h3]; rfl
        have hb3 : ((nd u k).status != to) = false := by rw [h4]; exact bne_self_eq_false _
        refine go_on (st' := ?s2) ?h2 (ns.length - (k + 1)) (by omega) ?q2
        case h2 =>
          simp -implicitDefEqProofs only [ZZ, seval, hI, hlt, hw, q0, hlu, hb, hb2, hb3, hd]
          rfl
        case q2 => exact ⟨k + 1, by simp only [EV, seval, hI], by omega, rfl⟩
    · obtain rfl : k = ns.length := by omega
      refine go_out (e := .exit 0) (st' := ?s3) ?h3 (by simp) ?q3
      case h3 =>
        simp -implicitDefEqProofs only [ZZ, seval, hI, hlt]
        rfl
      case q3 => rfl
  case start => exact ⟨0, by simp only [EV, seval] <;> rfl, by omega, rfl⟩
  case rest =>
    rintro e st rfl
    simp -implicitDefEqProofs only [ZZ, seval]
    exact endL_tmp (keep_none (by decide)) (.inl rfl) rfl (by simp only [EV, seval]) (.v _)
theorem k72 (ns u : List Node) (hn : (ns.length : Int) < 1000000) (hl : u.length = ns.length) (hc : clsV u = 0) (to : Int) (H : ∀ j : Int, 0 ≤ j → j < ns.length → withSt (nd u j) (nd ns j).status = nd ns j ∧ ((nd u j).status = (nd ns j).status ∨ ((nd ns j).status = 0 ∧ (nd u j).status = to)))
    (st : St) (d : Option Nat) : callFn (callL Try.prog) 72 [.agg (cTree ⟨ns⟩), .agg (cTree ⟨u⟩), .v (.int .i64 to)] st d = some { dst := d, val := .v (.bool true) } := call_flat (flat3 (flatT _) (flatT _) (.v _)) (c72 ns u hn hl hc to H) (.v _)
theorem isSt3 {s : Int} (h : isSt s = true) : s = 0 ∨ s = 1 ∨ s = 2 := by
  simp only [isSt, Bool.and_eq_true, decide_eq_true_eq] at h
  omega
theorem Raised.follows {ns r : List Node} {i : Int} (hu : UpOk ns) (h : Raised ns r i) (hst : ∀ i : Int, 0 ≤ i → i < ns.length → isSt (nd ns i).status = true) : ∀ j : Int, 0 ≤ j → j < ns.length → withSt (nd r j) (nd ns j).status = nd ns j ∧ ((nd r j).status = (nd ns j).status ∨ ((nd ns j).status = 0 ∧ (nd r j).status = 1)) := fun j j0 j1 => by
  rw [h.c.at_ j j0 j1]
  by_cases hj : j ∈ path ns i
  · rw [if_pos hj]
    refine ⟨rfl, ?_⟩
    have := isSt3 (hst j j0 j1)
    have := h.ok j hj
    rw [withSt_status]
    omega
  · rw [if_neg hj]; exact ⟨rfl, .inl rfl⟩
theorem Condemned.follows {ns r : List Node} {i : Int} (h : Condemned ns r i) (hst : ∀ i : Int, 0 ≤ i → i < ns.length → isSt (nd ns i).status = true) : ∀ j : Int, 0 ≤ j → j < ns.length → withSt (nd r j) (nd ns j).status = nd ns j ∧ ((nd r j).status = (nd ns j).status ∨ ((nd ns j).status = 0 ∧ (nd r j).status = 2)) := fun j j0 j1 => by
  rw [h.c.at_ j j0 j1]
  by_cases hj : j ∈ dsc ns i ns.length
  · rw [if_pos hj]
    refine ⟨rfl, ?_⟩
    have := isSt3 (hst j j0 j1)
    have := h.ok j hj
    rw [withSt_status]
    omega
  · rw [if_neg hj]; exact ⟨rfl, .inl rfl⟩
/-- StatusClosed -/
theorem c22 (l : List Int) (i : Int) (hl : (l.length : Int) ≤ 9223372036854775807) : callL Try.prog 22 [.sl l.length (csInt l), .v (.int .i64 i)] = some (.v (.bool true)) := by
  rw [callL_eq Try.prog Try.func22 rfl ok22 _ (ext_none _ (by decide)) rfl]
  have g := (c30 l hl).2
  have k0 := k30 l hl
  generalize treeOf l = ns at g k0
  have g9 := g.len9
  have g0 := g.len0
  have hn : (ns.length : Int) < 1000000 := by omega
  have hne : ((ns.length : Int) = 0) = False := eq_false (by omega)
  obtain ⟨b1, b2⟩ := and_bound i 65535 (by decide)
  have hm := tmod_bound (n := (ns.length : Int)) b1 (by omega)
  obtain ⟨x, hx, x0, x1⟩ : ∃ x, (IntKind.i64.wrap ↑(BitVec.ofInt IntKind.i64.bits i &&& BitVec.ofInt IntKind.i64.bits 65535).toNat).tmod (ns.length : Int) = x ∧ 0 ≤ x ∧ x < ns.length := ⟨_, rfl, hm.1, hm.2⟩
  have hxp := path_self g.up x0 x1
  have hxd : x ∈ dsc ns x ns.length := (dsc_mem ns x x _).2 ⟨⟨x0, x1⟩, decide_eq_true hxp⟩
  have h70 := k70 ns g.up g.up0 hn x
  have h71 := k71 ns g.up g.up0 hn x
  have hra : raV ns x = stA (raO ns x) := if_pos ⟨x0, x1⟩
  have hco : coV ns x = stA (coO ns x) := if_pos ⟨x0, x1⟩
  rw [hra] at h70
  rw [hco] at h71
  have hR : ∀ r, raO ns x = some r → (∀ (st : St) (d : Option Nat), callFn (callL Try.prog) 70 [.agg (cTree ⟨r⟩), .v (.int .i64 x)] st d = some { dst := d, val := .tup [.agg (cTree ⟨r⟩), .v (.int .i64 0)] }) ∧ (∀ (st : St) (d : Option Nat), callFn (callL Try.prog) 72 [.agg (cTree ⟨ns⟩), .agg (cTree ⟨r⟩), .v (.int .i64 1)] st d = some { dst := d, val := .v (.bool true) }) ∧ (nd r x).status = 1 ∧ r.length = ns.length ∧ (nd ns x).status ≠ 2 := fun r hr => by
    have h := raised_of g.up hr
    have hv := h.c.vld g.vld rfl
    refine ⟨fun st d => ?_, k72 ns r hn h.c.len (clsV_ok hv (h.cld g.vld g.cld)) 1 (h.follows g.up g.st), by rw [h.c.st x0 x1, if_pos hxp], h.c.len, h.ok x hxp⟩
    have := k70 r hv.up hv.up0 (by rw [h.c.len]; exact hn) x st d
    rw [show raV r x = stA (raO r x) from if_pos ⟨x0, by rw [h.c.len]; exact x1⟩, raise_again g.up h] at this
    exact this
  have hC : ∀ r, coO ns x = some r → (∀ (st : St) (d : Option Nat), callFn (callL Try.prog) 71 [.agg (cTree ⟨r⟩), .v (.int .i64 x)] st d = some { dst := d, val := .tup [.agg (cTree ⟨r⟩), .v (.int .i64 0)] }) ∧ (∀ (st : St) (d : Option Nat), callFn (callL Try.prog) 72 [.agg (cTree ⟨ns⟩), .agg (cTree ⟨r⟩), .v (.int .i64 2)] st d = some { dst := d, val := .v (.bool true) }) ∧ (nd r x).status = 2 ∧ r.length = ns.length ∧ (nd ns x).status ≠ 1 := fun r hr => by
    have h := condemned_of hr
    have hv := h.c.vld g.vld rfl
    refine ⟨fun st d => ?_, k72 ns r hn h.c.len (clsV_ok hv (h.cld g.vld g.cld)) 2 (h.follows g.st), by rw [h.c.st x0 x1, if_pos hxd], h.c.len, h.ok x hxd⟩
    have := k71 r hv.up hv.up0 (by rw [h.c.len]; exact hn) x st d
    rw [show coV r x = stA (coO r x) from if_pos ⟨x0, by rw [h.c.len]; exact x1⟩, condemn_again g.up h] at this
    exact this
  cases ho : raO ns x with
  | none =>
    rw [ho] at h70
    simp only [stA, err2] at h70
    cases hp : coO ns x with
    | none =>
      rw [hp] at h71
      simp only [stA, err2] at h71
      simp -implicitDefEqProofs only [ZZ, seval, k0, hne, hx, h70, h71, extA, k68]
      exact endL_tmp (keep_none (by decide)) (.inl rfl) rfl (by simp only [EV, seval] <;> rfl) (.v _)
    | some r' =>
      rw [hp] at h71
      simp only [stA] at h71
      obtain ⟨p1, p2, p3, p4, p5⟩ := hC r' hp
      have x2 : x < r'.length := by omega
      have h33 := k33t r' r' (by omega)
      simp -implicitDefEqProofs only [ZZ, seval, k0, hne, hx, h70, h71, extA, k68, p1, p2, p3, x0, x2, h33, beq_self_eq_true, bne_self_eq_false, decide_true, eq_self]
      exact endL_tmp (keep_none (by decide)) (.inl rfl) rfl (by simp only [EV, seval] <;> rfl) (.v _)
  | some r =>
    rw [ho] at h70
    simp only [stA] at h70
    obtain ⟨s1, s2, s3, s4, s5⟩ := hR r ho
    have x3 : x < r.length := by omega
    have h33' := k33t r r (by omega)
    cases hp : coO ns x with
    | none =>
      rw [hp] at h71
      simp only [stA, err2] at h71
      simp -implicitDefEqProofs only [ZZ, seval, k0, hne, hx, h70, h71, extA, k68, s1, s2, s3, x0, x3, h33', beq_self_eq_true, bne_self_eq_false, decide_true, eq_self]
      exact endL_tmp (keep_none (by decide)) (.inl rfl) rfl (by simp only [EV, seval] <;> rfl) (.v _)
    | some r' =>
      rw [hp] at h71
      simp only [stA] at h71
      obtain ⟨p1, p2, p3, p4, p5⟩ := hC r' hp
      have x2 : x < r'.length := by omega
      have h33 := k33t r' r' (by omega)
      have hz : (nd ns x).status = 0 := by have := isSt3 (g.st x x0 x1); omega
      simp -implicitDefEqProofs only [ZZ, seval, k0, hne, hx, h70, h71, extA, k68, s1, s2, s3, x0, x1, x3, h33', p1, p2, p3, x2, h33, hz, beq_self_eq_true, bne_self_eq_false, decide_true, eq_self]
      exact endL_tmp (keep_none (by decide)) (.inl rfl) rfl (by simp only [EV, seval] <;> rfl) (.v _)
/-- StatusMeets -/
theorem c23 (l : List Int) (i j : Int) (hl : (l.length : Int) ≤ 9223372036854775807) : callL Try.prog 23 [.sl l.length (csInt l), .v (.int .i64 i), .v (.int .i64 j)] = some (.v (.bool true)) := by
  rw [callL_eq Try.prog Try.func23 rfl ok23 _ (ext_none _ (by decide)) rfl]
  have g := (c30 l hl).2
  have k0 := k30 l hl
  generalize treeOf l = ns at g k0
  have g9 := g.len9
  have g0 := g.len0
  have hn : (ns.length : Int) < 1000000 := by omega
  have hne : ((ns.length : Int) = 0) = False := eq_false (by omega)
  obtain ⟨b1, b2⟩ := and_bound i 65535 (by decide)
  have hm := tmod_bound (n := (ns.length : Int)) b1 (by omega)
  obtain ⟨x, hx, x0, x1⟩ : ∃ x, (IntKind.i64.wrap ↑(BitVec.ofInt IntKind.i64.bits i &&& BitVec.ofInt IntKind.i64.bits 65535).toNat).tmod (ns.length : Int) = x ∧ 0 ≤ x ∧ x < ns.length := ⟨_, rfl, hm.1, hm.2⟩
  obtain ⟨c1, c2⟩ := and_bound j 65535 (by decide)
  have hm' := tmod_bound (n := (ns.length : Int)) c1 (by omega)
  obtain ⟨y, hy, y0, y1⟩ : ∃ y, (IntKind.i64.wrap ↑(BitVec.ofInt IntKind.i64.bits j &&& BitVec.ofInt IntKind.i64.bits 65535).toNat).tmod (ns.length : Int) = y ∧ 0 ≤ y ∧ y < ns.length := ⟨_, rfl, hm'.1, hm'.2⟩
  have h46 := k46 ns g.up hn y x
  have h70 := k70 ns g.up g.up0 hn x
  have h71 := k71 ns g.up g.up0 hn y
  rw [show raV ns x = stA (raO ns x) from if_pos ⟨x0, x1⟩] at h70
  rw [show coV ns y = stA (coO ns y) from if_pos ⟨y0, y1⟩] at h71
  cases ho : raO ns x with
  | none =>
    rw [ho] at h70
    simp only [stA, err2] at h70
    rcases hp : coO ns y with _ | r'
    all_goals
      rw [hp] at h71
      simp only [stA, err2] at h71
      simp -implicitDefEqProofs only [ZZ, seval, k0, hne, hx, hy, h70, h71, extA, k68]
      exact endL_tmp (keep_none (by decide)) (.inl rfl) rfl (by simp only [EV, seval] <;> rfl) (.v _)
  | some r =>
    rw [ho] at h70
    simp only [stA] at h70
    have hR := raised_of g.up ho
    have hvr := hR.c.vld g.vld rfl
    cases hp : coO ns y with
    | none =>
      rw [hp] at h71
      simp only [stA, err2] at h71
      simp -implicitDefEqProofs only [ZZ, seval, k0, hne, hx, hy, h70, h71, extA, k68]
      exact endL_tmp (keep_none (by decide)) (.inl rfl) rfl (by simp only [EV, seval] <;> rfl) (.v _)
    | some q =>
      rw [hp] at h71
      simp only [stA] at h71
      have hC := condemned_of hp
      have hvq := hC.c.vld g.vld rfl
      have h71' := k71 r hvr.up hvr.up0 (by rw [hR.c.len]; exact hn) y
      have h70' := k70 q hvq.up hvq.up0 (by rw [hC.c.len]; exact hn) x
      rw [show coV r y = stA (coO r y) from if_pos ⟨y0, by rw [hR.c.len]; exact y1⟩] at h71'
      rw [show raV q x = stA (raO q x) from if_pos ⟨x0, by rw [hC.c.len]; exact x1⟩] at h70'
      have hdr : dsc r y r.length = dsc ns y ns.length := by rw [hR.c.len]; exact (hR.c.su.dscE g.up y _).symm
      have hpq : path q x = path ns x := (hC.c.su.pathA g.up x).symm
      have hin1 : ∀ z ∈ dsc ns y ns.length, 0 ≤ z ∧ z < r.length := fun z hz => by rw [hR.c.len]; exact dsc_rng ns y z hz
      have hin2 : ∀ z ∈ path ns x, 0 ≤ z ∧ z < q.length := fun z hz => by rw [hC.c.len]; exact path_in g.up z hz
      cases hA : anc ns y x
      · rw [hA] at h46
        have hdis : ∀ z, z ∈ dsc ns y ns.length → z ∉ path ns x := fun z hz hz' => by
          have h1 := ((dsc_mem ns y z _).1 hz).2
          have h2 : anc ns z x = true := decide_eq_true hz'
          rw [anc_trans g.up _ _ _ _ rfl h1 h2] at hA
          cases hA
        obtain ⟨b, hb⟩ := chg_ok (to := 2) (never := 1) (by decide) (dsc ns y ns.length) r hin1 (fun z hz => by
          obtain ⟨z0, z1⟩ := dsc_rng ns y z hz
          rw [hR.c.st z0 z1, if_neg (hdis z hz)]
          exact hC.ok z hz)
        obtain ⟨d, hd⟩ := chg_ok (to := 1) (never := 2) (by decide) (path ns x) q hin2 (fun z hz => by
          obtain ⟨z0, z1⟩ := path_in g.up z hz
          rw [hC.c.st z0 z1, if_neg (fun h => hdis z h hz)]
          exact hR.ok z hz)
        obtain ⟨_, m2, m3⟩ := chg_some (by decide) _ _ _ hin1 hb
        obtain ⟨_, n2, n3⟩ := chg_some (by decide) _ _ _ hin2 hd
        have hbd : b = d := by
          refine nodes_ext (by rw [m2, n2, hR.c.len, hC.c.len]) fun z z0 z1 => ?_
          rw [m2] at z1
          have z2 : z < ns.length := by rw [← hR.c.len]; exact z1
          rw [m3 z z0 z1, n3 z z0 (by rw [hC.c.len]; exact z2), hR.c.at_ z z0 z2, hC.c.at_ z z0 z2]
          by_cases h1 : z ∈ dsc ns y ns.length
          · rw [if_pos h1, if_neg (hdis z h1), if_neg (hdis z h1), if_pos h1]
          · rw [if_neg h1, if_neg h1]
        have e1 : coO r y = some b := by unfold coO; rw [hdr]; exact hb
        have e2 : raO q x = some b := by unfold raO; rw [hpq, hbd]; exact hd
        rw [e1] at h71'
        rw [e2] at h70'
        simp only [stA] at h71' h70'
        have h33 := k33t b b (by rw [m2, hR.c.len]; exact hn)
        simp -implicitDefEqProofs only [ZZ, seval, k0, hne, hx, hy, h70, h71, h70', h71', h46, extA, k68, h33, beq_self_eq_true, bne_self_eq_false, decide_true, eq_self]
        exact endL_tmp (keep_none (by decide)) (.inl rfl) rfl (by simp only [EV, seval] <;> rfl) (.v _)
      · rw [hA] at h46
        have hxd : x ∈ dsc ns y ns.length := (dsc_mem ns y x _).2 ⟨⟨x0, x1⟩, hA⟩
        have hyp : y ∈ path ns x := of_decide_eq_true hA
        have hyd : y ∈ dsc ns y ns.length := (dsc_mem ns y y _).2 ⟨⟨y0, y1⟩, decide_eq_true (path_self g.up y0 y1)⟩
        have e1 : coO r y = none := by
          unfold coO
          rw [hdr]
          cases h : chg 2 1 (dsc ns y ns.length) r with
          | none => rfl
          | some b =>
            have := (chg_some (by decide) _ _ _ hin1 h).1 y hyd
            rw [hR.c.st y0 y1, if_pos hyp] at this
            exact absurd rfl this
        have e2 : raO q x = none := by
          unfold raO
          rw [hpq]
          cases h : chg 1 2 (path ns x) q with
          | none => rfl
          | some b =>
            have := (chg_some (by decide) _ _ _ hin2 h).1 y hyp
            rw [hC.c.st y0 y1, if_pos hyd] at this
            exact absurd rfl this
        rw [e1] at h71'
        rw [e2] at h70'
        simp only [stA, err2] at h71' h70'
        simp -implicitDefEqProofs only [ZZ, seval, k0, hne, hx, hy, h70, h71, h70', h71', h46, extA, k68, k33nn, beq_self_eq_true, bne_self_eq_false]
        exact endL_tmp (keep_none (by decide)) (.inl rfl) rfl (by simp only [EV, seval] <;> rfl) (.v _)
end Go.Ab.Try
