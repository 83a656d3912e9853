/-
  Part K7 of the proof: several texts of the evaluator and of what functions of this program compute.
-/
import Derived.Test.YtgpkmepalmdmeaaK6
import Derived.Test.YtgpkmepalmdmeaaG5
set_option linter.all false
section
set_option linter.unusedSimpArgs false
set_option linter.unusedVariables false
set_option maxRecDepth 20000
set_option maxHeartbeats 4000000
namespace Go.Ab.Try
open Classical Go.Proofs Go.Ab
/-- A node's slot is the greatest of its path. -/
theorem path_slot {ns : List Node} (g : Good ns) : ∀ (k : Nat) (i : Int), i.toNat = k → 0 ≤ i → i < ns.length → ∀ x ∈ path ns i, (nd ns x).block.slot ≤ (nd ns i).block.slot := by
  intro k
  induction k using Nat.strongRecOn with
  | _ k ih =>
    intro i hk i0 i1 x hx
    by_cases hi : i = 0
    · subst hi; rw [path_zero (by omega)] at hx; simp at hx; subst hx; omega
    · obtain ⟨u0, u1⟩ := g.up i (by omega) i1
      have hs := g.slot i (by omega) i1
      rw [path_step g.up (by omega) i1] at hx
      rcases List.mem_append.1 hx with hx | hx
      · have := ih (nd ns i).up.toNat (by omega) _ rfl u0 (by omega) x hx; omega
      · simp at hx; subst hx; omega
/-- Facts of the last slot on the path. -/
theorem at_fact {ns : List Node} (g : Good ns) {s : Int} (hs : 0 ≤ s) : ∀ (k : Nat) (i : Int), i.toNat = k → 0 ≤ i → i < ns.length →
    anc ns (atV ns i s) i = true ∧ (nd ns (atV ns i s)).block.slot ≤ s ∧ ∀ x, anc ns x i = true → (nd ns x).block.slot ≤ s → anc ns x (atV ns i s) = true := by
  intro k
  induction k using Nat.strongRecOn with
  | _ k ih =>
    intro i hk i0 i1
    by_cases hsl : (nd ns i).block.slot ≤ s
    · rw [atV_hit g.up ⟨i0, i1⟩ hsl]
      exact ⟨by unfold anc; exact decide_eq_true (path_self g.up i0 i1), hsl, fun x hx _ => hx⟩
    · by_cases hi : i = 0
      · exfalso; subst hi; have := g.slotB 0 (by omega) i1; omega
      · obtain ⟨u0, u1⟩ := g.up i (by omega) i1
        rw [atV_up g.up g.up0 ⟨i0, i1⟩ hsl]
        obtain ⟨h1, h2, h3⟩ := ih (nd ns i).up.toNat (by omega) _ rfl u0 (by omega)
        refine ⟨?_, h2, fun x hx hxs => h3 x ?_ hxs⟩
        · have := anc_le g.up h1
          rw [anc_up g.up i1 (by omega) (anc_in g.up h1).1.1]; exact h1
        · have hne : x ≠ i := by rintro rfl; exact hsl hxs
          have := anc_le g.up hx
          rw [← anc_up g.up i1 (by omega) (anc_in g.up hx).1.1]; exact hx
/-- Heir's answer. -/
theorem heirF_fact {ns : List Node} (g : Good ns) (a : Int) : ∀ (f : Nat) (c : Int), c.toNat ≤ f → a < c → anc ns a c = true →
    (nd ns (heirF ns a f c)).up = a ∧ anc ns (heirF ns a f c) c = true ∧ a < heirF ns a f c
  | 0, c, hf, hac, h => by have := (anc_in g.up h).1.1; omega
  | f + 1, c, hf, hac, h => by
    obtain ⟨⟨a0, _⟩, c0, c1⟩ := anc_in g.up h
    obtain ⟨u0, u1⟩ := g.up c (by omega) c1
    simp only [heirF]
    by_cases hup : (nd ns c).up = a
    · rw [if_pos hup]
      exact ⟨hup, by unfold anc; exact decide_eq_true (path_self g.up c0 c1), hac⟩
    · rw [if_neg hup]
      have h' : anc ns a (nd ns c).up = true := by rw [← anc_up g.up c1 hac a0]; exact h
      have := anc_le g.up h'
      obtain ⟨e1, e2, e3⟩ := heirF_fact g a f (nd ns c).up (by omega) (by omega) h'
      refine ⟨e1, ?_, e3⟩
      have := anc_le g.up e2
      rw [anc_up g.up c1 (by omega) (anc_in g.up e2).1.1]; exact e2
theorem heir_neg {ns : List Node} (g : Good ns) {a b : Int} (h : anc ns a b = true) : (heirV ns a b < 0 ↔ a = b) := by
  unfold heirV
  by_cases hab : a = b
  · rw [if_pos (.inl hab)]; simp [hab]
  · rw [if_neg (by rintro (h' | h'); exact hab h'; rw [h] at h'; cases h')]
    have := anc_le g.up h
    have a0 := (anc_in g.up h).1.1
    have := heirF_fact g a b.toNat b (Nat.le_refl _) (by omega) h
    constructor
    · intro h; omega
    · intro h; exact absurd h hab
theorem heir_pos {ns : List Node} (g : Good ns) {a b : Int} (h : anc ns a b = true) (hab : a ≠ b) : (nd ns (heirV ns a b)).up = a ∧ anc ns (heirV ns a b) b = true ∧ a < heirV ns a b := by
  unfold heirV
  rw [if_neg (by rintro (h' | h'); exact hab h'; rw [h] at h'; cases h')]
  have := anc_le g.up h
  exact heirF_fact g a b.toNat b (Nat.le_refl _) (by omega) h
end Go.Ab.Try
end
section
set_option linter.unusedSimpArgs false
set_option linter.unusedVariables false
set_option maxRecDepth 20000
set_option maxHeartbeats 4000000
namespace Go.Ab.Try
open Classical Go.Proofs Go.Ab
theorem wu64 (x : Int) (h1 : 0 ≤ x) (h2 : x < 9223372036854775808) : IntKind.u64.wrap x = x := by
  have hb : IntKind.u64.bits = 64 := rfl
  have hs : IntKind.u64.signed = false := rfl
  unfold IntKind.wrap
  simp only [hb, hs, Bool.false_and, Bool.false_eq_true, if_false]
  omega
theorem and_boundU (x m : Int) (hm : 0 ≤ m ∧ m < 9223372036854775808) : 0 ≤ IntKind.u64.wrap ↑(BitVec.ofInt IntKind.u64.bits x &&& BitVec.ofInt IntKind.u64.bits m).toNat ∧ IntKind.u64.wrap ↑(BitVec.ofInt IntKind.u64.bits x &&& BitVec.ofInt IntKind.u64.bits m).toNat ≤ m := by
  have h0 : (BitVec.ofInt IntKind.u64.bits x &&& BitVec.ofInt IntKind.u64.bits m).toNat ≤ (BitVec.ofInt IntKind.u64.bits m).toNat := by rw [BitVec.toNat_and]; exact Nat.and_le_right
  have hb : IntKind.u64.bits = 64 := rfl
  have h : (BitVec.ofInt IntKind.u64.bits (m : Int)).toNat = m.toNat := by
    rw [BitVec.toNat_ofInt, hb]
    omega
  rw [h] at h0
  rw [wu64 _ (by omega) (by omega)]
  omega
/-- AncestryLater -/
theorem c7 (l : List Int) (i s t : Int) (hl : (l.length : Int) ≤ 9223372036854775807) : callL Try.prog 7 [.sl l.length (csInt l), .v (.int .i64 i), .v (.int .u64 s), .v (.int .u64 t)] = some (.v (.bool true)) := by
  rw [callL_eq Try.prog Try.func7 rfl ok7 _ (ext_none _ (by decide)) rfl]
  have g := (c30 l hl).2
  have k0 := k30 l hl
  generalize treeOf l = ns at g k0
  have g9 := g.len9
  have g0 := g.len0
  have hn : (ns.length : Int) < 1000000 := by omega
  have hne : ((ns.length : Int) = 0) = False := eq_false (by omega)
  have h42 := k39 ns g.up g.up0
  have h45 := k42 ns g.up
  have h46 := k43 ns g.up
  obtain ⟨b1, b2⟩ := and_bound i 65535 (by decide)
  have hm := tmod_bound (n := (ns.length : Int)) b1 (by omega)
  obtain ⟨j, hj, j0, j1⟩ : ∃ j, (IntKind.i64.wrap ↑(BitVec.ofInt IntKind.i64.bits i &&& BitVec.ofInt IntKind.i64.bits 65535).toNat).tmod (ns.length : Int) = j ∧ 0 ≤ j ∧ j < ns.length := ⟨_, rfl, hm.1, hm.2⟩
  obtain ⟨u, hu, u0, u1⟩ : ∃ u, IntKind.u64.wrap ↑(BitVec.ofInt IntKind.u64.bits s &&& BitVec.ofInt IntKind.u64.bits 31).toNat = u ∧ 0 ≤ u ∧ u ≤ 31 := ⟨_, rfl, and_boundU s 31 (by decide)⟩
  obtain ⟨v, hv, v0, v1⟩ : ∃ v, IntKind.u64.wrap ↑(BitVec.ofInt IntKind.u64.bits t &&& BitVec.ofInt IntKind.u64.bits 31).toNat = v ∧ 0 ≤ v ∧ v ≤ 31 := ⟨_, rfl, and_boundU t 31 (by decide)⟩
  have hw : IntKind.u64.wrap (u + v) = u + v := wu64 _ (by omega) (by omega)
  obtain ⟨p1, p2, p3⟩ := at_fact g u0 _ j rfl j0 j1
  obtain ⟨q1, q2, q3⟩ := at_fact g (show 0 ≤ u + v by omega) _ j rfl j0 j1
  have r := q3 _ p1 (by omega)
  generalize hA : atV ns j u = a at p1 p2 p3 r
  generalize hB : atV ns j (u + v) = b at q1 q2 q3 r
  obtain ⟨⟨a0, a1⟩, _⟩ := anc_in g.up p1
  obtain ⟨⟨b0, b1'⟩, _⟩ := anc_in g.up q1
  have na : ¬ a < 0 := by omega
  have nl : ¬ (ns.length : Int) ≤ a := by omega
  have nb : ¬ b < 0 := by omega
  have nsl : ¬ u < (nd ns a).block.slot := by omega
  have hneg := heir_neg g p1
  by_cases hab : a = j
  · have hh := hneg.2 hab
    have hq : (a == j) = true := by simp [hab]
    simp -implicitDefEqProofs only [ZZ, seval, k0, hne, hj, hu, hv, hw, h42, hA, hB, na, nl, nb, nsl, a0, a1, h45, p1, r, h46, hh, hq, k41, Int.le_refl]
    exact endL_tmp (keep_none (by decide)) (.inl rfl) rfl (by simp only [EV, seval] <;> rfl) (.v _)
  · have hh : ¬ heirV ns a j < 0 := fun h => hab (hneg.1 h)
    obtain ⟨e1, e2, e3⟩ := heir_pos g p1 hab
    have hin := (anc_in g.up e2).1
    have hsl : u < (nd ns (heirV ns a j)).block.slot := by
      apply Classical.byContradiction
      intro h
      have := anc_le g.up (p3 _ e2 (by omega))
      omega
    have h0 := hin.1
    have h1 := hin.2
    simp -implicitDefEqProofs only [ZZ, seval, k0, hne, hj, hu, hv, hw, h42, hA, hB, na, nl, nb, nsl, a0, a1, h45, p1, r, h46, hh, h0, h1, hsl, k41, Int.le_refl]
    exact endL_tmp (keep_none (by decide)) (.inl rfl) rfl (by simp only [EV, seval] <;> rfl) (.v _)
end Go.Ab.Try
end
section
set_option linter.unusedSimpArgs false
set_option linter.unusedVariables false
set_option maxRecDepth 20000
set_option maxHeartbeats 4000000
namespace Go.Ab.Try
open Classical Go.Proofs Go.Ab
def lcaF (ns : List Node) : Nat → Int → Int → Int
  | 0, x, _ => x
  | f + 1, x, y => if x = y then x else if y < x then lcaF ns f (nd ns x).up y else lcaF ns f x (nd ns y).up
/-- The nearest common ancestor. -/
def lca (ns : List Node) (x y : Int) : Int := lcaF ns (x.toNat + y.toNat) x y
theorem lcaF_fact {ns : List Node} (hu : UpOk ns) : ∀ (f : Nat) (x y : Int), 0 ≤ x → x < ns.length → 0 ≤ y → y < ns.length → x.toNat + y.toNat ≤ f →
    anc ns (lcaF ns f x y) x = true ∧ anc ns (lcaF ns f x y) y = true ∧ ∀ z, anc ns z x = true → anc ns z y = true → anc ns z (lcaF ns f x y) = true
  | 0, x, y, x0, x1, y0, y1, hf => by
    obtain rfl : x = y := by omega
    have := decide_eq_true (path_self hu x0 x1)
    exact ⟨this, this, fun z hz _ => hz⟩
  | f + 1, x, y, x0, x1, y0, y1, hf => by
    simp only [lcaF]
    by_cases hxy : x = y
    · subst hxy
      rw [if_pos rfl]
      have := decide_eq_true (path_self hu x0 x1)
      exact ⟨this, this, fun z hz _ => hz⟩
    · rw [if_neg hxy]
      by_cases hlt : y < x
      · rw [if_pos hlt]
        obtain ⟨u0, u1⟩ := hu x (by omega) x1
        obtain ⟨h1, h2, h3⟩ := lcaF_fact hu f (nd ns x).up y u0 (by omega) y0 y1 (by omega)
        have := anc_le hu h1
        refine ⟨by rw [anc_up hu x1 (by omega) (anc_in hu h1).1.1]; exact h1, h2, fun z hz hz' => h3 z ?_ hz'⟩
        have := anc_le hu hz'
        rw [← anc_up hu x1 (by omega) (anc_in hu hz).1.1]; exact hz
      · rw [if_neg hlt]
        obtain ⟨u0, u1⟩ := hu y (by omega) y1
        obtain ⟨h1, h2, h3⟩ := lcaF_fact hu f x (nd ns y).up x0 x1 u0 (by omega) (by omega)
        have := anc_le hu h2
        refine ⟨h1, by rw [anc_up hu y1 (by omega) (anc_in hu h2).1.1]; exact h2, fun z hz hz' => h3 z hz ?_⟩
        have := anc_le hu hz
        rw [← anc_up hu y1 (by omega) (anc_in hu hz').1.1]; exact hz'
theorem lca_fact {ns : List Node} (hu : UpOk ns) {x y : Int} (x0 : 0 ≤ x) (x1 : x < ns.length) (y0 : 0 ≤ y) (y1 : y < ns.length) :
    anc ns (lca ns x y) x = true ∧ anc ns (lca ns x y) y = true ∧ ∀ z, anc ns z x = true → anc ns z y = true → anc ns z (lca ns x y) = true := lcaF_fact hu _ x y x0 x1 y0 y1 (Nat.le_refl _)
theorem use_loopN {P : Program} {b : Code} {st : St} {k : Ex × St → Option (Ex × St)} {R : Ex → St → Prop} (Inv : Nat → St → Prop) (Q : Ex → St → Prop) (n : Nat)
    (step : ∀ n st, Inv n st → ∃ e st', evL P b st = some (e, st') ∧ ((e = .normal ∧ ∃ m, m < n ∧ Inv m st') ∨ (e ≠ .normal ∧ Q e st')))
    (start : Inv n st) (rest : ∀ e st', Q e st' → ∃ e' st'', k (e, st') = some (e', st'') ∧ R e' st'') : ∃ e' st'', bnd (evL P (.loop b) st) k = some (e', st'') ∧ R e' st'' := by
  obtain ⟨e, s1, h1, h2, h3⟩ := loop_main Inv Q step n st start
  rw [h1]; exact rest e s1 h3
theorem go_onX {x : Option (Ex × St)} {st' : St} {n : Nat} {Inv : Nat → St → Prop} {Q : Ex → St → Prop} (h : x = some (.normal, st')) (m : Nat) (hm : m < n) (hi : Inv m st') :
    ∃ e st', x = some (e, st') ∧ ((e = .normal ∧ ∃ m, m < n ∧ Inv m st') ∨ (e ≠ .normal ∧ Q e st')) := ⟨_, _, h, .inl ⟨rfl, m, hm, hi⟩⟩
def comV (ns : List Node) (l : List Int) : Int := (l.drop 1).foldl (lca ns) (it l 0)
theorem slice22_1 {st : St} {l : List Int} {o : Operand} (h0 : 0 < l.length) (ho : st.ev o = .v (.int .i64 1)) : sliceA Try.prog st 22 (.sl l.length (csInt l)) (some o) none = some (.sl (l.drop 1).length (csInt (l.drop 1))) := by
  have e : ((csInt l).drop ((1 : Int).toNat * 1)).take (((l.length : Int) - 1).toNat * 1) = csInt (l.drop 1) := by
    rw [csInt_eq, csInt_eq, List.map_drop]
    exact List.take_of_length_le (by simp)
  simp only [sliceA, sl22, ho, len_csInt]
  rw [if_pos ⟨by omega, by omega, by omega, by simp⟩, e]
  have : ((l.length : Int) - 1).toNat = (l.drop 1).length := by simp
  rw [this]

/-- ancestry.Common, at members. -/
theorem c51 (ns : List Node) (hu : UpOk ns) (l : List Int) (hl : (l.length : Int) < 1000000) (h0 : 0 < l.length) (hv : ∀ x ∈ l, 0 ≤ x ∧ x < ns.length) : callL Try.prog 51 [.agg (cTree ⟨ns⟩), .sl l.length (csInt l)] = some (.v (.int .i64 (comV ns l))) := by
  rw [callL_eq Try.prog Try.func51 rfl ok51 _ (ext_none _ (by decide)) rfl]
  have hq : ((l.length : Int) == 0) = false := by rw [beq_eq_false_iff_ne]; omega
  have hz : (0 : Int) < l.length := by omega
  obtain ⟨f0, f1⟩ := hv _ (it_mem (Int.le_refl 0) hz)
  have hd0 : (decide (0 ≤ it l 0) && decide (it l 0 < ns.length)) = true := by simp [f0, f1]
  have hrl : ∀ x ∈ l.drop 1, 0 ≤ x ∧ x < ns.length := fun x hx => hv x (List.mem_of_mem_drop hx)
  have hrn : ((l.drop 1).length : Int) < 1000000 := by rw [List.length_drop]; omega
  simp -implicitDefEqProofs only [ZZ, seval, hq, hz, Int.le_refl, k88, hd0, slice22_1 h0]
  unfold comV
  generalize l.drop 1 = r at hrl hrn
  refine use_loop (fun n st => ∃ k : Int, st.env 2 = .ptr 2 0 0 ∧ st.heap 2 0 = some (.cells (cTree ⟨ns⟩)) ∧ st.env 5 = .v (.int .i64 ((r.take k.toNat).foldl (lca ns) (it l 0))) ∧ (0 ≤ (r.take k.toNat).foldl (lca ns) (it l 0) ∧ (r.take k.toNat).foldl (lca ns) (it l 0) < ns.length) ∧ st.env 23 = .sl r.length (csInt r) ∧ st.env 24 = .v (.int .i64 r.length) ∧ st.env 25 = .v (.int .i64 k) ∧ 0 ≤ k ∧ k ≤ r.length ∧ n = (r.length - k).toNat)
    (fun e st => e = .exit 0 ∧ st.env 5 = .v (.int .i64 (r.foldl (lca ns) (it l 0)))) r.length ?step ?start ?rest
  case step =>
    rintro n st ⟨k, h2, hh2, h5, hc, h23, h24, h25, k0, k1, hn'⟩
    by_cases hlt : k < r.length
    · have hw : IntKind.i64.wrap (k + 1) = k + 1 := w64 _ (by omega) (by omega)
      obtain ⟨y0, y1⟩ := hrl _ (it_mem k0 hlt)
      have hdy : (decide (0 ≤ it r k) && decide (it r k < ns.length)) = true := by simp [y0, y1]
      have ht := take_it k0 hlt
      generalize hcv : (r.take k.toNat).foldl (lca ns) (it l 0) = c0 at h5 hc
      have hnext : (r.take (k + 1).toNat).foldl (lca ns) (it l 0) = lca ns c0 (it r k) := by rw [ht, List.foldl_append, hcv]; rfl
      have hla := lca_fact hu hc.1 hc.2 y0 y1
      have hlr := (anc_in hu hla.1).1
      simp -implicitDefEqProofs only [ZZ, seval, h2, hh2, h5, h23, h24, h25, hlt, k0, k88, hdy, decide_true]
      refine use_loopN (fun n st => ∃ (c y : Int) (f : Nat), st.env 2 = .ptr 2 0 0 ∧ st.heap 2 0 = some (.cells (cTree ⟨ns⟩)) ∧ st.env 5 = .v (.int .i64 c) ∧ st.env 7 = .v (.int .i64 y) ∧ st.env 23 = .sl r.length (csInt r) ∧ st.env 24 = .v (.int .i64 r.length) ∧ st.env 25 = .v (.int .i64 k) ∧ lca ns c0 (it r k) = lcaF ns f c y ∧ (0 ≤ c ∧ c < ns.length) ∧ (0 ≤ y ∧ y < ns.length) ∧ c.toNat + y.toNat ≤ f ∧ f = n)
        (fun e st => e = .exit 2 ∧ st.env 2 = .ptr 2 0 0 ∧ st.heap 2 0 = some (.cells (cTree ⟨ns⟩)) ∧ st.env 5 = .v (.int .i64 (lca ns c0 (it r k))) ∧ st.env 23 = .sl r.length (csInt r) ∧ st.env 24 = .v (.int .i64 r.length) ∧ st.env 25 = .v (.int .i64 k)) (c0.toNat + (it r k).toNat) ?step2 ?start2 ?rest2
      case step2 =>
        rintro n st ⟨c, y, f, h2, hh2, h5, h7, h23, h24, h25, hb, hc', hy', hf, rfl⟩
        obtain ⟨c0', c1'⟩ := hc'
        obtain ⟨y0', y1'⟩ := hy'
        by_cases hcy : c = y
        · have hq2 : (c != y) = false := by simp [hcy]
          have hv' : lca ns c0 (it r k) = c := by rw [hb]; cases f <;> simp [lcaF, hcy]
          refine go_out (e := .exit 2) (st' := ?s1) ?h1 (by simp) ?q1
          case h1 =>
            simp -implicitDefEqProofs only [ZZ, seval, h5, h7, hq2]
            rfl
          case q1 => exact ⟨rfl, by simp only [EV, seval, h2], by simp only [EV, seval, hh2], by simp only [EV, seval, h5, hv'], by simp only [EV, seval, h23], by simp only [EV, seval, h24], by simp only [EV, seval, h25]⟩
        · have hq2 : (c != y) = true := by simp [hcy]
          obtain ⟨f, rfl⟩ : ∃ f', f = f' + 1 := ⟨f - 1, by omega⟩
          by_cases hgt : y < c
          · obtain ⟨u0, u1⟩ := hu c (by omega) c1'
            refine go_on (st' := ?s2) ?h2 (f) (by omega) ?q2
            case h2 =>
              simp -implicitDefEqProofs only [ZZ, seval, h2, hh2, h5, h7, hq2, hgt, c0', c1']
              rfl
            case q2 => exact ⟨(nd ns c).up, y, f, by simp only [EV, seval, h2], by simp only [EV, seval, hh2], (by simp only [EV, seval]), by simp only [EV, seval, h7], by simp only [EV, seval, h23], by simp only [EV, seval, h24], by simp only [EV, seval, h25], by rw [hb]; simp only [lcaF, if_neg hcy, if_pos hgt], ⟨u0, by omega⟩, ⟨y0', y1'⟩, by omega, rfl⟩
          · obtain ⟨u0, u1⟩ := hu y (by omega) y1'
            refine go_on (st' := ?s3) ?h3 (f) (by omega) ?q3
            case h3 =>
              simp -implicitDefEqProofs only [ZZ, seval, h2, hh2, h5, h7, hq2, hgt, y0', y1']
              rfl
            case q3 => exact ⟨c, (nd ns y).up, f, by simp only [EV, seval, h2], by simp only [EV, seval, hh2], by simp only [EV, seval, h5], (by simp only [EV, seval]), by simp only [EV, seval, h23], by simp only [EV, seval, h24], by simp only [EV, seval, h25], by rw [hb]; simp only [lcaF, if_neg hcy, if_neg hgt], ⟨c0', c1'⟩, ⟨u0, by omega⟩, by omega, rfl⟩
      case start2 => exact ⟨c0, it r k, _, by simp only [EV, seval, h2], by simp only [EV, seval, hh2], by simp only [EV, seval, h5], (by simp only [EV, seval]), by simp only [EV, seval, h23], by simp only [EV, seval, h24], by simp only [EV, seval, h25], rfl, hc, ⟨y0, y1⟩, Nat.le_refl _, rfl⟩
      case rest2 =>
        rintro e st ⟨rfl, h2, hh2, h5, h23, h24, h25⟩
        refine go_onX (st' := ?s99) ?h99 (r.length - (k + 1)).toNat (by omega) ?q99
        case h99 =>
          simp -implicitDefEqProofs only [ZZ, seval, h25, hw]
          rfl
        case q99 => exact ⟨k + 1, by simp only [EV, seval, h2], by simp only [EV, seval, hh2], by rw [hnext]; simp only [EV, seval, h5], by rw [hnext]; exact hlr, by simp only [EV, seval, h23], by simp only [EV, seval, h24], (by simp only [EV, seval]), by omega, by omega, rfl⟩
    · have ht : r.take k.toNat = r := List.take_of_length_le (by omega)
      refine go_out (e := .exit 0) (st' := ?s4) ?h4 (by simp) ?q4
      case h4 =>
        simp -implicitDefEqProofs only [ZZ, seval, h24, h25, hlt]
        rfl
      case q4 => exact ⟨rfl, by rw [ht] at h5; simp only [EV, seval, h5]⟩
  case start => exact ⟨0, (by simp only [EV, seval]), (by simp only [EV, seval]), (by simp only [EV, seval]; rfl), ⟨f0, f1⟩, (by simp only [EV, seval]), (by simp only [EV, seval]), (by simp only [EV, seval]), by omega, by omega, by omega⟩
  case rest =>
    rintro e st ⟨rfl, h5⟩
    simp -implicitDefEqProofs only [ZZ, seval, h5]
    exact endL_tmp (keep_none (by decide)) (.inl rfl) rfl (by simp only [EV, seval]) (.v _)
end Go.Ab.Try
end
section
set_option linter.unusedSimpArgs false
set_option linter.unusedVariables false
set_option maxRecDepth 20000
set_option maxHeartbeats 4000000
namespace Go.Ab.Try
open Classical Go.Proofs Go.Ab
theorem ev_bs22_2 {call : Nat → List AV → Option AV} {ops : Array Oper} {st : St} {T : Nat} {pos : String} {aft : Array Edge} (d : Nat) (x y : Operand) {a b : Int} (h1 : st.ev x = .v (.int .i64 a)) (h2 : st.ev y = .v (.int .i64 b)) : evOp Try.prog call ops ⟨some d, .buildSlice 22 2 #[(0, x), (1, y)], T, pos, aft, none⟩ st =
    some ((st.new d (.row 3 1 2 (csInt [a, b]))).put (some d) (.own d (st.cnt d))) := by
  rw [ev_buildSlice]
  simp [sl22, ze3, bnd, h1, h2, AV.stor, Value.oneCell', fillA, AV.cells, List.range, List.range.loop, csInt, cInt]
theorem ev_bs22_2E {call : Nat → List AV → Option AV} {ops : Array Oper} {st : St} {T : Nat} {pos : String} {aft : Array Edge} (d : Nat) (x y : Operand) : evOp Try.prog call ops ⟨some d, .buildSlice 22 2 #[(0, x), (1, y)], T, pos, aft, none⟩ st =
    elI (st.ev x) (fun a => elI (st.ev y) (fun b => some ((st.new d (.row 3 1 2 (csInt [a, b]))).put (some d) (.own d (st.cnt d)))) (evOp Try.prog call ops ⟨some d, .buildSlice 22 2 #[(0, x), (1, y)], T, pos, aft, none⟩ st))
      (evOp Try.prog call ops ⟨some d, .buildSlice 22 2 #[(0, x), (1, y)], T, pos, aft, none⟩ st) := by
  unfold elI
  split
  · rename_i a h1
    try dsimp only
    split
    · rename_i b h2; exact ev_bs22_2 d x y h1 h2
    · rfl
  · rfl
theorem q51 (args : List AV) (st : St) (d : Option Nat) : callFn (callL Try.prog) 51 args st d = callQ (callL Try.prog) 51 (optAll (args.map (expo st))) (decide (∀ x ∈ args, Flat x)) st d := callFn_Q _ _ _ _ _
theorem expoF_one (e sz : Nat) (x : Int) : expoF (some (.row e sz 1 [.v (.int .i64 x)])) = some (.sl 1 (csInt [x])) := expoF_int e sz 1 [x]
theorem k51_2 (ns : List Node) (hu : UpOk ns) {x y : Int} (x0 : 0 ≤ x) (x1 : x < ns.length) (y0 : 0 ≤ y) (y1 : y < ns.length) (fl : Bool) (st : St) (d : Option Nat) : callQ (callL Try.prog) 51 (some [.agg (cTree ⟨ns⟩), .sl 2 (csInt [x, y])]) fl st d = some { dst := d, val := .v (.int .i64 (lca ns x y)) } :=
  Q_int (c51 ns hu [x, y] (by simp) (by simp) (by intro z hz; simp at hz; rcases hz with rfl | rfl <;> exact ⟨by assumption, by assumption⟩))
theorem k51_1 (ns : List Node) (hu : UpOk ns) {x : Int} (x0 : 0 ≤ x) (x1 : x < ns.length) (fl : Bool) (st : St) (d : Option Nat) : callQ (callL Try.prog) 51 (some [.agg (cTree ⟨ns⟩), .sl 1 (csInt [x])]) fl st d = some { dst := d, val := .v (.int .i64 x) } :=
  Q_int (c51 ns hu [x] (by simp) (by simp) (by intro z hz; simp at hz; subst hz; exact ⟨x0, x1⟩))
theorem anc_anti {ns : List Node} (hu : UpOk ns) {x y : Int} (h : anc ns x y = true) (h' : anc ns y x = true) : x = y := by
  have := anc_le hu h
  have := anc_le hu h'
  omega
theorem anc_trans {ns : List Node} (hu : UpOk ns) : ∀ (k : Nat) (x y z : Int), z.toNat = k → anc ns x y = true → anc ns y z = true → anc ns x z = true := by
  intro k
  induction k using Nat.strongRecOn with
  | _ k ih =>
    intro x y z hk hxy hyz
    obtain ⟨⟨y0, y1⟩, z0, z1⟩ := anc_in hu hyz
    have x0 := (anc_in hu hxy).1.1
    by_cases h : y = z
    · rw [← h]; exact hxy
    · have h1 := anc_le hu hxy
      have h2 := anc_le hu hyz
      obtain ⟨u0, u1⟩ := hu z (by omega) z1
      rw [anc_up hu z1 (by omega) x0]
      exact ih (nd ns z).up.toNat (by omega) x y _ rfl hxy (by rw [← anc_up hu z1 (by omega) y0]; exact hyz)
/-- AncestryMeets -/
theorem c12 (l : List Int) (i j : Int) (hl : (l.length : Int) ≤ 9223372036854775807) : callL Try.prog 12 [.sl l.length (csInt l), .v (.int .i64 i), .v (.int .i64 j)] = some (.v (.bool true)) := by
  rw [callL_eq Try.prog Try.func12 rfl ok12 _ (ext_none _ (by decide)) rfl]
  have g := (c30 l hl).2
  have k0 := k30 l hl
  generalize treeOf l = ns at g k0
  have g9 := g.len9
  have g0 := g.len0
  have hn : (ns.length : Int) < 1000000 := by omega
  have hne : ((ns.length : Int) = 0) = False := eq_false (by omega)
  have h45 := k42 ns g.up
  have h46 := k43 ns g.up
  obtain ⟨b1, b2⟩ := and_bound i 65535 (by decide)
  have hm := tmod_bound (n := (ns.length : Int)) b1 (by omega)
  obtain ⟨x, hx, x0, x1⟩ : ∃ x, (IntKind.i64.wrap ↑(BitVec.ofInt IntKind.i64.bits i &&& BitVec.ofInt IntKind.i64.bits 65535).toNat).tmod (ns.length : Int) = x ∧ 0 ≤ x ∧ x < ns.length := ⟨_, rfl, hm.1, hm.2⟩
  obtain ⟨c1, c2⟩ := and_bound j 65535 (by decide)
  have hm' := tmod_bound (n := (ns.length : Int)) c1 (by omega)
  obtain ⟨y, hy, y0, y1⟩ : ∃ y, (IntKind.i64.wrap ↑(BitVec.ofInt IntKind.i64.bits j &&& BitVec.ofInt IntKind.i64.bits 65535).toNat).tmod (ns.length : Int) = y ∧ 0 ≤ y ∧ y < ns.length := ⟨_, rfl, hm'.1, hm'.2⟩
  have hxy := k51_2 ns g.up x0 x1 y0 y1
  have hyx := k51_2 ns g.up y0 y1 x0 x1
  have hxx := k51_1 ns g.up x0 x1
  obtain ⟨f1, f2, f3⟩ := lca_fact g.up x0 x1 y0 y1
  obtain ⟨e1, e2, e3⟩ := lca_fact g.up y0 y1 x0 x1
  have hsym : lca ns y x = lca ns x y := anc_anti g.up (f3 _ e2 e1) (e3 _ f2 f1)
  rw [hsym] at hyx
  generalize lca ns x y = c at hxy hyx f1 f2 f3
  have nc : ¬ c < 0 := by have := (anc_in g.up f1).1.1; omega
  have n1 := heir_neg g f1
  have n2 := heir_neg g f2
  have hs1 : (c != c) = false := bne_self_eq_false c
  have hs2 : (x != x) = false := bne_self_eq_false x
  by_cases hcx : c = x
  · have m1 : heirV ns c x < 0 := n1.2 hcx
    have m1' : ¬ 0 ≤ heirV ns c x := by omega
    have q1 : (c == x) = true := by simp [hcx]
    by_cases hcy : c = y
    · have m2 : heirV ns c y < 0 := n2.2 hcy
      have q2 : (c == y) = true := by simp [hcy]
      simp -implicitDefEqProofs only [ZZ, seval, k0, hne, hx, hy, ev_bs22_2E, expoF_one, q51, hxy, hyx, hxx, nc, h45, h46, f1, f2, hs1, hs2, m1, m1', m2, q1, q2, k41, bne_self_eq_false, Bool.true_beq, Bool.false_beq, beq_self_eq_true]
      exact endL_tmp (keep_none (by decide)) (.inl rfl) rfl (by simp only [EV, seval] <;> rfl) (.v _)
    · have m2 : ¬ heirV ns c y < 0 := fun h => hcy (n2.1 h)
      have q2 : (c == y) = false := by simp [hcy]
      simp -implicitDefEqProofs only [ZZ, seval, k0, hne, hx, hy, ev_bs22_2E, expoF_one, q51, hxy, hyx, hxx, nc, h45, h46, f1, f2, hs1, hs2, m1, m1', m2, q1, q2, k41, bne_self_eq_false, Bool.true_beq, Bool.false_beq, beq_self_eq_true]
      exact endL_tmp (keep_none (by decide)) (.inl rfl) rfl (by simp only [EV, seval] <;> rfl) (.v _)
  · have m1 : ¬ heirV ns c x < 0 := fun h => hcx (n1.1 h)
    have m1' : 0 ≤ heirV ns c x := by omega
    have q1 : (c == x) = false := by simp [hcx]
    obtain ⟨p1, p2, p3⟩ := heir_pos g f1 hcx
    have hin := (anc_in g.up p2).1
    have v0 := hin.1
    have v1 : ¬ (ns.length : Int) ≤ heirV ns c x := by omega
    have v2 := hin.2
    have q3 : ((nd ns (heirV ns c x)).up != c) = false := by simp [p1]
    by_cases hcy : c = y
    · have m2 : heirV ns c y < 0 := n2.2 hcy
      have q2 : (c == y) = true := by simp [hcy]
      have q4 : (heirV ns c x == heirV ns c y) = false := by rw [beq_eq_false_iff_ne]; omega
      simp -implicitDefEqProofs only [ZZ, seval, k0, hne, hx, hy, ev_bs22_2E, expoF_one, q51, hxy, hyx, hxx, nc, h45, h46, f1, f2, hs1, hs2, m1, m1', m2, q1, q2, q3, q4, v0, v1, v2, p2, k41, bne_self_eq_false, Bool.true_beq, Bool.false_beq, beq_self_eq_true]
      exact endL_tmp (keep_none (by decide)) (.inl rfl) rfl (by simp only [EV, seval] <;> rfl) (.v _)
    · have m2 : ¬ heirV ns c y < 0 := fun h => hcy (n2.1 h)
      have q2 : (c == y) = false := by simp [hcy]
      have q4 : (heirV ns c x == heirV ns c y) = false := by
        rw [beq_eq_false_iff_ne]
        intro h
        obtain ⟨r1, r2, r3⟩ := heir_pos g f2 hcy
        rw [← h] at r2
        have := anc_le g.up (f3 _ p2 r2)
        omega
      simp -implicitDefEqProofs only [ZZ, seval, k0, hne, hx, hy, ev_bs22_2E, expoF_one, q51, hxy, hyx, hxx, nc, h45, h46, f1, f2, hs1, hs2, m1, m1', m2, q1, q2, q3, q4, v0, v1, v2, p2, k41, bne_self_eq_false, Bool.true_beq, Bool.false_beq, beq_self_eq_true]
      exact endL_tmp (keep_none (by decide)) (.inl rfl) rfl (by simp only [EV, seval] <;> rfl) (.v _)
end Go.Ab.Try
end
section
set_option linter.unusedSimpArgs false
set_option linter.unusedVariables false
set_option maxRecDepth 20000
set_option maxHeartbeats 4000000
namespace Go.Ab.Try
open Classical Go.Proofs Go.Ab
def csB (l : List Bool) : List AV := l.map fun b => .v (.bool b)
theorem len_csB (l : List Bool) : (csB l).length = l.length := by simp [csB]
theorem get_csB {l : List Bool} {i : Int} (h1 : i.toNat < l.length) : (csB l)[i.toNat]? = some (.v (.bool (l.getD i.toNat false))) := by
  simp [csB, h1]
theorem up_csB {l : List Bool} {i : Nat} (h1 : i < l.length) : upd (csB l) i [.v (.bool true)] (i + 1) = csB (l.set i true) := by
  unfold upd csB
  rw [List.set_eq_take_append_cons_drop, if_pos h1]
  simp
theorem idx93_own (st : St) (s g : Nat) (k : IntKind) (i : Int) : indexAddrA Try.prog st 93 (.own s g) (.v (.int k i)) = ioE 4 1 (st.heap s g) s g i := by
  simp only [indexAddrA, na93, sl93, ioE]
  cases st.heap s g with
  | none => rfl
  | some o => cases o <;> rfl
theorem ioE_b (l : List Bool) (n s g : Nat) (i : Int) (h0 : 0 ≤ i) (h1 : i < n) : ioE 4 1 (some (.row 4 1 n (csB l))) s g i = some (.ptr s g i.toNat) := by simp [ioE, h0, h1]
theorem mk_b (n : Nat) : ((List.range n).flatMap fun _ => [AV.v (.bool false)]) = csB (List.replicate n false) := by
  unfold csB
  rw [List.map_replicate]
  induction n with
  | zero => rfl
  | succ n ih => rw [List.range_succ, List.flatMap_append, ih, List.replicate_succ']; rfl
/-- The descendants among the first k. -/
def dsc (ns : List Node) (i : Int) : Nat → List Int
  | 0 => []
  | k + 1 => if anc ns i k = true then dsc ns i k ++ [(k : Int)] else dsc ns i k
theorem dsc_len (ns : List Node) (i : Int) : ∀ k, (dsc ns i k).length ≤ k
  | 0 => Nat.le_refl _
  | k + 1 => by
    have := dsc_len ns i k
    simp only [dsc]
    split
    · simp; omega
    · omega
theorem anc_ne {ns : List Node} (hu : UpOk ns) {i k : Int} (k0 : 0 < k) (k1 : k < ns.length) (h : k ≠ i) : anc ns i k = anc ns i (nd ns k).up := by
  unfold anc
  rw [decide_eq_decide, path_step hu k0 k1]
  simp only [List.mem_append, List.mem_singleton]
  constructor
  · rintro (hm | rfl)
    · exact hm
    · exact absurd rfl h
  · exact .inl
theorem dsc_ne {ns : List Node} (hu : UpOk ns) {i : Int} (i0 : 0 ≤ i) (i1 : i < ns.length) : ∀ k : Nat, i < k → dsc ns i k ≠ []
  | 0, h => by omega
  | k + 1, h => by
    simp only [dsc]
    by_cases hk : i = k
    · rw [if_pos (by unfold anc; rw [← hk]; exact decide_eq_true (path_self hu i0 i1))]; simp
    · have := dsc_ne hu i0 i1 k (by omega)
      split
      · simp
      · exact this
/-- ancestry.Descendants -/
theorem c47 (ns : List Node) (hu : UpOk ns) (hr : (nd ns 0).up = -1) (hn : (ns.length : Int) < 1000000) (i : Int) (i0 : 0 ≤ i) (i1 : i < ns.length) : callL Try.prog 47 [.agg (cTree ⟨ns⟩), .v (.int .i64 i)] = some (.uniq 3 1 (dsc ns i ns.length).length (csInt (dsc ns i ns.length))) := by
  rw [callL_eq Try.prog Try.func47 rfl ok47 _ (ext_none _ (by decide)) rfl]
  have hd : (decide (0 ≤ i) && decide (i < ns.length)) = true := by simp [i0, i1]
  have hmax : (ns.length : Int) ≤ maxLen := by unfold maxLen; omega
  have hb1 : (ns.length : Int) * 1 ≤ 140737488355328 := by omega
  have hnn : (0 : Int) ≤ (ns.length : Int) := by omega
  simp -implicitDefEqProofs only [ZZ, seval, k88, hd, hmax, hb1, hnn, mk_b, Int.toNat_natCast]
  refine use_loop (fun n st => ∃ (k : Nat) (fl : List Bool), st.env 1 = .v (.int .i64 i) ∧ st.env 5 = .own 16 0 ∧ st.heap 16 0 = some (.row 4 1 ns.length (csB fl)) ∧ st.env 18 = .sl ns.length (csNode ns) ∧ st.env 19 = .v (.int .i64 ns.length) ∧ st.env 20 = .v (.int .i64 k) ∧
      ((dsc ns i k = [] ∧ st.env 6 = .v (.slice none 0 0)) ∨ ∃ g, st.env 6 = .own 46 g ∧ g < st.cnt 46 ∧ st.heap 46 g = some (.row 3 1 (dsc ns i k).length (csInt (dsc ns i k)))) ∧
      fl.length = ns.length ∧ (∀ j : Nat, fl.getD j false = (decide (j < k) && anc ns i j)) ∧ k ≤ ns.length ∧ n = ns.length - k)
    (fun e st => e = .exit 0 ∧ ∃ g, st.env 6 = .own 46 g ∧ st.heap 46 g = some (.row 3 1 (dsc ns i ns.length).length (csInt (dsc ns i ns.length)))) ns.length ?step ?start ?rest
  case step =>
    rintro n st ⟨k, fl, h1, h5, hh5, h18, h19, h20, h6, hfl, hb, hk, hn'⟩
    have hdl := dsc_len ns i k
    have hdl' : ((dsc ns i k).length : Int) < 1000000 := by omega
    by_cases hlt : (k : Int) < ns.length
    · have hw : IntKind.i64.wrap ((k : Int) + 1) = ((k + 1 : Nat) : Int) := by rw [w64 _ (by omega) (by omega)]; omega
      have k0 : (0 : Int) ≤ k := by omega
      have hkf : (k : Int).toNat < fl.length := by omega
      have hle : k + 1 ≤ fl.length := by omega
      have hkf' : k < fl.length := by omega
      have hb' : anc ns i k = true → ∀ j : Nat, (fl.set k true).getD j false = (decide (j < k + 1) && anc ns i j) := by
        intro ha j
        by_cases h : j = k
        · subst h; simp [hkf', ha]
        · have h2 : decide (j < k) = decide (j < k + 1) := by rw [decide_eq_decide]; omega
          have := hb j
          rw [h2] at this
          rw [← this]
          simp [List.getElem?_set_ne (Ne.symm h)]
      have hb2 : anc ns i k = false → ∀ j : Nat, fl.getD j false = (decide (j < k + 1) && anc ns i j) := by
        intro ha j
        by_cases h : j = k
        · subst h; rw [hb j, ha]; simp
        · have h2 : decide (j < k) = decide (j < k + 1) := by rw [decide_eq_decide]; omega
          rw [hb j, h2]
      by_cases hki : (k : Int) = i
      · have hq : ((k : Int) == i) = true := by simp [hki]
        have ha : anc ns i k = true := by rw [hki]; unfold anc; exact decide_eq_true (path_self hu i0 i1)
        have hs : dsc ns i (k + 1) = dsc ns i k ++ [(k : Int)] := by simp only [dsc, ha, if_true]
        rcases h6 with ⟨hy, h6⟩ | ⟨g, h6, hg, hh6⟩
        · rw [hy] at hs
          refine go_on (st' := ?s1) ?h1 (ns.length - (k + 1)) (by omega) ?q1
          case h1 =>
            simp -implicitDefEqProofs only [ZZ, seval, h1, h5, hh5, h18, h19, h20, h6, hlt, k0, hw, hq, idx93_own, ioE_b, up_csB hkf', len_csB, hle, Int.toNat_natCast]
            rfl
          case q1 => exact ⟨k + 1, fl.set k true, by simp only [EV, seval, h1], by simp only [EV, seval, h5], (by simp only [EV, seval] <;> rfl), by simp only [EV, seval, h18], by simp only [EV, seval, h19], (by simp only [EV, seval]), .inr ⟨_, by simp only [EV, seval] <;> rfl, (by simp only [EV, seval] <;> omega), (by rw [hs]; simp only [EV, seval] <;> rfl)⟩, by simp [hfl], hb' ha, by omega, rfl⟩
        · refine go_on (st' := ?s2) ?h2 (ns.length - (k + 1)) (by omega) ?q2
          case h2 =>
            simp -implicitDefEqProofs only [ZZ, seval, h1, h5, hh5, h18, h19, h20, h6, hh6, hdl', hlt, k0, hw, hq, idx93_own, ioE_b, up_csB hkf', len_csB, hle, Int.toNat_natCast]
            rfl
          case q2 => exact ⟨k + 1, fl.set k true, by simp only [EV, seval, h1], by simp only [EV, seval, h5], (by simp only [EV, seval] <;> rfl), by simp only [EV, seval, h18], by simp only [EV, seval, h19], (by simp only [EV, seval]), .inr ⟨_, by simp only [EV, seval] <;> rfl, (by simp only [EV, seval] <;> omega), (by rw [hs]; simp only [EV, seval] <;> rfl)⟩, by simp [hfl], hb' ha, by omega, rfl⟩
      · have hq : ((k : Int) == i) = false := by simp [hki]
        by_cases hk0 : k = 0
        · have hup : ¬ 0 ≤ (nd ns k).up := by rw [hk0]; show ¬ 0 ≤ (nd ns 0).up; omega
          have ha : anc ns i k = false := by
            rw [← Bool.not_eq_true]
            intro h
            have := anc_le hu h
            omega
          have hs : dsc ns i (k + 1) = dsc ns i k := by simp only [dsc, ha, Bool.false_eq_true, if_false]
          rcases h6 with ⟨hy, h6⟩ | ⟨g, h6, hg, hh6⟩
          · refine go_on (st' := ?s3) ?h3 (ns.length - (k + 1)) (by omega) ?q3
            case h3 =>
              simp -implicitDefEqProofs only [ZZ, seval, h1, h5, hh5, h18, h19, h20, h6, hlt, k0, hw, hq, hup]
              rfl
            case q3 => exact ⟨k + 1, fl, by simp only [EV, seval, h1], by simp only [EV, seval, h5], by simp only [EV, seval, hh5], by simp only [EV, seval, h18], by simp only [EV, seval, h19], (by simp only [EV, seval]), .inl ⟨by rw [hs]; exact hy, by simp only [EV, seval, h6]⟩, hfl, hb2 ha, by omega, rfl⟩
          · refine go_on (st' := ?s4) ?h4 (ns.length - (k + 1)) (by omega) ?q4
            case h4 =>
              simp -implicitDefEqProofs only [ZZ, seval, h1, h5, hh5, h18, h19, h20, h6, hh6, hlt, k0, hw, hq, hup]
              rfl
            case q4 => exact ⟨k + 1, fl, by simp only [EV, seval, h1], by simp only [EV, seval, h5], by simp only [EV, seval, hh5], by simp only [EV, seval, h18], by simp only [EV, seval, h19], (by simp only [EV, seval]), .inr ⟨g, by simp only [EV, seval, h6], (by simp only [EV, seval] <;> omega), (by rw [hs]; simp only [EV, seval, hh6])⟩, hfl, hb2 ha, by omega, rfl⟩
        · obtain ⟨u0, u1⟩ := hu k (by omega) hlt
          have u1' : (nd ns k).up < ns.length := by omega
          have hul : (nd ns k).up.toNat < fl.length := by omega
          have hfa : fl.getD (nd ns k).up.toNat false = anc ns i k := by
            rw [hb, anc_ne hu (by omega) hlt hki]
            have : decide ((nd ns k).up.toNat < k) = true := decide_eq_true (by omega)
            rw [this, Bool.true_and, Int.toNat_of_nonneg u0]
          cases ha : anc ns i k
          · have hfv : fl.getD (nd ns k).up.toNat false = false := hfa.trans ha
            have hs : dsc ns i (k + 1) = dsc ns i k := by simp only [dsc, ha, Bool.false_eq_true, if_false]
            rcases h6 with ⟨hy, h6⟩ | ⟨g, h6, hg, hh6⟩
            · refine go_on (st' := ?s5) ?h5 (ns.length - (k + 1)) (by omega) ?q5
              case h5 =>
                simp -implicitDefEqProofs only [ZZ, seval, h6, h1, h5, hh5, h18, h19, h20, hlt, k0, hw, hq, idx93_own, ioE_b, len_csB, Int.toNat_natCast, u0, u1', hul, get_csB, hfv]
                rfl
              case q5 => exact ⟨k + 1, fl, by simp only [EV, seval, h1], by simp only [EV, seval, h5], by simp only [EV, seval, hh5], by simp only [EV, seval, h18], by simp only [EV, seval, h19], (by simp only [EV, seval]), .inl ⟨by rw [hs]; exact hy, by simp only [EV, seval, h6]⟩, hfl, hb2 ha, by omega, rfl⟩
            · refine go_on (st' := ?s6) ?h6 (ns.length - (k + 1)) (by omega) ?q6
              case h6 =>
                simp -implicitDefEqProofs only [ZZ, seval, h6, hh6, h1, h5, hh5, h18, h19, h20, hlt, k0, hw, hq, idx93_own, ioE_b, len_csB, Int.toNat_natCast, u0, u1', hul, get_csB, hfv]
                rfl
              case q6 => exact ⟨k + 1, fl, by simp only [EV, seval, h1], by simp only [EV, seval, h5], by simp only [EV, seval, hh5], by simp only [EV, seval, h18], by simp only [EV, seval, h19], (by simp only [EV, seval]), .inr ⟨g, by simp only [EV, seval, h6], (by simp only [EV, seval] <;> omega), (by rw [hs]; simp only [EV, seval, hh6])⟩, hfl, hb2 ha, by omega, rfl⟩
          · have hfv : fl.getD (nd ns k).up.toNat false = true := hfa.trans ha
            have hs : dsc ns i (k + 1) = dsc ns i k ++ [(k : Int)] := by simp only [dsc, ha, if_true]
            rcases h6 with ⟨hy, h6⟩ | ⟨g, h6, hg, hh6⟩
            · rw [hy] at hs
              refine go_on (st' := ?s7) ?h7 (ns.length - (k + 1)) (by omega) ?q7
              case h7 =>
                simp -implicitDefEqProofs only [ZZ, seval, h6, h1, h5, hh5, h18, h19, h20, hlt, k0, hw, hq, idx93_own, ioE_b, up_csB hkf', len_csB, hle, Int.toNat_natCast, u0, u1', hul, get_csB, hfv]
                rfl
              case q7 => exact ⟨k + 1, fl.set k true, by simp only [EV, seval, h1], by simp only [EV, seval, h5], (by simp only [EV, seval] <;> rfl), by simp only [EV, seval, h18], by simp only [EV, seval, h19], (by simp only [EV, seval]), .inr ⟨_, by simp only [EV, seval] <;> rfl, (by simp only [EV, seval] <;> omega), (by rw [hs]; simp only [EV, seval] <;> rfl)⟩, by simp [hfl], hb' ha, by omega, rfl⟩
            · refine go_on (st' := ?s8) ?h8 (ns.length - (k + 1)) (by omega) ?q8
              case h8 =>
                simp -implicitDefEqProofs only [ZZ, seval, h6, hh6, hdl', h1, h5, hh5, h18, h19, h20, hlt, k0, hw, hq, idx93_own, ioE_b, up_csB hkf', len_csB, hle, Int.toNat_natCast, u0, u1', hul, get_csB, hfv]
                rfl
              case q8 => exact ⟨k + 1, fl.set k true, by simp only [EV, seval, h1], by simp only [EV, seval, h5], (by simp only [EV, seval] <;> rfl), by simp only [EV, seval, h18], by simp only [EV, seval, h19], (by simp only [EV, seval]), .inr ⟨_, by simp only [EV, seval] <;> rfl, (by simp only [EV, seval] <;> omega), (by rw [hs]; simp only [EV, seval] <;> rfl)⟩, by simp [hfl], hb' ha, by omega, rfl⟩
    · obtain rfl : k = ns.length := by omega
      rcases h6 with ⟨hy, h6⟩ | ⟨g, h6, hg, hh6⟩
      · exact absurd hy (dsc_ne hu i0 i1 _ i1)
      · refine go_out (e := .exit 0) (st' := ?s9) ?h9 (by simp) ?q9
        case h9 =>
          simp -implicitDefEqProofs only [ZZ, seval, h19, h20, hlt]
          rfl
        case q9 => exact ⟨rfl, g, by simp only [EV, seval, h6], by simp only [EV, seval, hh6]⟩
  case start => exact ⟨0, List.replicate ns.length false, (by simp only [EV, seval]), (by simp only [EV, seval]), (by simp only [EV, seval]), (by simp only [EV, seval]), (by simp only [EV, seval]), (by simp only [EV, seval]), .inl ⟨rfl, (by simp only [EV, seval])⟩, by simp, fun j => by simp [List.getElem?_replicate]; split <;> rfl, by omega, rfl⟩
  case rest =>
    rintro e st ⟨rfl, g, h6, hh6⟩
    simp -implicitDefEqProofs only [ZZ, seval, h6, hh6]
    exact endL_row (keep_none (by decide)) (.inl rfl) rfl (by simp only [EV, seval]; rfl) (by simp only [EV, seval, hh6]) (flat_csInt _)
end Go.Ab.Try
end
