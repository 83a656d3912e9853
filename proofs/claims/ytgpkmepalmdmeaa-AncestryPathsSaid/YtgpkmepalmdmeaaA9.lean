/-
  Part A9 of the proof: what the functions of the ancestry compute.
-/
import Derived.Test.YtgpkmepalmdmeaaA8
set_option linter.all false
set_option linter.unusedSimpArgs false
set_option linter.unusedVariables false
set_option maxRecDepth 20000
set_option maxHeartbeats 4000000
namespace Go.Ab.Try
open Classical Go.Proofs Go.Ab
def lcaF (ns : List Node) : Nat → Int → Int → Int
  | 0, x, _ => x
  | f + 1, x, y => if x = y then x else if y < x then lcaF ns f (nd ns x).up y else lcaF ns f x (nd ns y).up
/-- The nearest common ancestor. -/
def lca (ns : List Node) (x y : Int) : Int := lcaF ns (x.toNat + y.toNat) x y
theorem lcaF_fact {ns : List Node} (hu : UpOk ns) : ∀ (f : Nat) (x y : Int), 0 ≤ x → x < ns.length → 0 ≤ y → y < ns.length → x.toNat + y.toNat ≤ f →
    anc ns (lcaF ns f x y) x = true ∧ anc ns (lcaF ns f x y) y = true ∧ ∀ z, anc ns z x = true → anc ns z y = true → anc ns z (lcaF ns f x y) = true
  | 0, x, y, x0, x1, y0, y1, hf => by
    obtain rfl : x = y := by omega
    have := decide_eq_true (path_self hu x0 x1)
    exact ⟨this, this, fun z hz _ => hz⟩
  | f + 1, x, y, x0, x1, y0, y1, hf => by
    simp only [lcaF]
    by_cases hxy : x = y
    · subst hxy
      rw [if_pos rfl]
      have := decide_eq_true (path_self hu x0 x1)
      exact ⟨this, this, fun z hz _ => hz⟩
    · rw [if_neg hxy]
      by_cases hlt : y < x
      · rw [if_pos hlt]
        obtain ⟨u0, u1⟩ := hu x (by omega) x1
        obtain ⟨h1, h2, h3⟩ := lcaF_fact hu f (nd ns x).up y u0 (by omega) y0 y1 (by omega)
        have := anc_le hu h1
        refine ⟨by rw [anc_up hu x1 (by omega) (anc_in hu h1).1.1]; exact h1, h2, fun z hz hz' => h3 z ?_ hz'⟩
        have := anc_le hu hz'
        rw [← anc_up hu x1 (by omega) (anc_in hu hz).1.1]; exact hz
      · rw [if_neg hlt]
        obtain ⟨u0, u1⟩ := hu y (by omega) y1
        obtain ⟨h1, h2, h3⟩ := lcaF_fact hu f x (nd ns y).up x0 x1 u0 (by omega) (by omega)
        have := anc_le hu h2
        refine ⟨h1, by rw [anc_up hu y1 (by omega) (anc_in hu h2).1.1]; exact h2, fun z hz hz' => h3 z hz ?_⟩
        have := anc_le hu hz
        rw [← anc_up hu y1 (by omega) (anc_in hu hz').1.1]; exact hz'
theorem lca_fact {ns : List Node} (hu : UpOk ns) {x y : Int} (x0 : 0 ≤ x) (x1 : x < ns.length) (y0 : 0 ≤ y) (y1 : y < ns.length) :
    anc ns (lca ns x y) x = true ∧ anc ns (lca ns x y) y = true ∧ ∀ z, anc ns z x = true → anc ns z y = true → anc ns z (lca ns x y) = true := lcaF_fact hu _ x y x0 x1 y0 y1 (Nat.le_refl _)
theorem use_loopN {P : Program} {b : Code} {st : St} {k : Ex × St → Option (Ex × St)} {R : Ex → St → Prop} (Inv : Nat → St → Prop) (Q : Ex → St → Prop) (n : Nat)
    (step : ∀ n st, Inv n st → ∃ e st', evL P b st = some (e, st') ∧ ((e = .normal ∧ ∃ m, m < n ∧ Inv m st') ∨ (e ≠ .normal ∧ Q e st')))
    (start : Inv n st) (rest : ∀ e st', Q e st' → ∃ e' st'', k (e, st') = some (e', st'') ∧ R e' st'') : ∃ e' st'', bnd (evL P (.loop b) st) k = some (e', st'') ∧ R e' st'' := by
  obtain ⟨e, s1, h1, h2, h3⟩ := loop_main Inv Q step n st start
  rw [h1]; exact rest e s1 h3
theorem go_onX {x : Option (Ex × St)} {st' : St} {n : Nat} {Inv : Nat → St → Prop} {Q : Ex → St → Prop} (h : x = some (.normal, st')) (m : Nat) (hm : m < n) (hi : Inv m st') :
    ∃ e st', x = some (e, st') ∧ ((e = .normal ∧ ∃ m, m < n ∧ Inv m st') ∨ (e ≠ .normal ∧ Q e st')) := ⟨_, _, h, .inl ⟨rfl, m, hm, hi⟩⟩
def comV (ns : List Node) (l : List Int) : Int := (l.drop 1).foldl (lca ns) (it l 0)
theorem slice22_1 {st : St} {l : List Int} {o : Operand} (h0 : 0 < l.length) (ho : st.ev o = .v (.int .i64 1)) : sliceA Try.prog st 22 (.sl l.length (csInt l)) (some o) none = some (.sl (l.drop 1).length (csInt (l.drop 1))) := by
  have e : ((csInt l).drop ((1 : Int).toNat * 1)).take (((l.length : Int) - 1).toNat * 1) = csInt (l.drop 1) := by
    rw [csInt_eq, csInt_eq, List.map_drop]
    exact List.take_of_length_le (by simp)
  simp only [sliceA, sl22, ho, len_csInt]
  rw [if_pos ⟨by omega, by omega, by omega, by simp⟩, e]
  have : ((l.length : Int) - 1).toNat = (l.drop 1).length := by simp
  rw [this]

/-- ancestry.Common, at members. -/
theorem c51 (ns : List Node) (hu : UpOk ns) (l : List Int) (hl : (l.length : Int) < 1000000) (h0 : 0 < l.length) (hv : ∀ x ∈ l, 0 ≤ x ∧ x < ns.length) : callL Try.prog 51 [.agg (cTree ⟨ns⟩), .sl l.length (csInt l)] = some (.v (.int .i64 (comV ns l))) := by
  rw [callL_eq Try.prog Try.func51 rfl ok51 _ (ext_none _ (by decide)) rfl]
  have hq : ((l.length : Int) == 0) = false := by rw [beq_eq_false_iff_ne]; omega
  have hz : (0 : Int) < l.length := by omega
  obtain ⟨f0, f1⟩ := hv _ (it_mem (Int.le_refl 0) hz)
  have hd0 : (decide (0 ≤ it l 0) && decide (it l 0 < ns.length)) = true := by simp [f0, f1]
  have hrl : ∀ x ∈ l.drop 1, 0 ≤ x ∧ x < ns.length := fun x hx => hv x (List.mem_of_mem_drop hx)
  have hrn : ((l.drop 1).length : Int) < 1000000 := by rw [List.length_drop]; omega
  simp -implicitDefEqProofs only [ZZ, seval, hq, hz, Int.le_refl, k88, hd0, slice22_1 h0]
  unfold comV
  generalize l.drop 1 = r at hrl hrn
  refine use_loop (fun n st => ∃ k : Int, st.env 2 = .ptr 2 0 0 ∧ st.heap 2 0 = some (.cells (cTree ⟨ns⟩)) ∧ st.env 5 = .v (.int .i64 ((r.take k.toNat).foldl (lca ns) (it l 0))) ∧ (0 ≤ (r.take k.toNat).foldl (lca ns) (it l 0) ∧ (r.take k.toNat).foldl (lca ns) (it l 0) < ns.length) ∧ st.env 23 = .sl r.length (csInt r) ∧ st.env 24 = .v (.int .i64 r.length) ∧ st.env 25 = .v (.int .i64 k) ∧ 0 ≤ k ∧ k ≤ r.length ∧ n = (r.length - k).toNat)
    (fun e st => e = .exit 0 ∧ st.env 5 = .v (.int .i64 (r.foldl (lca ns) (it l 0)))) r.length ?step ?start ?rest
  case step =>
    rintro n st ⟨k, h2, hh2, h5, hc, h23, h24, h25, k0, k1, hn'⟩
    by_cases hlt : k < r.length
    · have hw : IntKind.i64.wrap (k + 1) = k + 1 := w64 _ (by omega) (by omega)
      obtain ⟨y0, y1⟩ := hrl _ (it_mem k0 hlt)
      have hdy : (decide (0 ≤ it r k) && decide (it r k < ns.length)) = true := by simp [y0, y1]
      have ht := take_it k0 hlt
      generalize hcv : (r.take k.toNat).foldl (lca ns) (it l 0) = c0 at h5 hc
      have hnext : (r.take (k + 1).toNat).foldl (lca ns) (it l 0) = lca ns c0 (it r k) := by rw [ht, List.foldl_append, hcv]; rfl
      have hla := lca_fact hu hc.1 hc.2 y0 y1
      have hlr := (anc_in hu hla.1).1
      simp -implicitDefEqProofs only [ZZ, seval, h2, hh2, h5, h23, h24, h25, hlt, k0, k88, hdy, decide_true]
      refine use_loopN (fun n st => ∃ (c y : Int) (f : Nat), st.env 2 = .ptr 2 0 0 ∧ st.heap 2 0 = some (.cells (cTree ⟨ns⟩)) ∧ st.env 5 = .v (.int .i64 c) ∧ st.env 7 = .v (.int .i64 y) ∧ st.env 23 = .sl r.length (csInt r) ∧ st.env 24 = .v (.int .i64 r.length) ∧ st.env 25 = .v (.int .i64 k) ∧ lca ns c0 (it r k) = lcaF ns f c y ∧ (0 ≤ c ∧ c < ns.length) ∧ (0 ≤ y ∧ y < ns.length) ∧ c.toNat + y.toNat ≤ f ∧ f = n)
        (fun e st => e = .exit 2 ∧ st.env 2 = .ptr 2 0 0 ∧ st.heap 2 0 = some (.cells (cTree ⟨ns⟩)) ∧ st.env 5 = .v (.int .i64 (lca ns c0 (it r k))) ∧ st.env 23 = .sl r.length (csInt r) ∧ st.env 24 = .v (.int .i64 r.length) ∧ st.env 25 = .v (.int .i64 k)) (c0.toNat + (it r k).toNat) ?step2 ?start2 ?rest2
      case step2 =>
        rintro n st ⟨c, y, f, h2, hh2, h5, h7, h23, h24, h25, hb, hc', hy', hf, rfl⟩
        obtain ⟨c0', c1'⟩ := hc'
        obtain ⟨y0', y1'⟩ := hy'
        by_cases hcy : c = y
        · have hq2 : (c != y) = false := by simp [hcy]
          have hv' : lca ns c0 (it r k) = c := by rw [hb]; cases f <;> simp [lcaF, hcy]
          refine go_out (e := .exit 2) (st' := ?s1) ?h1 (by simp) ?q1
          case h1 =>
            simp -implicitDefEqProofs only [ZZ, seval, h5, h7, hq2]
            rfl
          case q1 => exact ⟨rfl, by simp only [EV, seval, h2], by simp only [EV, seval, hh2], by simp only [EV, seval, h5, hv'], by simp only [EV, seval, h23], by simp only [EV, seval, h24], by simp only [EV, seval, h25]⟩
        · have hq2 : (c != y) = true := by simp [hcy]
          obtain ⟨f, rfl⟩ : ∃ f', f = f' + 1 := ⟨f - 1, by omega⟩
          by_cases hgt : y < c
          · obtain ⟨u0, u1⟩ := hu c (by omega) c1'
            refine go_on (st' := ?s2) ?h2 (f) (by omega) ?q2
            case h2 =>
              simp -implicitDefEqProofs only [ZZ, seval, h2, hh2, h5, h7, hq2, hgt, c0', c1']
              rfl
            case q2 => exact ⟨(nd ns c).up, y, f, by simp only [EV, seval, h2], by simp only [EV, seval, hh2], (by simp only [EV, seval]), by simp only [EV, seval, h7], by simp only [EV, seval, h23], by simp only [EV, seval, h24], by simp only [EV, seval, h25], by rw [hb]; simp only [lcaF, if_neg hcy, if_pos hgt], ⟨u0, by omega⟩, ⟨y0', y1'⟩, by omega, rfl⟩
          · obtain ⟨u0, u1⟩ := hu y (by omega) y1'
            refine go_on (st' := ?s3) ?h3 (f) (by omega) ?q3
            case h3 =>
              simp -implicitDefEqProofs only [ZZ, seval, h2, hh2, h5, h7, hq2, hgt, y0', y1']
              rfl
            case q3 => exact ⟨c, (nd ns y).up, f, by simp only [EV, seval, h2], by simp only [EV, seval, hh2], by simp only [EV, seval, h5], (by simp only [EV, seval]), by simp only [EV, seval, h23], by simp only [EV, seval, h24], by simp only [EV, seval, h25], by rw [hb]; simp only [lcaF, if_neg hcy, if_neg hgt], ⟨c0', c1'⟩, ⟨u0, by omega⟩, by omega, rfl⟩
      case start2 => exact ⟨c0, it r k, _, by simp only [EV, seval, h2], by simp only [EV, seval, hh2], by simp only [EV, seval, h5], (by simp only [EV, seval]), by simp only [EV, seval, h23], by simp only [EV, seval, h24], by simp only [EV, seval, h25], rfl, hc, ⟨y0, y1⟩, Nat.le_refl _, rfl⟩
      case rest2 =>
        rintro e st ⟨rfl, h2, hh2, h5, h23, h24, h25⟩
        refine go_onX (st' := ?s99) ?h99 (r.length - (k + 1)).toNat (by omega) ?q99
        case h99 =>
          simp -implicitDefEqProofs only [ZZ, seval, h25, hw]
          rfl
        case q99 => exact ⟨k + 1, by simp only [EV, seval, h2], by simp only [EV, seval, hh2], by rw [hnext]; simp only [EV, seval, h5], by rw [hnext]; exact hlr, by simp only [EV, seval, h23], by simp only [EV, seval, h24], (by simp only [EV, seval]), by omega, by omega, rfl⟩
    · have ht : r.take k.toNat = r := List.take_of_length_le (by omega)
      refine go_out (e := .exit 0) (st' := ?s4) ?h4 (by simp) ?q4
      case h4 =>
        simp -implicitDefEqProofs only [ZZ, seval, h24, h25, hlt]
        rfl
      case q4 => exact ⟨rfl, by rw [ht] at h5; simp only [EV, seval, h5]⟩
  case start => exact ⟨0, (by simp only [EV, seval]), (by simp only [EV, seval]), (by simp only [EV, seval]; rfl), ⟨f0, f1⟩, (by simp only [EV, seval]), (by simp only [EV, seval]), (by simp only [EV, seval]), by omega, by omega, by omega⟩
  case rest =>
    rintro e st ⟨rfl, h5⟩
    simp -implicitDefEqProofs only [ZZ, seval, h5]
    exact endL_tmp (keep_none (by decide)) (.inl rfl) rfl (by simp only [EV, seval]) (.v _)
end Go.Ab.Try
