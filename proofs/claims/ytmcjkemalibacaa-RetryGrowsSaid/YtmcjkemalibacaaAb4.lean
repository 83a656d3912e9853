/-
  Part Ab4 of the proof: an evaluator of the programs written in Lean once, and its soundness.
-/
import Derived.Test.YtmcjkemalibacaaAb3
import Derived.Laws.Cover3
set_option linter.all false
namespace Go.Ab
open Classical

section
variable {P : Program} {h0 : Nat → Obj → Prop} {w0 : World} {F : Frm} {nt : Nat} {ρ : Nat → Nat → Value} {st : St} {a : Act} {w : World}

theorem Sim.ev (S : Sim F h0 w0 nt ρ st a w) (x : Operand) : RelV (ctx h0 w0 ρ st w) (st.ev x) (a.eval x) := by
  cases x with
  | tmp t => exact S.env t
  | const v => exact .v v
  | global g => exact .v _
  | func f => exact .v _

theorem relV_v {C : Ctx} {x y : Value} (h : RelV C (.v x) y) : y = x := by cases h; rfl

theorem map_v_inj (us vs : List Value) : us.map AV.v = vs.map AV.v ↔ us = vs := by
  constructor
  · intro h
    induction us generalizing vs with
    | nil => cases vs with
      | nil => rfl
      | cons v vs => simp at h
    | cons u us ih => cases vs with
      | nil => simp at h
      | cons v vs =>
        simp at h
        rw [h.1, ih vs h.2]
  · intro h; rw [h]

theorem relV_agg_vs {C : Ctx} {us : List Value} {y : Value} (h : RelV C (.agg (us.map .v)) y) : y = .agg us.toArray := by
  cases h with
  | agg cs a hl hr h1 =>
    congr 1
    apply Array.ext'
    simp only
    apply List.ext_getElem?
    intro i
    by_cases hi : i < us.length
    · have ha : i < a.size := by simpa [← hl] using hi
      have := hr i (.v us[i]) a[i] (by simp [hi]) (by simp [ha])
      have := relV_v this
      simp [hi, ha, this]
    · have ha : ¬ i < a.size := by simpa [← hl] using hi
      simp [hi, ha]

theorem run_ok_bind {α β : Type} {x : Sem α} {f : α → Sem β} {v : α} {w w' : World} (h : x.run P w = .ok v w') : (x >>= f).run P w = (f v).run P w' := by
  rw [Sem.run_bind, h]; rfl

theorem eqAgg_sound (op : BinOp) (hop : op = .eql ∨ op = .neq) {T : Nat} {xs ys : List AV} {b : Bool} {C : Ctx} {u v : Value} (X Y : Operand) (h : eqAgg P T xs ys = some b)
    (hu : RelV C (.agg xs) u) (hv : RelV C (.agg ys) v) :
    (do eqGuard op T X Y u v; binOp op T u v : Sem Value).run P w = .ok (.bool (if op = .eql then b else !b)) w := by
  unfold eqAgg at h
  cases hl : eqLeaves P 20 T with
  | none => simp [hl] at h
  | some l =>
    simp only [hl] at h
    split at h
    · rename_i hc
      obtain ⟨hagg, hg, hf⟩ := hc
      simp only [Option.some.injEq] at h
      obtain ⟨us, vs, rfl, rfl, hv'⟩ := leafy_vs _ _ _ hf
      have eu := relV_agg_vs hu
      have ev := relV_agg_vs hv
      subst eu; subst ev
      obtain ⟨k, hk⟩ := eqLeaves_underlying 20 T l hl
      have he := equalIn_sound (P := P) 20 10000 (by omega) w T l hl us vs hv'
      rw [hagg] at he
      simp only [mk, if_true] at he
      have hgd := run_eqGuard_agg (P := P) w op T X Y us.toArray vs.toArray hg
      rw [run_ok_bind hgd]
      have hd : decide (us = vs) = b := by
        rw [← h, Bool.eq_iff_iff]
        simp [map_v_inj]
      rcases hop with rfl | rfl
      · rw [run_eql_struct, he]
        simp [hd]
      · rw [run_neq_struct, he]
        simp [hd]
    · cases h

theorem nilCmp_sound {op : BinOp} {T : Nat} {b : Bool} {z : AV} {C : Ctx} {p : Option Addr} {n cap : Nat} (X Y : Operand) (h : nilCmp P op T b = some z) (hb : p.isNone = b := by rfl) :
    ∃ r, (do eqGuard op T X Y (.slice p n cap) (.slice none 0 0); binOp op T (.slice p n cap) (.slice none 0 0) : Sem Value).run P w = .ok r w ∧ RelV C z r := by
  unfold nilCmp at h
  split at h
  · rename_i e hT
    have hgd : (eqGuard op T X Y (.slice p n cap) (.slice none 0 0)).run P w = .ok () w := by
      cases op <;> simp [eqGuard]
    rw [run_ok_bind hgd]
    have he := run_equal_slice_nil (P := P) w T e p n cap hT
    rw [hb] at he
    cases op <;> simp only at h <;> (try (cases h; done)) <;> simp only [Option.some.injEq] at h <;> subst h <;> refine ⟨_, ?_, .v _⟩ <;> simp [binOp, he]
  · cases h
theorem binA_sound {op : BinOp} {T : Nat} {x y z : AV} {C : Ctx} {u v : Value} (X Y : Operand) (h : binA P op T x y = some z) (hu : RelV C x u) (hv : RelV C y v) :
    ∃ r, (do eqGuard op T X Y u v; binOp op T u v : Sem Value).run P w = .ok r w ∧ RelV C z r := by
  unfold binA at h
  split at h
  · rename_i k a k' b
    have eu := relV_v hu
    have ev := relV_v hv
    subst eu; subst ev
    have hgd : (eqGuard op T X Y (.int k a) (.int k' b)).run P w = .ok () w := by
      cases op <;> simp [eqGuard]
    rw [run_ok_bind hgd]
    cases op <;> simp only at h <;> split at h <;> (try (cases h; done)) <;> simp only [Option.some.injEq] at h <;> subst h <;> refine ⟨_, ?_, .v _⟩ <;>
      (try (rename_i hk; first | subst hk | (obtain ⟨hk, hb⟩ := hk; subst hk))) <;> simp [binOp, Op.intArith, Op.intDiv, Op.intBits, Op.intCmp, Op.shift, *]
  · rename_i a b
    have eu := relV_v hu
    have ev := relV_v hv
    subst eu; subst ev
    have hgd : (eqGuard op T X Y (.bool a) (.bool b)).run P w = .ok () w := by
      cases op <;> simp [eqGuard]
    rw [run_ok_bind hgd]
    split at h
    · rename_i hT
      cases op <;> simp only at h <;> (try (cases h; done)) <;> simp only [Option.some.injEq] at h <;> subst h <;> refine ⟨_, ?_, .v _⟩ <;> simp [binOp, run_equal_bool w T a b hT]
    · cases h
  · rename_i xs ys
    cases op <;> simp only at h <;> (try (cases h; done)) <;> cases he : eqAgg P T xs ys with
    | none => simp [he] at h
    | some b =>
      simp only [he, Option.map_some, Option.some.injEq] at h
      subst h
      first
        | exact ⟨_, eqAgg_sound (w := w) .eql (.inl rfl) X Y he hu hv, .v _⟩
        | exact ⟨_, eqAgg_sound (w := w) .neq (.inr rfl) X Y he hu hv, .v _⟩
  · rename_i n c cs
    have ev := relV_v hv
    subst ev
    cases hu with
    | sl _ _ b off cap arr T' fr hcap hb hle hh h1 => exact nilCmp_sound X Y h
  · have eu := relV_v hu
    have ev := relV_v hv
    subst eu; subst ev
    exact nilCmp_sound (p := none) X Y h
  · cases h

theorem unA_sound {op : UnOp} {x z : AV} {C : Ctx} {u : Value} (h : unA op x = some z) (hu : RelV C x u) : ∃ r, (Op.unary op u).run P w = .ok r w ∧ RelV C z r := by
  unfold unA at h
  split at h <;> (try (cases h; done)) <;> simp only [Option.some.injEq] at h <;> subst h <;> (have eu := relV_v hu; subst eu; refine ⟨_, ?_, .v _⟩) <;> simp [Op.unary, Op.intArith, Op.intBits]

theorem run_underlying' {t : Nat} {d : TypeDesc} (h : P.underlying t = some d) : (underlying t).run P w = .ok d w := by simp [underlying, h]

theorem addr_add (b off k : Nat) : (⟨b, off, none⟩ : Addr).add k = ⟨b, off + k, none⟩ := by
  unfold Addr.add
  split
  · rename_i h; subst h; rfl
  · rfl

theorem addOff_sound {x z : AV} {k : Nat} {C : Ctx} {u : Value} (h : addOff x k = some z) (hu : RelV C x u) : ∃ b off, u = .pointer (some ⟨b, off, none⟩) ∧ RelV C z (.pointer (some ⟨b, off + k, none⟩)) := by
  cases x <;> simp [addOff] at h
  · rename_i cs o
    obtain ⟨hk, rfl⟩ := h
    cases hu with
    | ip _ _ b off arr T fr hb hle hr h1 => exact ⟨b, off + o, rfl, by rw [Nat.add_assoc]; exact .ip cs (o + k) b off arr T fr hb hle hr h1⟩
  · subst h
    cases hu with
    | ptr s g off b hg hb => exact ⟨b, _, rfl, .ptr _ _ _ b hg hb⟩

theorem fieldAddr_sound {x z : AV} {T f k : Nat} {C : Ctx} {u : Value} (hf : fieldOff P T f = some k) (h : addOff x k = some z) (hu : RelV C x u) :
    ∃ r, (Instr.fieldAt T u f).run P w = .ok r w ∧ RelV C z r := by
  obtain ⟨b, off, rfl, hz⟩ := addOff_sound h hu
  unfold fieldOff at hf
  split at hf
  · rename_i fs hT
    split at hf
    · rename_i fd hfd
      split at hf
      · cases hf
      · rename_i hne
        simp only [Option.some.injEq] at hf
        subst hf
        have hi : ∃ i, P.info? fd.type = some i := by
          cases h : P.info? fd.type with
          | some i => exact ⟨i, rfl⟩
          | none => simp [Program.cellsOf, h] at hne
        obtain ⟨i, hi⟩ := hi
        rw [cellsOf_info hi] at hne
        refine ⟨_, ?_, hz⟩
        simp [Instr.fieldAt, run_underlying' hT, hfd, Instr.sureAddr, fieldPlace, run_sizeOf w hi, hne, addr_add]
    · cases hf
  · cases hf

theorem arrInfo_spec {T n sz : Nat} (h : arrInfo P T = some (n, sz)) : ∃ e i, P.underlying T = some (.array n e) ∧ P.info? e = some i ∧ i.size = sz ∧ sz ≠ 0 := by
  unfold arrInfo at h
  split at h
  · rename_i n' e hT
    split at h
    · cases h
    · rename_i hne
      simp only [Option.some.injEq, Prod.mk.injEq] at h
      obtain ⟨rfl, rfl⟩ := h
      cases hi : P.info? e with
      | none => simp [Program.cellsOf, hi] at hne
      | some i => exact ⟨e, i, hT, hi, (cellsOf_info hi).symm, hne⟩
  · cases h

theorem slInfo_spec {T e sz by_ : Nat} (h : slInfo P T = some (e, sz, by_)) : ∃ i z, P.underlying T = some (.slice e) ∧ P.info? e = some i ∧ i.zero = some z ∧ i.size = sz ∧ z.cells.size = sz ∧ i.bytes = by_ ∧ 0 < sz := by
  unfold slInfo at h
  split at h
  · rename_i e' hT
    split at h
    · rename_i i hi
      split at h
      · rename_i z hz
        split at h
        · cases h
        · rename_i hne
          simp only [Option.some.injEq, Prod.mk.injEq] at h
          obtain ⟨rfl, rfl, rfl⟩ := h
          simp only [not_or, ne_eq, Decidable.not_not] at hne
          exact ⟨i, z, hT, hi, hz, rfl, hne.2, rfl, by omega⟩
      · cases h
    · cases h
  · cases h

/-- Memory that an address may be read from: where it lies, and its cells. -/
theorem readAt_sound (S : Sim F h0 w0 nt ρ st a w) {x : AV} {cs : List AV} {u : Value} (h : readAt st x = some cs) (hu : RelV (ctx h0 w0 ρ st w) x u) :
    ∃ b off arr T fr, u = .pointer (some ⟨b, off, none⟩) ∧ w.heap[b]? = some (.cells arr T fr) ∧ CellL (ctx h0 w0 ρ st w) cs ((arr.toList.drop off).take cs.length) := by
  cases x <;> simp [readAt] at h
  · subst h
    cases hu with
    | ip cs' o' b off arr T fr hb hle hr h1 =>
      refine ⟨b, _, arr, T, fr, rfl, hb.1, ⟨by simp; omega, fun i x y hx hy => ?_, fun i y hy => ?_⟩⟩
      · have hi := (List.getElem?_eq_some_iff.1 hx).1
        rw [List.getElem?_take, if_pos hi, List.getElem?_drop] at hy
        rw [List.getElem?_drop] at hx
        exact hr _ x y hx (by rw [← Nat.add_assoc]; simpa using hy)
      · rw [List.getElem?_take] at hy
        split at hy
        · rename_i hi; rw [List.getElem?_drop] at hy
          simp only [List.length_drop] at hi
          have hy' := hy
          simp only [Array.getElem?_toList, Nat.add_assoc] at hy'
          exact h1 _ y (by omega) hy'
        · cases hy
  · rename_i s g o
    cases hu with
    | ptr s g off b hg hb =>
      cases he : st.heap s g with
      | none => simp [he] at h
      | some e =>
        obtain ⟨_, _, her⟩ := S.ent s g e he
        cases e with
        | cells es =>
          simp [he] at h; subst h
          obtain ⟨b', arr, T, hρ, _, hh, hc⟩ := her
          have hbb : b' = b := by
            have h2 : blkOf (ρ s g) = some b := hb
            rw [hρ] at h2; simpa [blkOf] using h2
          subst hbb
          refine ⟨b', o, arr, T, (0, 0), rfl, hh, ?_⟩
          have := hc.drop o
          rwa [List.take_of_length_le (by rw [this.len]; exact Nat.le_refl _)]
        | row e sz n es =>
          simp [he] at h; subst h
          obtain ⟨xs, ho, hc⟩ := her
          rcases ho.2 with ⟨p, hρ, _⟩ | ⟨b', cap, cur, hρ, _, hh, _, _, _, ht, hc0⟩
          · have h2 : blkOf (ρ s g) = some b := hb
            rw [hρ, blkOf_sl0] at h2; cases h2
          · have hbb : b' = b := by
              have h2 : blkOf (ρ s g) = some b := hb
              rw [hρ, blkOf_sl hc0] at h2; simpa using h2
            subst hbb
            refine ⟨b', o, cur, e, (0, 0), rfl, hh, ?_⟩
            have := hc.drop o
            have hl := this.len
            rw [← ht] at this
            rw [List.drop_take] at this
            have e1 : (es.drop o).length = n * sz - o := by rw [hl, List.length_drop, ho.1]
            rw [e1]
            exact this
        | map es => simp [he] at h

theorem run_loadVar (w : World) {b off : Nat} {arr : Array Value} {B : Nat} {fr : Nat × Nat} {T : Nat} {i : TypeInfo} {d : TypeDesc} (hb : w.heap[b]? = some (.cells arr B fr)) (hi : P.info? T = some i) (hu : P.underlying T = some d)
    (hl : off + (if isAggT P T = true then i.size else 1) ≤ arr.size) :
    (loadVar T ⟨b, off, none⟩).run P w = .ok (if isAggT P T = true then .agg ((arr.toList.drop off).take i.size).toArray else arr.toList.getD off undef) w := by
  unfold loadVar
  rw [run_ok_bind (run_isAgg w hu)]
  have hcell : ∀ j, w.cell? ((⟨b, off, none⟩ : Addr).add j) = arr[off + j]? := fun j => by rw [addr_add]; exact cell_of_row w b (off + j) arr B fr hb
  cases hagg : isAggT P T with
  | true =>
    simp only [hagg, if_true] at hl
    simp only [if_true]
    rw [run_ok_bind (run_sizeOf w hi)]
    have := run_loadCells_list (P := P) w ⟨b, off, none⟩ ((arr.toList.drop off).take i.size) (fun j v hv => by
      rw [hcell]
      rw [List.getElem?_take] at hv
      by_cases hj : j < i.size
      · rw [if_pos hj, List.getElem?_drop] at hv
        simpa using hv
      · rw [if_neg hj] at hv; cases hv)
    have hlen : ((arr.toList.drop off).take i.size).length = i.size := by simp; omega
    rw [hlen] at this
    rw [run_ok_bind this]
    simp
  | false =>
    simp only [hagg, Bool.false_eq_true, if_false] at hl ⊢
    have h0 := hcell 0
    simp only [Addr.add, if_true, Nat.add_zero] at h0
    have hlt : off < arr.size := by omega
    simp [h0, hlt]

theorem ldInfo_spec {T : Nat} {bb : Bool} {k : Nat} (h : ldInfo P T = some (bb, k)) : ∃ i d, P.info? T = some i ∧ P.underlying T = some d ∧ isAggT P T = bb ∧ i.size = k := by
  unfold ldInfo at h
  cases hi : P.info? T with
  | none => simp [hi] at h
  | some i =>
    simp only [hi] at h
    cases hu : P.underlying T with
    | none => simp [hu] at h
    | some d =>
      simp only [hu] at h
      refine ⟨i, d, rfl, rfl, ?_, ?_⟩
      · cases d <;> simp_all [isAggT]
      · cases d <;> simp_all

theorem load_sound (S : Sim F h0 w0 nt ρ st a w) {T : Nat} {x z : AV} {cs : List AV} {u : Value} (hr : readAt st x = some cs) (h : loadVal P T cs = some z) (hu : RelV (ctx h0 w0 ρ st w) x u) :
    ∃ r, (Instr.loadAt T u).run P w = .ok r w ∧ RelV (ctx h0 w0 ρ st w) z r := by
  obtain ⟨b, off, arr, B, fr, rfl, hb, hc⟩ := readAt_sound S hr hu
  unfold loadVal at h
  have hlen := hc.len
  simp only [List.length_take, List.length_drop, Array.length_toList] at hlen
  split at h
  · rename_i k hk
    obtain ⟨i, d, hi, hd, hagg, rfl⟩ := ldInfo_spec hk
    split at h
    · rename_i hle
      obtain ⟨hk0, hle⟩ := hle
      simp only [Option.some.injEq] at h
      subst h
      refine ⟨_, by
        simp only [Instr.loadAt, Instr.sureAddr]
        rw [run_ok_bind (Sem.run_pure P w _)]
        exact run_loadVar w hb hi hd (by rw [hagg]; simp only [if_true]; omega), ?_⟩
      rw [hagg]
      simp only [if_true]
      have := hc.take i.size
      rw [List.take_take, Nat.min_eq_left hle] at this
      exact .agg _ _ (by simpa using this.len) (fun j x y hx hy => this.rel j x y hx (by simpa using hy)) (fun j y hy => this.one j y (by simpa using hy))
    · cases h
  · rename_i k hk
    obtain ⟨i, d, hi, hd, hagg, rfl⟩ := ldInfo_spec hk
    cases cs with
    | nil => simp at h
    | cons c cs =>
      simp at h
      subst h
      have hlt : off < arr.size := by simp at hlen; omega
      refine ⟨_, by
        simp only [Instr.loadAt, Instr.sureAddr]
        rw [run_ok_bind (Sem.run_pure P w _)]
        exact run_loadVar w hb hi hd (by rw [hagg]; simp; omega), ?_⟩
      rw [hagg]
      simp only [Bool.false_eq_true, if_false]
      refine hc.rel 0 c _ rfl ?_
      simp [hlt]
  · cases h

theorem sliceView_sound (S : Sim F h0 w0 nt ρ st a w) {x : AV} {n : Nat} {cs : List AV} {u : Value} (h : sliceView st x = some (n, cs)) (hu : RelV (ctx h0 w0 ρ st w) x u) :
    ∃ p cap, u = .slice p n cap ∧ (cs ≠ [] → ∃ b off arr T fr, p = some ⟨b, off, none⟩ ∧ w.heap[b]? = some (.cells arr T fr)  ∧ CellL (ctx h0 w0 ρ st w) cs ((arr.toList.drop off).take cs.length)) := by
  unfold sliceView at h
  split at h
  · rename_i n' cs'
    simp only [Option.some.injEq, Prod.mk.injEq] at h
    obtain ⟨rfl, rfl⟩ := h
    cases hu with
    | sl0 n cap p hcap => exact ⟨p, cap, rfl, fun h => absurd rfl h⟩
    | sl n cs'' b off cap arr T fr hcap hb hle hr h1 =>
      refine ⟨_, cap, rfl, fun _ => ⟨b, off, arr, T, fr, rfl, hb.1, ⟨by simp; omega, fun i x y hx hy => ?_, fun i y hy => ?_⟩⟩⟩
      · have hi := (List.getElem?_eq_some_iff.1 hx).1
        rw [List.getElem?_take, if_pos hi, List.getElem?_drop] at hy
        exact hr i x y hx (by simpa using hy)
      · rw [List.getElem?_take] at hy
        split at hy
        · rename_i hi; rw [List.getElem?_drop] at hy
          exact h1 i y hi (by simpa using hy)
        · cases hy
  · rename_i n' cs'
    simp only [Option.some.injEq, Prod.mk.injEq] at h
    obtain ⟨rfl, rfl⟩ := h
    cases hu with
    | cl0 n p => exact ⟨p, _, rfl, fun h => absurd rfl h⟩
    | cl n cs'' b off arr T fr hb hle hr h1 =>
      refine ⟨_, _, rfl, fun _ => ⟨b, off, arr, T, fr, rfl, hb.1, ⟨by simp; omega, fun i x y hx hy => ?_, fun i y hy => ?_⟩⟩⟩
      · have hi := (List.getElem?_eq_some_iff.1 hx).1
        rw [List.getElem?_take, if_pos hi, List.getElem?_drop] at hy
        exact hr i x y hx (by simpa using hy)
      · rw [List.getElem?_take] at hy
        split at hy
        · rename_i hi; rw [List.getElem?_drop] at hy
          exact h1 i y hi (by simpa using hy)
        · cases hy
  · rename_i s g
    cases he : st.heap s g with
    | none => simp [he] at h
    | some e =>
      cases e with
      | row e sz n' es =>
        simp [he] at h
        obtain ⟨rfl, rfl⟩ := h
        obtain ⟨_, _, xs, ho, hc⟩ := S.ent s g _ he
        cases hu with
        | own s g hg h1 =>
          show ∃ p cap, ρ s g = _ ∧ _
          rcases ho.2 with ⟨p, hρ, hn⟩ | ⟨b', cap, cur, hρ, _, hh, _, _, _, ht, hc0⟩
          · refine ⟨p, 0, by rw [hρ, hn], fun hne => ?_⟩
            have : xs.length = 0 := by rw [ho.1, hn]; simp
            have := hc.len
            exact absurd (List.length_eq_zero_iff.1 (by omega)) hne
          · refine ⟨_, cap, hρ, fun _ => ⟨b', 0, cur, e, (0, 0), rfl, hh, ?_⟩⟩
            rw [hc.len, ho.1, List.drop_zero, ht]
            exact hc
      | _ => simp [he] at h
  · rename_i s g o n'
    cases he : st.heap s g with
    | none => simp [he] at h
    | some e =>
      cases e with
      | row e sz N es =>
        simp only [he] at h
        split at h
        · rename_i hle
          simp only [Option.some.injEq, Prod.mk.injEq] at h
          obtain ⟨rfl, rfl⟩ := h
          obtain ⟨_, _, xs, ho, hc⟩ := S.ent s g _ he
          cases hu with
          | vw _ _ _ _ b cap hg hb hcap hfull =>
            refine ⟨_, cap, rfl, fun hne => ?_⟩
            rcases ho.2 with ⟨p, hρ, hn⟩ | ⟨b', cap', cur, hρ, _, hh, _, _, _, ht, hc0⟩
            · exfalso
              change blkOf (ρ s g) = some b at hb
              rw [hρ] at hb
              cases p <;> cases hb
            · change blkOf (ρ s g) = some b at hb
              rw [hρ, blkOf_sl hc0] at hb
              simp only [Option.some.injEq] at hb
              subst hb
              refine ⟨b', o, cur, e, (0, 0), rfl, hh, ?_⟩
              have hxl : xs.length = es.length := hc.len.symm
              have : ((cur.toList.drop o).take ((es.drop o).take (n' * sz)).length) = (xs.drop o).take (n' * sz) := by
                have hl : ((es.drop o).take (n' * sz)).length = n' * sz := by simp; omega
                rw [hl, ← ht, List.drop_take, List.take_take, Nat.min_eq_left (by rw [← ho.1]; omega)]
              rw [this]
              exact (hc.drop o).take _
        · cases h
      | cells es =>
        simp only [he] at h
        split at h
        · rename_i hle
          simp only [Option.some.injEq, Prod.mk.injEq] at h
          obtain ⟨rfl, rfl⟩ := h
          obtain ⟨_, _, b', arr, T', hρ, _, hh, hc⟩ := S.ent s g _ he
          cases hu with
          | vw _ _ _ _ b cap hg hb hcap hfull =>
            refine ⟨_, cap, rfl, fun hne => ?_⟩
            change blkOf (ρ s g) = some b at hb
            rw [hρ] at hb
            simp only [blkOf, Option.some.injEq] at hb
            subst hb
            refine ⟨b', o, arr, T', (0, 0), rfl, hh, ?_⟩
            have hl : ((es.drop o).take n').length = n' := by simp; omega
            rw [hl]
            exact (hc.drop o).take _
        · cases h
      | _ => simp [he] at h
  · simp only [Option.some.injEq, Prod.mk.injEq] at h
    obtain ⟨rfl, rfl⟩ := h
    have := relV_v hu
    subst this
    exact ⟨none, 0, rfl, fun h => absurd rfl h⟩
  · cases h

theorem relV_slice {C : Ctx} {n : Nat} {cs : List AV} {u : Value} (h : RelV C (.sl n cs) u) : ∃ p cap, u = .slice p n cap := by
  cases h with
  | sl0 => exact ⟨_, _, rfl⟩
  | sl => exact ⟨_, _, rfl⟩

theorem indexAddr_sound (S : Sim F h0 w0 nt ρ st a w) {T : Nat} {x i z : AV} {u v : Value} (h : indexAddrA P st T x i = some z) (hu : RelV (ctx h0 w0 ρ st w) x u) (hv : RelV (ctx h0 w0 ρ st w) i v) :
    ∃ r, (Instr.indexAt T u v).run P w = .ok r w ∧ RelV (ctx h0 w0 ρ st w) z r := by
  unfold indexAddrA at h
  split at h
  · rename_i k j
    have := relV_v hv
    subst this
    split at h
    · rename_i n sz ha
      obtain ⟨e, ei, hT, hi, rfl, hne⟩ := arrInfo_spec ha
      split at h
      · rename_i hj
        obtain ⟨b, off, rfl, hz⟩ := addOff_sound h hu
        refine ⟨_, ?_, hz⟩
        simp [Instr.indexAt, asIntOf, run_underlying' hT, Instr.sureAddr, hj, run_sizeOf w hi, addr_add]
      · cases h
    · split at h
      · rename_i e sz by_ hs
        obtain ⟨ei, ez, hT, hi, hz0, rfl, hzs, rfl, hpos⟩ := slInfo_spec hs
        split at h
        · rename_i n cs
          split at h
          · rename_i hj
            simp only [Option.some.injEq] at h
            subst h
            obtain ⟨j1, j2, j3⟩ := hj
            cases hu with
            | sl0 n cap p hcap => simp at j3; omega
            | sl n cs b off cap arr T' fr hcap hb hle hr h1 =>
              refine ⟨_, ?_, .ip ((cs.drop (j.toNat * ei.size)).take ei.size) 0 b (off + j.toNat * ei.size) arr T' fr hb (by simp; omega) (fun i x y hx hy => ?_) (fun i y hi' hy => ?_)⟩
              · simp [Instr.indexAt, asIntOf, run_underlying' hT, j1, j2, run_sizeOf w hi, addr_add]
              · rw [List.getElem?_take] at hx
                split at hx
                · rw [List.getElem?_drop] at hx
                  exact hr _ x y hx (by rw [← Nat.add_assoc]; exact hy)
                · cases hx
              · simp only [List.length_take, List.length_drop] at hi'
                exact h1 (j.toNat * ei.size + i) y (by omega) (by rw [← Nat.add_assoc]; exact hy)
          · cases h
        · rename_i s g
          cases he : st.heap s g with
          | none => simp [he] at h
          | some e' =>
            cases e' with
            | row e2 sz2 n es =>
              simp only [he] at h
              split at h
              · rename_i hj
                obtain ⟨j1, j2, rfl, rfl⟩ := hj
                simp only [Option.some.injEq] at h
                subst h
                obtain ⟨hlt, _, xs, ho, hc⟩ := S.ent s g _ he
                cases hu with
                | own s g hg h1 =>
                  rcases ho.2 with ⟨p, hρ, hn⟩ | ⟨b', cap, cur, hρ, _, hh, _, _, _, ht, hc0⟩
                  · omega
                  · refine ⟨.pointer (some ⟨b', j.toNat * ei.size, none⟩), ?_, .ptr s g _ b' hlt (by show blkOf (ρ s g) = _; rw [hρ, blkOf_sl hc0])⟩
                    show (Instr.indexAt T (ρ s g) _).run P w = _
                    rw [hρ]
                    simp [Instr.indexAt, asIntOf, run_underlying' hT, j1, j2, run_sizeOf w hi, addr_add]
              · cases h
            | _ => simp [he] at h
        · rename_i s g o n
          split at h
          · rename_i hj
            obtain ⟨j1, j2⟩ := hj
            simp only [Option.some.injEq] at h
            subst h
            cases hu with
            | vw _ _ _ _ b cap hg hb hcap hfull =>
              refine ⟨.pointer (some ⟨b, o + j.toNat * ei.size, none⟩), ?_, .ptr s g _ b hg hb⟩
              simp [Instr.indexAt, asIntOf, run_underlying' hT, j1, j2, run_sizeOf w hi, addr_add]
          · cases h
        · cases h
      · cases h
  · cases h
end
end Go.Ab
