/-
  Part Ab3 of the proof: an evaluator of the programs written in Lean once, and its soundness.
-/
import Derived.Test.YtmcjkemalibacaaAb2
import Derived.Laws.StructEq
import Derived.DeepKeys
set_option linter.all false
namespace Go.Ab
open Classical

def LeafyV : List Bool → List Value → List Value → Prop
  | [], [], [] => True
  | true :: l, .int k _ :: xs, .int k' _ :: ys => k = k' ∧ LeafyV l xs ys
  | false :: l, .bool _ :: xs, .bool _ :: ys => LeafyV l xs ys
  | _, _, _ => False

theorem leafy_vs : ∀ (l : List Bool) (xs ys : List AV), Leafy l xs ys → ∃ us vs, xs = us.map .v ∧ ys = vs.map .v ∧ LeafyV l us vs
  | [], [], [], _ => ⟨[], [], rfl, rfl, trivial⟩
  | true :: l, .v (.int k a) :: xs, .v (.int k' b) :: ys, h => by
    obtain ⟨us, vs, rfl, rfl, h'⟩ := leafy_vs l xs ys h.2
    exact ⟨.int k a :: us, .int k' b :: vs, rfl, rfl, h.1, h'⟩
  | false :: l, .v (.bool a) :: xs, .v (.bool b) :: ys, h => by
    obtain ⟨us, vs, rfl, rfl, h'⟩ := leafy_vs l xs ys h
    exact ⟨.bool a :: us, .bool b :: vs, rfl, rfl, h'⟩

theorem leafyV_len : ∀ (l : List Bool) (us vs : List Value), LeafyV l us vs → us.length = l.length ∧ vs.length = l.length
  | [], [], [], _ => ⟨rfl, rfl⟩
  | true :: l, .int k a :: xs, .int k' b :: ys, h => by have := leafyV_len l xs ys h.2; simp [this.1, this.2]
  | false :: l, .bool a :: xs, .bool b :: ys, h => by have := leafyV_len l xs ys h; simp [this.1, this.2]

theorem leafyV_app (l m : List Bool) : ∀ (us vs : List Value), LeafyV (l ++ m) us vs → LeafyV l (us.take l.length) (vs.take l.length) ∧ LeafyV m (us.drop l.length) (vs.drop l.length) := by
  induction l with
  | nil => intro us vs h; simpa [LeafyV] using h
  | cons b l ih =>
    intro us vs h
    cases b <;> cases us with
    | nil => simp [LeafyV] at h
    | cons u us => cases vs with
      | nil => cases u <;> simp [LeafyV] at h
      | cons v vs => cases u <;> cases v <;> simp [LeafyV] at h <;> (have := ih us vs (by first | exact h | exact h.2); simp [LeafyV, this.1, this.2]) <;> (try exact h.1)

/-- A value of a type out of its cells. -/
def mk (agg : Bool) (us : List Value) : Value := if agg = true then .agg us.toArray else us.headD undef

section
variable {P : Program} (w : World)

theorem run_isAgg {t : Nat} {d : TypeDesc} (h : P.underlying t = some d) : (isAgg t).run P w = .ok (isAggT P t) w := by
  simp only [isAgg, underlying, Sem.run_bind, run_program, Result.andThen_ok, h, Sem.run_pure, isAggT]
  cases d <;> rfl

theorem run_sizeOf {t : Nat} {i : TypeInfo} (h : P.info? t = some i) : (sizeOf t).run P w = .ok i.size w := by
  simp [sizeOf, typeInfo, h]

theorem run_zeroValue {t : Nat} {i : TypeInfo} {z : Value} (h : P.info? t = some i) (hz : i.zero = some z) : (zeroValue t).run P w = .ok z w := by
  simp [zeroValue, typeInfo, h, hz]

theorem cellsOf_info {t : Nat} {i : TypeInfo} (h : P.info? t = some i) : P.cellsOf t = i.size := by simp [Program.cellsOf, h]

theorem run_part {t : Nat} {d : TypeDesc} {i : TypeInfo} (h : P.underlying t = some d) (hi : P.info? t = some i) (us : List Value) (off : Nat) (h1 : isAggT P t = false → i.size = 1) (hl : off + i.size ≤ us.length) :
    (part t us.toArray off).run P w = .ok (mk (isAggT P t) ((us.drop off).take i.size)) w := by
  unfold part
  simp only [Sem.run_bind, run_isAgg w h, Result.andThen_ok]
  cases hb : isAggT P t with
  | true =>
    simp only [if_true, Sem.run_bind, run_sizeOf w hi, Result.andThen_ok, Sem.run_pure, mk]
    congr 2
    simp [List.take_drop]
  | false =>
    have := h1 hb
    have hlt : off < us.length := by omega
    simp [hlt, mk, this, List.take_one]

theorem eqLeaves_plain : ∀ (d t : Nat) (m : List Bool), eqLeaves P d t = some m → isAggT P t = false → m.length = 1
  | 0, _, _, h, _ => by simp [eqLeaves] at h
  | d + 1, t, m, h, hp => by
    unfold eqLeaves at h
    unfold isAggT at hp
    cases hu : P.underlying t with
    | none => simp [hu] at h
    | some k => cases k <;> simp [hu] at h hp <;> (subst h; rfl)

theorem underlying_info {t : Nat} {k : TypeDesc} (h : P.underlying t = some k) : ∃ i, P.info? t = some i := info_of_underlying h

theorem eqLeaves_underlying : ∀ (d t : Nat) (m : List Bool), eqLeaves P d t = some m → ∃ k, P.underlying t = some k
  | 0, _, _, h => by simp [eqLeaves] at h
  | d + 1, t, m, h => by
    unfold eqLeaves at h
    cases hu : P.underlying t with
    | none => simp [hu] at h
    | some k => exact ⟨k, rfl⟩

def EqSound (P : Program) (dd d : Nat) : Prop :=
  ∀ (w : World) (t : Nat) (m : List Bool), eqLeaves P d t = some m → ∀ us vs, LeafyV m us vs →
    (Op.equalIn dd t (mk (isAggT P t) us) (mk (isAggT P t) vs)).run P w = .ok (decide (us = vs)) w

theorem eq_part {dd d : Nat} (IH : EqSound P dd d) {t : Nat} {m : List Bool} (hm : eqLeaves P d t = some m) (hc : P.cellsOf t = m.length) {us vs : List Value} {off : Nat}
    (hl : LeafyV m ((us.drop off).take m.length) ((vs.drop off).take m.length)) :
    ∃ a b, (part t us.toArray off).run P w = .ok a w ∧ (part t vs.toArray off).run P w = .ok b w ∧ (Op.equalIn dd t a b).run P w = .ok (decide ((us.drop off).take m.length = (vs.drop off).take m.length)) w := by
  obtain ⟨k, hk⟩ := eqLeaves_underlying d t m hm
  obtain ⟨i, hi⟩ := underlying_info hk
  have hs : i.size = m.length := by rw [← hc, cellsOf_info hi]
  have h1 : isAggT P t = false → i.size = 1 := fun h => by rw [hs]; exact eqLeaves_plain d t m hm h
  have lens := leafyV_len _ _ _ hl
  simp only [List.length_take, List.length_drop] at lens
  by_cases hz : m.length = 0
  · have hagg : isAggT P t = true := by
      cases h : isAggT P t with
      | true => rfl
      | false => have := h1 h; omega
    refine ⟨.agg #[], .agg #[], ?_, ?_, ?_⟩
    · simp [part, run_isAgg w hk, hagg, run_sizeOf w hi, hs, hz]
    · simp [part, run_isAgg w hk, hagg, run_sizeOf w hi, hs, hz]
    · have := IH w t m hm _ _ hl
      rw [hagg] at this
      simpa [mk, hz] using this
  · have e1 := run_part w hk hi us off h1 (by omega)
    have e2 := run_part w hk hi vs off h1 (by omega)
    refine ⟨_, _, e1, e2, ?_⟩
    have := IH w t m hm _ _ hl
    rw [hs]
    exact this

theorem drop_split (us : List Value) (off n : Nat) : us.drop off = (us.drop off).take n ++ us.drop (off + n) := by
  rw [← List.drop_drop, List.take_append_drop]

theorem eqFields_sound {dd d : Nat} (IH : EqSound P dd d) (us vs : List Value) : ∀ (fs : List Field) (off : Nat) (l : List Bool), leavesL P (eqLeaves P d) fs off = some l →
    LeafyV l (us.drop off) (vs.drop off) → (Op.eqFields dd us.toArray vs.toArray fs).run P w = .ok (decide (us.drop off = vs.drop off)) w
  | [], off, l, hl, hv => by
    simp [leavesL] at hl
    subst hl
    have := leafyV_len _ _ _ hv
    rw [List.length_eq_zero_iff.1 this.1, List.length_eq_zero_iff.1 this.2]
    simp [Op.eqFields]
  | f :: fs, off, l, hl, hv => by
    unfold leavesL at hl
    cases hm : eqLeaves P d f.type with
    | none => simp [hm] at hl
    | some m =>
      simp only [hm] at hl
      split at hl
      · rename_i hc
        obtain ⟨c1, c2, c3, c4⟩ := hc
        cases hr : leavesL P (eqLeaves P d) fs (off + m.length) with
        | none => simp [hr] at hl
        | some l' =>
          simp [hr] at hl
          subst hl
          obtain ⟨v1, v2⟩ := leafyV_app m l' _ _ hv
          rw [List.drop_drop, List.drop_drop] at v2
          obtain ⟨a, b, p1, p2, p3⟩ := eq_part w IH hm c3 v1
          have ih := eqFields_sound IH us vs fs (off + m.length) l' hr v2
          subst c2
          simp only [Op.eqFields, c1, ne_eq, not_false_eq_true, if_true, Sem.run_bind, p1, p2, p3, Result.andThen_ok]
          have iff : (us.drop f.offset = vs.drop f.offset) ↔ ((us.drop f.offset).take m.length = (vs.drop f.offset).take m.length ∧ us.drop (f.offset + m.length) = vs.drop (f.offset + m.length)) := by
            constructor
            · intro h
              refine ⟨by rw [h], ?_⟩
              rw [← List.drop_drop, ← List.drop_drop, h]
            · rintro ⟨h, k⟩
              rw [drop_split us f.offset m.length, drop_split vs f.offset m.length, h, k]
          by_cases h : (us.drop f.offset).take m.length = (vs.drop f.offset).take m.length
          · simp [h, ih, iff]
          · simp [h, iff]
      · cases hl

theorem eqItems_sound {dd d : Nat} (IH : EqSound P dd d) {e : Nat} {m : List Bool} (hm : eqLeaves P d e = some m) (hc : P.cellsOf e = m.length) (us vs : List Value) : ∀ (n k : Nat),
    LeafyV ((List.range n).flatMap fun _ => m) (us.drop (k * m.length)) (vs.drop (k * m.length)) →
    (Op.eqItems dd e m.length us.toArray vs.toArray ((List.range n).map (k + ·))).run P w = .ok (decide (us.drop (k * m.length) = vs.drop (k * m.length))) w
  | 0, k, hv => by
    have := leafyV_len _ _ _ hv
    simp only [List.range_zero, List.flatMap_nil, List.length_nil] at this
    rw [List.length_eq_zero_iff.1 this.1, List.length_eq_zero_iff.1 this.2]
    simp [Op.eqItems]
  | n + 1, k, hv => by
    rw [List.range_succ_eq_map] at hv ⊢
    simp only [List.flatMap_cons, List.flatMap_map] at hv
    obtain ⟨v1, v2⟩ := leafyV_app m _ _ _ hv
    rw [List.drop_drop, List.drop_drop, show k * m.length + m.length = (k + 1) * m.length by rw [Nat.add_mul]; omega] at v2
    obtain ⟨a, b, p1, p2, p3⟩ := eq_part w IH hm hc v1
    have ih := eqItems_sound IH hm hc us vs n (k + 1) v2
    simp only [List.map_cons, Nat.add_zero, List.map_map, Op.eqItems, Sem.run_bind, p1, p2, p3, Result.andThen_ok]
    have hmap : (List.range n).map ((k + ·) ∘ Nat.succ) = (List.range n).map (k + 1 + ·) := by
      apply List.map_congr_left
      intro x _
      simp only [Function.comp]
      omega
    rw [hmap]
    have iff : (us.drop (k * m.length) = vs.drop (k * m.length)) ↔ ((us.drop (k * m.length)).take m.length = (vs.drop (k * m.length)).take m.length ∧ us.drop ((k + 1) * m.length) = vs.drop ((k + 1) * m.length)) := by
      rw [show (k + 1) * m.length = k * m.length + m.length by rw [Nat.add_mul]; omega]
      constructor
      · intro h
        refine ⟨by rw [h], ?_⟩
        rw [← List.drop_drop, ← List.drop_drop, h]
      · rintro ⟨h, k'⟩
        rw [drop_split us _ m.length, drop_split vs _ m.length, h, k']
    by_cases h : (us.drop (k * m.length)).take m.length = (vs.drop (k * m.length)).take m.length
    · simp [h, ih, iff]
    · simp [h, iff]

theorem equalIn_sound : ∀ (d dd : Nat), d ≤ dd → EqSound P dd d
  | 0, _, _ => fun w t m hm => by simp [eqLeaves] at hm
  | d + 1, 0, h => absurd h (by omega)
  | d + 1, dd + 1, h => by
    intro w t m hm us vs hv
    have IH := equalIn_sound d dd (by omega)
    unfold eqLeaves at hm
    cases hu : P.underlying t with
    | none => simp [hu] at hm
    | some k =>
      cases k <;> simp only [hu] at hm <;> (try (cases hm; done))
      case bool =>
        cases hm
        have hagg : isAggT P t = false := by simp [isAggT, hu]
        cases us with
        | nil => simp [LeafyV] at hv
        | cons u us => cases vs with
          | nil => cases u <;> simp [LeafyV] at hv
          | cons v vs =>
            cases u <;> cases v <;> simp [LeafyV] at hv
            cases us <;> cases vs <;> simp [LeafyV] at hv
            rename_i a b
            simp [hagg, mk, run_equalIn_bool' w dd t a b hu]
            rw [Bool.eq_iff_iff]; simp
      case int q =>
        cases hm
        have hagg : isAggT P t = false := by simp [isAggT, hu]
        cases us with
        | nil => simp [LeafyV] at hv
        | cons u us => cases vs with
          | nil => cases u <;> simp [LeafyV] at hv
          | cons v vs =>
            cases u <;> cases v <;> simp [LeafyV] at hv
            cases us <;> cases vs <;> simp [LeafyV] at hv
            rename_i k1 a k2 b
            subst hv
            simp [hagg, mk, run_equalIn_int w dd t k1 q a b hu]
            rw [Bool.eq_iff_iff]; simp
      case struct fs =>
        have hagg : isAggT P t = true := by simp [isAggT, hu]
        split at hm
        · cases hm
        · rename_i hst
          have hfs : P.fieldsOf t = fs := by simp [Program.fieldsOf, hu]
          rw [hagg]
          simp only [mk, if_true]
          rw [run_equalIn_struct w dd t _ _ (by rw [hfs]; exact hu) (by simpa using hst), hfs]
          have := eqFields_sound w IH us vs fs.toList 0 m hm (by simpa using hv)
          simpa using this
      case array n e =>
        have hagg : isAggT P t = true := by simp [isAggT, hu]
        cases hm' : eqLeaves P d e with
        | none => simp [hm'] at hm
        | some l =>
          simp only [hm'] at hm
          split at hm
          · rename_i hc
            cases hm
            obtain ⟨i, hi⟩ := Option.isSome_iff_exists.1 hc.2
            rw [hagg]
            simp only [mk, if_true]
            rw [run_equalIn_array w dd _ _ hu hi]
            have := eqItems_sound w IH hm' hc.1 us vs n 0 (by simpa using hv)
            rw [hc.1]
            simpa using this
          · cases hm
end
end Go.Ab
