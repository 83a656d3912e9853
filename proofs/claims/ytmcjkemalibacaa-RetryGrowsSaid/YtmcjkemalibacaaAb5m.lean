/-
  Part Ab5m of the proof: an evaluator of the programs written in Lean once, and its soundness.
-/
import Derived.Test.YtmcjkemalibacaaAb5
import Derived.MapKept
set_option linter.all false
set_option linter.unusedVariables false
namespace Go.Ab
open Classical

section
variable {P : Program}

/-- The first entry with a key. -/
noncomputable def vfind (x : Value) : List MapEntry → Nat → Option (Nat × Value)
  | [], _ => none
  | e :: r, i => if x = e.key then some (i, e.val) else vfind x r (i + 1)

theorem mk_inj {agg : Bool} {l : List Bool} {us vs : List Value} (h : LeafyV l us vs) (ha : agg = false → l.length = 1) : mk agg us = mk agg vs ↔ us = vs := by
  cases agg with
  | true => simp [mk]
  | false =>
    have h1 := ha rfl
    obtain ⟨e1, e2⟩ := leafyV_len _ _ _ h
    obtain ⟨a, rfl⟩ := List.length_eq_one_iff.1 (e1.trans h1)
    obtain ⟨b, rfl⟩ := List.length_eq_one_iff.1 (e2.trans h1)
    simp [mk]

theorem run_equal_leafy (w : World) {k : Nat} {l : List Bool} {us vs : List Value} (hl : eqLeaves P 20 k = some l) (h : LeafyV l us vs) :
    (Op.equal k (mk (isAggT P k) us) (mk (isAggT P k) vs)).run P w = .ok (decide (mk (isAggT P k) us = mk (isAggT P k) vs)) w := by
  have := equalIn_sound (P := P) 20 10000 (by omega) w k l hl us vs h
  unfold Op.equal Op.maxDepth
  rw [this]
  congr 1
  rw [Bool.eq_iff_iff]
  simp [mk_inj h (eqLeaves_plain 20 k l hl)]

def KeysL (P : Program) (k : Nat) (l : List Bool) (us : List Value) (es : List MapEntry) : Prop := ∀ e ∈ es, ∃ vs, e.key = mk (isAggT P k) vs ∧ LeafyV l us vs

theorem run_findAsking (w : World) {k : Nat} {l : List Bool} {us : List Value} (hl : eqLeaves P 20 k = some l) : ∀ (es : List MapEntry) (i : Nat), KeysL P k l us es →
    (Instr.findAsking k (mk (isAggT P k) us) es i).run P w = .ok (vfind (mk (isAggT P k) us) es i) w
  | [], i, _ => by simp [Instr.findAsking, vfind]
  | e :: es, i, h => by
    obtain ⟨vs, hk, hv⟩ := h e (by simp)
    have ih := run_findAsking w hl es (i + 1) (fun x hx => h x (by simp [hx]))
    have he := run_equal_leafy w hl hv
    simp only [Instr.findAsking, hk, Sem.run_bind, he, Result.andThen_ok, vfind]
    by_cases hq : mk (isAggT P k) us = mk (isAggT P k) vs
    · simp [hq]
    · simp [hq, ih]

theorem findNow_int {q k0 : IntKind} {a : Int} : ∀ (es : List MapEntry) (i : Nat), (∀ e ∈ es, ∃ b, e.key = .int k0 b) → Instr.findNow (.int q) (.int k0 a) es i = some (vfind (.int k0 a) es i)
  | [], i, _ => rfl
  | e :: es, i, h => by
    obtain ⟨b, hk⟩ := h e (by simp)
    have ih := findNow_int (q := q) (a := a) es (i + 1) (fun x hx => h x (by simp [hx]))
    simp only [Instr.findNow, Instr.sameNow, hk, if_true, vfind]
    by_cases hq : a = b
    · subst hq; simp
    · have : (a == b) = false := by simp [hq]
      simp [this, ih, hq]
theorem findNow_bool {a : Bool} : ∀ (es : List MapEntry) (i : Nat), (∀ e ∈ es, ∃ b, e.key = .bool b) → Instr.findNow .bool (.bool a) es i = some (vfind (.bool a) es i)
  | [], i, _ => rfl
  | e :: es, i, h => by
    obtain ⟨b, hk⟩ := h e (by simp)
    have ih := findNow_bool (a := a) es (i + 1) (fun x hx => h x (by simp [hx]))
    simp only [Instr.findNow, Instr.sameNow, hk, vfind]
    by_cases hq : a = b
    · subst hq; simp
    · have : (a == b) = false := by simp [hq]
      simp [this, ih, hq]

theorem mapKeyOk_spec {l : List Bool} {k : Nat} (h : mapKeyOk P l k = true) : (∃ q, P.underlying k = some (.int q)) ∨ P.underlying k = some .bool ∨
    ∃ n e q i, P.underlying k = some (.array n e) ∧ P.underlying e = some (.int q) ∧ P.info? e = some i ∧ i.size = 1 ∧ l.length = n := by
  unfold mapKeyOk at h
  split at h
  · rename_i q hq; exact .inl ⟨q, hq⟩
  · rename_i hq; exact .inr (.inl hq)
  · rename_i n e hu
    split at h
    · rename_i q hq
      simp only [Bool.and_eq_true, decide_eq_true_eq] at h
      obtain ⟨⟨⟨h1, h2⟩, h3⟩, _⟩ := h
      obtain ⟨i, hi⟩ := Option.isSome_iff_exists.1 h3
      exact .inr (.inr ⟨n, e, q, i, hu, hq, hi, by rw [← cellsOf_info hi]; exact h1, h2⟩)
    · cases h
  · cases h

theorem run_findKey' (w : World) {k : Nat} {l : List Bool} {us : List Value} (hl : eqLeaves P 20 k = some l) (hm : mapKeyOk P l k = true) (hu : LeafyV l us us) {es : List MapEntry} (h : KeysL P k l us es) :
    (Instr.findKey k (mk (isAggT P k) us) es).run P w = .ok (vfind (mk (isAggT P k) us) es 0) w := by
  rcases mapKeyOk_spec hm with ⟨q, hk⟩ | hk | ⟨n, e, q, i, hk, _⟩
  · have hagg : isAggT P k = false := by simp [isAggT, hk]
    have hl' : l = [true] := by simpa [eqLeaves, hk] using hl.symm
    subst hl'
    have hus : ∀ vs, LeafyV [true] us vs → ∃ k0 a b, us = [.int k0 a] ∧ vs = [.int k0 b] := fun vs h => by
      cases us with
      | nil => simp [LeafyV] at h
      | cons u us => cases vs with
        | nil => cases u <;> simp [LeafyV] at h
        | cons v vs =>
          cases u <;> cases v <;> simp [LeafyV] at h
          cases us <;> cases vs <;> simp [LeafyV] at h
          subst h
          exact ⟨_, _, _, rfl, rfl⟩
    obtain ⟨k0, a, _, e1, _⟩ := hus us hu
    have hkeys : ∀ e ∈ es, ∃ b, e.key = .int k0 b := fun e he => by
      obtain ⟨vs, h1, h2⟩ := h e he
      obtain ⟨k1, a1, b1, e2, e3⟩ := hus vs h2
      rw [e1] at e2
      simp at e2
      exact ⟨b1, by rw [h1, hagg, e3]; simp [mk, e2.1]⟩
    have hx : mk (isAggT P k) us = .int k0 a := by rw [hagg, e1]; rfl
    rw [hx]
    simp only [Instr.findKey, Sem.run_bind, run_underlying' hk, Result.andThen_ok, findNow_int es 0 hkeys]
    rfl
  · have hagg : isAggT P k = false := by simp [isAggT, hk]
    have hl' : l = [false] := by simpa [eqLeaves, hk] using hl.symm
    subst hl'
    have hus : ∀ vs, LeafyV [false] us vs → ∃ a b, us = [.bool a] ∧ vs = [.bool b] := fun vs h => by
      cases us with
      | nil => simp [LeafyV] at h
      | cons u us => cases vs with
        | nil => cases u <;> simp [LeafyV] at h
        | cons v vs =>
          cases u <;> cases v <;> simp [LeafyV] at h
          cases us <;> cases vs <;> simp [LeafyV] at h
          exact ⟨_, _, rfl, rfl⟩
    obtain ⟨a, _, e1, _⟩ := hus us hu
    have hkeys : ∀ e ∈ es, ∃ b, e.key = .bool b := fun e he => by
      obtain ⟨vs, h1, h2⟩ := h e he
      obtain ⟨a1, b1, e2, e3⟩ := hus vs h2
      exact ⟨b1, by rw [h1, hagg, e3]; rfl⟩
    have hx : mk (isAggT P k) us = .bool a := by rw [hagg, e1]; rfl
    rw [hx]
    simp only [Instr.findKey, Sem.run_bind, run_underlying' hk, Result.andThen_ok, findNow_bool es 0 hkeys]
    rfl
  · have hagg : isAggT P k = true := by simp [isAggT, hk]
    cases es with
    | nil =>
      simp [Instr.findKey, run_underlying' hk, Instr.findNow, vfind]
    | cons m es =>
      have hn : Instr.findNow (.array n e) (mk (isAggT P k) us) (m :: es) 0 = none := by
        simp [Instr.findNow, Instr.sameNow]
      simp only [Instr.findKey, Sem.run_bind, run_underlying' hk, Result.andThen_ok, hn]
      exact run_findAsking w hl (m :: es) 0 h

theorem run_checkKey' (w : World) {k : Nat} {l : List Bool} {us : List Value} (hl : eqLeaves P 20 k = some l) (hm : mapKeyOk P l k = true) (hu : LeafyV l us us) (em : Bool) :
    (Instr.checkKey em 10000 k (mk (isAggT P k) us)).run P w = .ok () w := by
  have plain : ∀ (n t : Nat) (q : IntKind) (x : Value), P.underlying t = some (.int q) → (Instr.checkKey em (n + 1) t x).run P w = .ok () w := fun n t q x ht => by
    simp [Instr.checkKey, run_underlying' ht]
  rcases mapKeyOk_spec hm with ⟨q, hk⟩ | hk | ⟨n, e, q, i, hk, he, hi, hs, hn⟩
  · exact plain 9999 k q _ hk
  · have plainB : ∀ (n t : Nat) (x : Value), P.underlying t = some .bool → (Instr.checkKey em (n + 1) t x).run P w = .ok () w := fun n t x ht => by
      simp [Instr.checkKey, run_underlying' ht]
    exact plainB 9999 k _ hk
  · have hagg : isAggT P k = true := by simp [isAggT, hk]
    have hea : isAggT P e = false := by simp [isAggT, he]
    have hlen := (leafyV_len _ _ _ hu).1
    rw [hagg]
    simp only [mk, if_true]
    rw [show (10000 : Nat) = 9999 + 1 from rfl, Instr.checkKey]
    simp only [Sem.run_bind, run_underlying' hk, Result.andThen_ok]
    simp only [Std.Legacy.Range.forIn_eq_forIn_range', Std.Legacy.Range.size, Nat.sub_zero, Nat.add_one_sub_one, Nat.div_one]
    have each : ∀ j ∈ List.range' 0 n, j < us.length := fun j hj => by
      have := List.mem_range'_1.1 hj
      omega
    generalize List.range' 0 n = is at each
    induction is with
    | nil => simp
    | cons j is ih =>
      have hj := each j (by simp)
      have p1 := run_part w he hi us j (fun _ => hs) (by omega)
      simp only [List.forIn_cons, Sem.run_bind, run_sizeOf w hi, hs, Nat.mul_one, Result.andThen_ok, p1, plain 9998 e q _ he, Sem.run_pure]
      exact ih fun y hy => each y (by simp [hy])

theorem sameBits_ints : ∀ (l : List Bool) (us : List Value), LeafyV l us us → ∀ x ∈ us, ∀ n, Instr.sameBits n x x = true
  | [], [], _, x, hx, n => by simp at hx
  | true :: l, .int k a :: us, h, x, hx, n => by
    rcases List.mem_cons.1 hx with rfl | hx
    · cases n <;> simp [Instr.sameBits]
    · exact sameBits_ints l us h.2 x hx n
  | false :: l, .bool a :: us, h, x, hx, n => by
    rcases List.mem_cons.1 hx with rfl | hx
    · cases n <;> simp [Instr.sameBits]
    · exact sameBits_ints l us h x hx n

theorem run_stays (w : World) {agg : Bool} {l : List Bool} {us : List Value} (hu : LeafyV l us us) (ha : agg = false → l.length = 1) : (Instr.keyThatStays (mk agg us) (mk agg us)).run P w = .ok (mk agg us) w := by
  have hs : Instr.sameBits 10000 (mk agg us) (mk agg us) = true := by
    cases agg with
    | true =>
      simp only [mk, if_true]
      show Instr.sameBits (9999 + 1) _ _ = true
      simp only [Instr.sameBits, beq_self_eq_true, Bool.true_and]
      have hall : ∀ x ∈ us, Instr.sameBits 9999 x x = true := fun x hx => sameBits_ints l us hu x hx 9999
      clear hu
      induction us with
      | nil => rfl
      | cons x us ih =>
        simp only [List.zip_cons_cons, List.all_cons, Bool.and_eq_true]
        exact ⟨hall x (by simp), ih fun y hy => hall y (by simp [hy])⟩
    | false =>
      obtain ⟨a, rfl⟩ := List.length_eq_one_iff.1 ((leafyV_len _ _ _ hu).1.trans (ha rfl))
      exact sameBits_ints l [a] hu a (by simp) 10000
  simp [Instr.keyThatStays, hs]

theorem key_val {k : Nat} {x y : AV} {C : Ctx} {u v : Value} (h : keyOkA P k x y) (hu : RelV C x u) (hv : RelV C y v) :
    ∃ l us vs, eqLeaves P 20 k = some l ∧ LeafyV l us vs ∧ u = mk (isAggT P k) us ∧ v = mk (isAggT P k) vs ∧ (x = y ↔ u = v) := by
  unfold keyOkA at h
  cases hl : eqLeaves P 20 k with
  | none => simp [hl] at h
  | some l =>
    simp only [hl] at h
    obtain ⟨h1, h2, h3⟩ := h
    cases hagg : isAggT P k with
    | true =>
      obtain ⟨⟨cs, rfl⟩, ds, rfl⟩ := h2 hagg
      obtain ⟨us, vs, e1, e2, e3⟩ := leafy_vs _ _ _ h1
      simp only [AV.cells] at e1 e2
      subst e1; subst e2
      have eu := relV_agg_vs hu
      have ev := relV_agg_vs hv
      refine ⟨l, us, vs, rfl, e3, by rw [eu]; rfl, by rw [ev]; rfl, ?_⟩
      rw [eu, ev]
      simp [map_v_inj]
    | false =>
      obtain ⟨⟨a, rfl⟩, b, rfl⟩ := h3 hagg
      obtain ⟨us, vs, e1, e2, e3⟩ := leafy_vs _ _ _ h1
      have eu := relV_v hu
      have ev := relV_v hv
      subst eu; subst ev
      have f1 : us = [u] := by
        cases us with
        | nil => simp [AV.cells] at e1
        | cons c us => simp [AV.cells] at e1; simp [e1.1, ← e1.2]
      have f2 : vs = [v] := by
        cases vs with
        | nil => simp [AV.cells] at e2
        | cons c vs => simp [AV.cells] at e2; simp [e2.1, ← e2.2]
      subst f1; subst f2
      exact ⟨l, _, _, rfl, e3, rfl, rfl, by simp⟩

theorem keysL_of {k : Nat} {x : AV} {C : Ctx} {u : Value} {l : List Bool} {us : List Value} (hl : eqLeaves P 20 k = some l) (hu : RelV C x u) (he : u = mk (isAggT P k) us) (hx : LeafyV l us us) : ∀ {es : List (AV × AV)} {ms : List MapEntry},
    (∀ p ∈ es, keyOkA P k x p.1) → MapL C es ms → KeysL P k l us ms
  | [], [], _, _ => fun e h => by simp at h
  | p :: es, m :: ms, hk, h => by
    have ih := keysL_of hl hu he hx (es := es) (ms := ms) (fun q hq => hk q (by simp [hq])) h.2.2
    intro e hem
    rcases List.mem_cons.1 hem with rfl | hem
    · obtain ⟨l', us', vs, e1, e2, e3, e4, _⟩ := key_val (hk p (by simp)) hu h.1
      rw [hl] at e1
      cases e1
      refine ⟨vs, e4, ?_⟩
      have : us' = us := by
        rw [he] at e3
        have hlen1 := (leafyV_len _ _ _ hx).1
        have hlen2 := (leafyV_len _ _ _ e2).1
        cases hagg : isAggT P k with
        | true => rw [hagg] at e3; simpa [mk] using e3.symm
        | false =>
          have h1 := eqLeaves_plain 20 k l hl hagg
          obtain ⟨a, rfl⟩ := List.length_eq_one_iff.1 (hlen1.trans h1)
          obtain ⟨b, rfl⟩ := List.length_eq_one_iff.1 (hlen2.trans h1)
          rw [hagg] at e3
          simpa [mk] using e3.symm
      rw [← this]
      exact e2
    · exact ih e hem
  | [], _ :: _, _, h => h.elim
  | _ :: _, [], _, h => h.elim

theorem mget_spec {k : Nat} {x : AV} {C : Ctx} {u : Value} (hu : RelV C x u) : ∀ {es : List (AV × AV)} {ms : List MapEntry} (i : Nat), (∀ p ∈ es, keyOkA P k x p.1) → MapL C es ms →
    (mget es x = none ∧ vfind u ms i = none) ∨ ∃ v y j, mget es x = some v ∧ vfind u ms i = some (i + j, y) ∧ RelV C v y ∧ j < ms.length
  | [], [], i, _, _ => .inl ⟨rfl, rfl⟩
  | p :: es, m :: ms, i, hk, h => by
    obtain ⟨l', us', vs, e1, e2, e3, e4, e5⟩ := key_val (hk p (by simp)) hu h.1
    simp only [mget, vfind]
    by_cases hq : x = p.1
    · rw [if_pos hq.symm, if_pos (e5.1 hq)]
      exact .inr ⟨_, _, 0, rfl, rfl, h.2.1, by simp⟩
    · rw [if_neg (Ne.symm hq), if_neg (fun h' => hq (e5.2 h'))]
      rcases mget_spec hu (es := es) (ms := ms) (i + 1) (fun q hq => hk q (by simp [hq])) h.2.2 with ⟨h1, h2⟩ | ⟨v, y, j, h1, h2, h3, h4⟩
      · exact .inl ⟨h1, h2⟩
      · exact .inr ⟨v, y, j + 1, h1, by rw [h2]; congr 2; omega, h3, by simp; omega⟩
  | [], _ :: _, _, _, h => h.elim
  | _ :: _, [], _, _, h => h.elim

theorem mset_spec {k : Nat} {x z : AV} {C : Ctx} {u y : Value} (hu : RelV C x u) (hz : RelV C z y) : ∀ {es : List (AV × AV)} {ms : List MapEntry} (i : Nat), (∀ p ∈ es, keyOkA P k x p.1) → MapL C es ms →
    (vfind u ms i = none ∧ ∀ c, MapL C (mset es x z) (ms ++ [{ key := u, val := y, born := c }])) ∨
    ∃ v j, vfind u ms i = some (i + j, v) ∧ (∃ m, ms[j]? = some m ∧ m.key = u) ∧ MapL C (mset es x z) (ms.modify j fun e => { e with key := u, val := y })
  | [], [], i, _, _ => .inl ⟨rfl, fun c => ⟨hu, hz, trivial⟩⟩
  | p :: es, m :: ms, i, hk, h => by
    obtain ⟨l', us', vs, e1, e2, e3, e4, e5⟩ := key_val (hk p (by simp)) hu h.1
    simp only [mset, vfind]
    by_cases hq : x = p.1
    · rw [if_pos hq.symm, if_pos (e5.1 hq)]
      exact .inr ⟨_, 0, rfl, ⟨m, rfl, (e5.1 hq).symm⟩, by simp [List.modify]; exact ⟨hu, hz, h.2.2⟩⟩
    · rw [if_neg (Ne.symm hq), if_neg (fun h' => hq (e5.2 h'))]
      rcases mset_spec hu hz (es := es) (ms := ms) (i + 1) (fun q hq => hk q (by simp [hq])) h.2.2 with ⟨h1, h2⟩ | ⟨v, j, h1, h2, h3⟩
      · exact .inl ⟨h1, fun c => ⟨h.1, h.2.1, h2 c⟩⟩
      · exact .inr ⟨v, j + 1, by rw [h1]; congr 2; omega, by simpa using h2, by simp [List.modify_succ_cons]; exact ⟨h.1, h.2.1, h3⟩⟩
  | [], _ :: _, _, _, h => h.elim
  | _ :: _, [], _, _, h => h.elim

theorem mapInfo_spec {T k : Nat} {z : AV} (h : mapInfo P T = some (k, z)) : ∃ e l zv, P.underlying T = some (.map k e) ∧ eqLeaves P 20 k = some l ∧ mapKeyOk P l k = true ∧
    (∀ w, (zeroValue e).run P w = .ok zv w) ∧ ∀ C : Ctx, RelV C z zv := by
  unfold mapInfo at h
  split at h
  · rename_i k' e hT
    split at h
    · rename_i l z' hl hz
      split at h
      · rename_i hm
        simp only [Option.some.injEq, Prod.mk.injEq] at h
        obtain ⟨rfl, rfl⟩ := h
        unfold zeroA at hz
        split at hz
        · rename_i i hi
          split at hz
          · rename_i cs hzz
            split at hz
            · rename_i hall
              simp only [Option.some.injEq] at hz
              subst hz
              refine ⟨e, l, _, hT, hl, hm, fun w => run_zeroValue w hi hzz, fun C => ?_⟩
              have hc := CellL.vs C cs.toList (List.all_eq_true.1 hall)
              exact .agg _ _ (by simp) (fun j x y hx hy => hc.rel j x y hx (by simpa using hy)) (fun j y hy => hc.one j y (by simpa using hy))
            · cases hz
          · rename_i y hy hzz
            split at hz
            · simp only [Option.some.injEq] at hz
              subst hz
              exact ⟨e, l, _, hT, hl, hm, fun w => run_zeroValue w hi hzz, fun C => .v _⟩
            · cases hz
          · cases hz
        · cases hz
      · cases h
    · cases h
  · cases h
end

section
variable {P : Program} {h0 : Nat → Obj → Prop} {w0 : World} {F : Frm} {nt : Nat} {ρ : Nat → Nat → Value} {st : St} {a : Act} {w : World}

theorem look_sound (S : Sim F h0 w0 nt ρ st a w) {T : Nat} {m x z : AV} {ok : Bool} {mv xv : Value} (h : lookA P st T m x ok = some z) (hm : RelV (ctx h0 w0 ρ st w) m mv) (hx : RelV (ctx h0 w0 ρ st w) x xv) :
    ∃ r, (Instr.lookup T mv xv ok).run P w = .ok r w ∧ RelV (ctx h0 w0 ρ st w) z r := by
  unfold lookA at h
  split at h
  · rename_i s g
    split at h
    · rename_i es k zd he hi
      split at h
      · rename_i hk
        obtain ⟨e, l, zv, hT, hl, hmk, hz, hzr⟩ := mapInfo_spec hi
        obtain ⟨_, _, b, arr, clock, hρ, _, hh, hml⟩ := S.ent s g _ he
        obtain ⟨l', us, vs, e1, e2, e3, e4, _⟩ := key_val hk.1 hx hx
        rw [hl] at e1
        cases e1
        have hvs : vs = us := by
          rw [e3] at e4
          have hlen := leafyV_len _ _ _ e2
          cases hagg : isAggT P k with
          | true => rw [hagg] at e4; simpa [mk] using e4.symm
          | false =>
            have h1 := eqLeaves_plain 20 k l hl hagg
            obtain ⟨p, rfl⟩ := List.length_eq_one_iff.1 (hlen.1.trans h1)
            obtain ⟨q, rfl⟩ := List.length_eq_one_iff.1 (hlen.2.trans h1)
            rw [hagg] at e4
            simpa [mk] using e4.symm
        subst hvs
        have hkeys := keysL_of hl hx e3 e2 hk.2 hml
        cases hm with
        | mp _ _ hg ho =>
          show ∃ r, (Instr.lookup T (ρ s g) xv ok).run P w = .ok r w ∧ _
          rw [hρ, e3]
          have hck := run_checkKey' w hl hmk e2 arr.isEmpty
          have hfk := run_findKey' w hl hmk e2 hkeys
          rcases mget_spec hx 0 hk.2 hml with ⟨h1, h2⟩ | ⟨v, y, j, h1, h2, h3, _⟩
          · rw [h1] at h
            simp only [Option.some.injEq] at h
            subst h
            rw [e3] at h2
            rw [h2] at hfk
            refine ⟨if ok = true then .tuple #[zv, .bool false] else zv, by
              simp [Instr.lookup, run_underlying' hT, MapKept.run_getObj_map hh, hck, hfk, hz w], ?_⟩
            cases ok
            · exact hzr _
            · exact .tup _ _ rfl fun i x y hx hy => by
                match i with
                | 0 => simp at hx hy; subst hx; subst hy; exact hzr _
                | 1 => simp at hx hy; subst hx; subst hy; exact .v _
                | i + 2 => simp at hx
          · rw [h1] at h
            simp only [Option.some.injEq] at h
            subst h
            rw [e3] at h2
            rw [h2] at hfk
            refine ⟨if ok = true then .tuple #[y, .bool true] else y, by
              simp [Instr.lookup, run_underlying' hT, MapKept.run_getObj_map hh, hck, hfk], ?_⟩
            cases ok
            · exact h3
            · exact .tup _ _ rfl fun i x y hx hy => by
                match i with
                | 0 => simp at hx hy; subst hx; subst hy; exact h3
                | 1 => simp at hx hy; subst hx; subst hy; exact .v _
                | i + 2 => simp at hx
      · cases h
    · cases h
  · cases h

theorem mapSet_sound (S : Sim F h0 w0 nt ρ st a w) {T s g : Nat} {m x y : AV} {e : Ent} {mv xv yv : Value} (h : mapSetA P st T m x y = some (s, g, e))
    (hm : RelV (ctx h0 w0 ρ st w) m mv) (hx : RelV (ctx h0 w0 ρ st w) x xv) (hy : RelV (ctx h0 w0 ρ st w) y yv) :
    ∃ w', (Instr.mapUpdate T mv xv yv).run P w = .ok () w' ∧ Sim F h0 w0 nt ρ (st.setH s g (some e)) a w' := by
  unfold mapSetA at h
  split at h
  · rename_i s' g'
    split at h
    · rename_i es k zd he hi
      split at h
      · rename_i hk
        obtain ⟨hk, hst⟩ := hk
        simp only [Option.some.injEq, Prod.mk.injEq] at h
        obtain ⟨rfl, rfl, rfl⟩ := h
        obtain ⟨e, l, zv, hT, hl, hmk, hz, hzr⟩ := mapInfo_spec hi
        obtain ⟨_, _, b, arr, clock, hρ, hbase, hh, hml⟩ := S.ent s' g' _ he
        obtain ⟨l', us, vs, e1, e2, e3, e4, _⟩ := key_val hk.1 hx hx
        rw [hl] at e1
        cases e1
        have hvs : vs = us := by
          rw [e3] at e4
          have hlen := leafyV_len _ _ _ e2
          cases hagg : isAggT P k with
          | true => rw [hagg] at e4; simpa [mk] using e4.symm
          | false =>
            have h1 := eqLeaves_plain 20 k l hl hagg
            obtain ⟨p, rfl⟩ := List.length_eq_one_iff.1 (hlen.1.trans h1)
            obtain ⟨q, rfl⟩ := List.length_eq_one_iff.1 (hlen.2.trans h1)
            rw [hagg] at e4
            simpa [mk] using e4.symm
        subst hvs
        have hkeys := keysL_of hl hx e3 e2 hk.2 hml
        clear e4
        subst e3
        have hb' : blkOf (ρ s' g') = some b := by rw [hρ]; rfl
        have grown : ∀ o, w.grownBy { w with heap := w.heap.setIfInBounds b o } (some b) := fun o => ⟨rfl, rfl, rfl, by simp, fun k _ hk => by
          have hne : b ≠ k := fun e => hk (by rw [e])
          simp [hne]⟩
        cases hm with
        | mp _ _ hg ho =>
          show ∃ w', (Instr.mapUpdate T (ρ s' g') _ yv).run P w = .ok () w' ∧ _
          have hck := run_checkKey' w hl hmk e2 false
          have hfk := run_findKey' w hl hmk e2 hkeys
          have hlt : b < w.heap.size := (Array.getElem?_eq_some_iff.1 hh).1
          rcases mset_spec (z := y) hx hy 0 hk.2 hml with ⟨h1, h2⟩ | ⟨v, j, h1, ⟨m0, hm0, hmk0⟩, h3⟩
          · rw [h1] at hfk
            refine ⟨_, by
              rw [hρ]
              simp only [Instr.mapUpdate, Sem.run_bind, run_underlying' hT, MapKept.run_getObj_map hh, Result.andThen_ok, hck, hfk, MapKept.run_setObj_map _ hh]
              rfl, S.store he hb' (grown _) fun C kk => ?_⟩
            refine ⟨b, arr.push { key := mk (isAggT P k) vs, val := yv, born := clock }, clock + 1, hρ, hbase, by simp [hlt], ?_⟩
            have := (h2 clock).le kk
            simpa using this
          · rw [h1] at hfk
            have hst := run_stays (P := P) w (agg := isAggT P k) e2 (eqLeaves_plain 20 k l hl)
            have hm0' : arr[j]? = some m0 := by simpa using hm0
            have hkey : ((arr[0 + j]?).map (·.key)).getD (mk (isAggT P k) vs) = mk (isAggT P k) vs := by
              rw [Nat.zero_add, hm0']
              simp [hmk0]
            refine ⟨_, by
              rw [hρ]
              simp only [Instr.mapUpdate, Sem.run_bind, run_underlying' hT, MapKept.run_getObj_map hh, Result.andThen_ok, hck, hfk, hkey, hst, MapKept.run_setObj_map _ hh]
              rfl, S.store he hb' (grown _) fun C kk => ?_⟩
            refine ⟨b, arr.modify (0 + j) fun e => { e with key := mk (isAggT P k) vs, val := yv }, clock, hρ, hbase, by simp [hlt], ?_⟩
            have := h3.le kk
            simpa [Array.toList_modify] using this
      · cases h
    · cases h
  · cases h
end
end Go.Ab
