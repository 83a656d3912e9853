/-
  Part Ab15 of the proof: an evaluator of the programs written in Lean once, and its soundness.
-/
import Derived.Test.YtmcjkemalibacaaAb14
set_option linter.all false
namespace Go.Ab
open Classical
variable [Ext]

section
variable {P : Program}

theorem lend_new {h0 : Nat → Obj → Prop} {w w' : World} : (bare (lendH h0 w w')).Le (bare (newHs h0 w w' [])) :=
  ⟨fun b o h => ⟨h.1, h.2, by simp⟩, fun _ => Nat.le_refl _, fun _ _ h => absurd h (by simp [bare])⟩

def resOne (tmps : Array Value) : ResultVar → Sem Value
  | .tmp t => pure (tmps.getD t undef)
  | .cell p t => do loadVar t (← asAddr (tmps.getD p undef))

theorem resVal_sound {h0 : Nat → Obj → Prop} {w0 : World} {F : Frm} {nt : Nat} {ρ : Nat → Nat → Value} {st : St} {a : Act} {w : World} (S : Sim F h0 w0 nt ρ st a w) {rv : ResultVar} {x : AV} (h : resVal P st rv = some x) :
    ∃ y, (resOne a.tmps rv).run P w = .ok y w ∧ RelV (ctx h0 w0 ρ st w) x y := by
  cases rv with
  | tmp t =>
    simp only [resVal, Option.some.injEq] at h
    subst h
    exact ⟨_, rfl, S.env t⟩
  | cell p T =>
    simp only [resVal] at h
    cases hra : readAt st (st.env p) with
    | none => simp [hra, bnd] at h
    | some cs =>
      simp only [hra, bnd] at h
      obtain ⟨b, off, arr, B, fr, hu, _, _⟩ := readAt_sound S hra (S.env p)
      obtain ⟨r, hr, hrel⟩ := load_sound S hra h (S.env p)
      rw [hu] at hr
      refine ⟨r, ?_, hrel⟩
      simp only [Instr.loadAt, Instr.sureAddr] at hr
      simp only [resOne, hu, asAddr]
      exact hr

theorem results_list {h0 : Nat → Obj → Prop} {w0 : World} {F : Frm} {nt : Nat} {ρ : Nat → Nat → Value} {st : St} {a : Act} {w : World} (S : Sim F h0 w0 nt ρ st a w) : ∀ (rs : List ResultVar) (xs : List AV), rs.map (resVal P st) = xs.map some →
    ∃ ys, (rs.mapM (resOne a.tmps)).run P w = .ok ys w ∧ RelL (ctx h0 w0 ρ st w) xs ys
  | [], xs, h => by
    cases xs with
    | nil => exact ⟨[], rfl, .nil _⟩
    | cons x xs => simp at h
  | r :: rs, xs, h => by
    cases xs with
    | nil => simp at h
    | cons x xs =>
      simp only [List.map_cons, List.cons.injEq] at h
      obtain ⟨y, hy, hrel⟩ := resVal_sound S h.1
      obtain ⟨ys, hys, hrels⟩ := results_list S rs xs h.2
      refine ⟨y :: ys, ?_, .cons hrel hrels⟩
      rw [List.mapM_cons, run_ok_bind hy, run_ok_bind hys]
      rfl

theorem finish_sound {h0 : Nat → Obj → Prop} {w0 : World} {F : Frm} {nt : Nat} {ρ : Nat → Nat → Value} {st : St} {a : Act} {w : World} (S : Sim F h0 w0 nt ρ st a w) {fn : Func} {r : AV} (h : finishA P fn st = some r) :
    ∃ v, (results fn a.tmps).run P w = .ok v w ∧ RelR h0 w0 w r v := by
  have hres : ∀ (ys : List Value), (fn.results.toList.mapM (resOne a.tmps)).run P w = .ok ys w →
      (results fn a.tmps).run P w = .ok (if h : ys.toArray.size = 1 then ys.toArray[0] else .tuple ys.toArray) w := by
    intro ys hys
    have e : results fn a.tmps = (do let vs ← fn.results.mapM (resOne a.tmps); pure (if h : vs.size = 1 then vs[0] else .tuple vs)) := by
      unfold results
      congr 1
    rw [e, Array.mapM_eq_mapM_toList]
    simp only [Sem.run_bind, Sem.run_map, hys, Result.andThen_ok, Sem.run_pure]
  unfold finishA at h
  split at h
  · rename_i r1 hr1
    cases h1 : resVal P st r1 with
    | none => simp [h1, bnd] at h
    | some x =>
      simp only [h1, bnd] at h
      obtain ⟨ys, hys, hrel⟩ := results_list (P := P) S [r1] [x] (by simp [h1])
      have hlen := hrel.len
      obtain ⟨y, rfl⟩ : ∃ y, ys = [y] := by
        cases ys with
        | nil => simp at hlen
        | cons y ys => cases ys with
          | nil => exact ⟨y, rfl⟩
          | cons z zs => simp at hlen
      have hxy := hrel.head
      have hrun := hres [y] (by rw [hr1]; exact hys)
      simp at hrun
      refine ⟨y, hrun, ?_⟩
      unfold expoR at h
      split at h
      · rename_i s g
        split at h
        · rename_i e sz n cs he
          split at h
          · rename_i hf
            simp only [Option.some.injEq] at h
            subst h
            obtain ⟨_, _, xs, ho, hc⟩ := S.ent s g _ he
            cases hxy with
            | own _ _ hg h1' =>
              refine ⟨[ρ s g], fun x hx => by simp at hx; subst hx; exact h1', fun i j x y b hi hj _ _ => by
                have := (List.getElem?_eq_some_iff.1 hi).1
                have := (List.getElem?_eq_some_iff.1 hj).1
                simp only [List.length_singleton] at *
                omega, fun x hx b hb => by simp at hx; subst hx; exact (ownsR_blk ho b hb).1, fun d c => rfl, fun D d c hD hρ => ?_⟩
              obtain ⟨k1, k2⟩ := hρ 0 _ rfl
              simp only [Nat.add_zero] at k1 k2
              refine ⟨?_, fun i e' x hi hx => ?_⟩
              · have := RelV.own (C := D) d c k1 (by rw [k2]; exact h1')
                rw [k2] at this
                exact this
              · match i with
                | 0 =>
                  simp only [opn, opn1, opnC, List.getElem?_cons_zero, Option.some.injEq] at hi hx
                  subst hi; subst hx
                  exact ⟨xs, ho, hc.flat hf fun b o hb => hD b o ⟨hb.1, hb.2.1, by simpa using hb.2.2 s g _ he⟩⟩
                | i + 1 => simp at hx
          · cases h
        · cases h
      · exact relR_flat (expo_flat h) ((expo_sound S hxy h).le lend_new)
  · rename_i rs hne
    simp only [Option.map_eq_some_iff] at h
    obtain ⟨ds, hds, rfl⟩ := h
    have hm := optAll_spec _ _ hds
    -- the values themselves
    have hex : ∃ xs : List AV, fn.results.toList.map (resVal P st) = xs.map some ∧ xs.map (expoS st) = ds.map some := by
      generalize fn.results.toList = l at hm
      clear hds
      induction l generalizing ds with
      | nil => cases ds with
        | nil => exact ⟨[], rfl, rfl⟩
        | cons d ds => simp at hm
      | cons r l ih => cases ds with
        | nil => simp at hm
        | cons d ds =>
          simp only [List.map_cons, List.cons.injEq] at hm
          obtain ⟨xs, e1, e2⟩ := ih ds hm.2
          cases hr : resVal P st r with
          | none => simp [hr, bnd] at hm
          | some x =>
            simp only [hr, bnd] at hm
            exact ⟨x :: xs, by simp [hr, e1], by simp [hm.1, e2]⟩
    obtain ⟨xs, e1, e2⟩ := hex
    obtain ⟨ys, hys, hrel⟩ := results_list S _ xs e1
    have hl1 : xs.length = fn.results.toList.length := by have := congrArg List.length e1; simpa using this.symm
    have hl2 : ds.length = xs.length := by have := congrArg List.length e2; simpa using this.symm
    have hne1 : ys.toArray.size ≠ 1 := by
      intro h1
      have hlen := hrel.len
      simp only [List.size_toArray] at h1
      have : fn.results.toList.length = 1 := by omega
      obtain ⟨z, hz⟩ := List.length_eq_one_iff.1 this
      exact hne z hz
    have hrun := hres ys hys
    rw [dif_neg hne1] at hrun
    refine ⟨_, hrun, ?_⟩
    refine relR_flat (.tup ds (optAll_all (p := Flat) (f := fun r => bnd (resVal P st r) (expoS st)) (fun a b h => by
      cases hr : resVal P st a with
      | none => simp [hr, bnd] at h
      | some x => simp only [hr, bnd] at h; exact expoS_flat h) _ _ hds)) (.tup ds ys.toArray (by simp; rw [hl2]; exact hrel.len) fun i x y hx hy => ?_)
    have hi : i < xs.length := by have := (List.getElem?_eq_some_iff.1 hx).1; omega
    have hx' : expoS st xs[i] = some x := by
      have := congrArg (·[i]?) e2
      simp only [List.getElem?_map, hx, List.getElem?_eq_getElem hi, Option.map_some, Option.some.injEq] at this
      exact this
    exact (expoS_sound S (hrel.rel i xs[i] y (by simp [hi]) (by simpa using hy)) hx').le lend_new

/-- A part of a result and the rows that it hands over. -/
def GoodU (w0 : World) (ρ : Nat → Nat → Value) (st : St) (w : World) (d : Nat) (H : Nat → Obj → Prop) (f : Nat → AV → AV × List Ent) (y : AV) (ks : List (Nat × Nat)) (u : Value) : Prop :=
  (∀ k ∈ ks, ∃ e, st.heap k.1 k.2 = some e) ∧ ∀ c, (f c y).2.length = ks.length ∧ ∀ D : Ctx, (∀ b o, H b o → D.h b o) → (∀ (i : Nat) (k : Nat × Nat), ks[i]? = some k → c + i < D.cnt d ∧ D.ρ d (c + i) = ρ k.1 k.2) →
    RelV D (f c y).1 u ∧ ∀ (i : Nat) (e : Ent) (k : Nat × Nat), (f c y).2[i]? = some e → ks[i]? = some k → EntRel D w w0.heap.size (ρ k.1 k.2) e

section keep
variable {h0 : Nat → Obj → Prop} {w0 : World} {F : Frm} {nt : Nat} {ρ : Nat → Nat → Value} {st : St} {a : Act} {w : World} {H : Nat → Obj → Prop}

theorem goodC (S : Sim F h0 w0 nt ρ st a w) (hH : ∀ b o, (ctx h0 w0 ρ st w).h b o → H b o) {x y : AV} {u : Value} (hu : RelV (ctx h0 w0 ρ st w) x u) (h : expoUC st x = some y) (d : Nat) : GoodU w0 ρ st w d H (opnC d) y (ownKey x) u := by
  unfold expoUC at h
  split at h
  · rename_i hf
    simp only [Option.some.injEq] at h
    subst h
    have hk : ownKey x = [] := by cases hf <;> rfl
    rw [hk]
    refine ⟨by simp, fun c => ?_⟩
    rw [opnC_flat hf]
    exact ⟨rfl, fun D hD _ => ⟨hu.flat hf fun b o hb => hD _ _ (hH _ _ hb), by simp⟩⟩
  · split at h
    · rename_i s g _
      split at h
      · rename_i e sz n cs he
        split at h
        · rename_i hf
          simp only [Option.some.injEq] at h
          subst h
          obtain ⟨_, h1, xs, ho, hc⟩ := S.ent s g _ he
          have hu' : u = ρ s g := by cases hu; rfl
          subst hu'
          refine ⟨by simp [ownKey]; exact ⟨_, he⟩, fun c => ⟨rfl, fun D hD hρ => ?_⟩⟩
          obtain ⟨k1, k2⟩ := hρ 0 (s, g) rfl
          simp only [Nat.add_zero] at k1 k2
          refine ⟨?_, fun i e' k hi hk => ?_⟩
          · have := RelV.own (C := D) d c k1 (by rw [k2]; exact h1)
            rw [k2] at this
            exact this
          · match i with
            | 0 =>
              simp only [opnC, ownKey, List.getElem?_cons_zero, Option.some.injEq] at hi hk
              subst hi; subst hk
              exact ⟨xs, ho, hc.flat hf fun b o hb => hD _ _ (hH _ _ hb)⟩
            | i + 1 => simp [ownKey] at hk
        · cases h
      · cases h
    · cases h

theorem goodL {f : Nat → AV → AV × List Ent} {kf : AV → List (Nat × Nat)} {d : Nat} : ∀ (xs ys : List AV) (us : List Value), xs.length = ys.length → xs.length = us.length →
    (∀ (i : Nat) (x y : AV) (u : Value), xs[i]? = some x → ys[i]? = some y → us[i]? = some u → GoodU w0 ρ st w d H f y (kf x) u) →
    (∀ k ∈ xs.flatMap kf, ∃ e, st.heap k.1 k.2 = some e) ∧ ∀ c, (opnL f c ys).2.length = (xs.flatMap kf).length ∧ ∀ D : Ctx, (∀ b o, H b o → D.h b o) →
      (∀ (i : Nat) (k : Nat × Nat), (xs.flatMap kf)[i]? = some k → c + i < D.cnt d ∧ D.ρ d (c + i) = ρ k.1 k.2) →
      RelL D (opnL f c ys).1 us ∧ ∀ (i : Nat) (e : Ent) (k : Nat × Nat), (opnL f c ys).2[i]? = some e → (xs.flatMap kf)[i]? = some k → EntRel D w w0.heap.size (ρ k.1 k.2) e
  | [], ys, us, h1, h2, _ => by
    have e1 : ys = [] := List.length_eq_zero_iff.1 (by simpa using h1.symm)
    have e2 : us = [] := List.length_eq_zero_iff.1 (by simpa using h2.symm)
    subst e1; subst e2
    exact ⟨by simp, fun c => ⟨rfl, fun D _ _ => ⟨.nil _, by simp [opnL]⟩⟩⟩
  | x :: xs, [], us, h1, _, _ => by simp at h1
  | x :: xs, y :: ys, [], _, h2, _ => by simp at h2
  | x :: xs, y :: ys, u :: us, h1, h2, hg => by
    obtain ⟨g1, g2⟩ := hg 0 x y u rfl rfl rfl
    obtain ⟨i1, i2⟩ := goodL xs ys us (by simpa using h1) (by simpa using h2) fun i x' y' u' hx hy hu => hg (i + 1) x' y' u' (by simpa using hx) (by simpa using hy) (by simpa using hu)
    refine ⟨fun k hk => ?_, fun c => ?_⟩
    · simp only [List.flatMap_cons, List.mem_append] at hk
      rcases hk with hk | hk
      · exact g1 k hk
      · exact i1 k hk
    · obtain ⟨l1, m1⟩ := g2 c
      obtain ⟨l2, m2⟩ := i2 (c + (f c y).2.length)
      rw [l1] at l2 m2
      simp only [opnL, List.flatMap_cons, List.length_append, l1]
      refine ⟨by rw [l2], fun D hD hρ => ?_⟩
      obtain ⟨r1, e1⟩ := m1 D hD fun i k hk => hρ i k (by rw [List.getElem?_append_left (List.getElem?_eq_some_iff.1 hk).1]; exact hk)
      obtain ⟨r2, e2⟩ := m2 D hD fun i k hk => by
        have := hρ ((kf x).length + i) k (by rw [List.getElem?_append_right (by omega)]; simpa using hk)
        rw [Nat.add_assoc]
        exact this
      refine ⟨.cons r1 r2, fun i e k hi hk => ?_⟩
      by_cases hlt : i < (kf x).length
      · rw [List.getElem?_append_left (by rw [l1]; exact hlt)] at hi
        rw [List.getElem?_append_left hlt] at hk
        exact e1 i e k hi hk
      · rw [List.getElem?_append_right (by rw [l1]; omega), l1] at hi
        rw [List.getElem?_append_right (by omega)] at hk
        exact e2 _ e k hi hk

theorem optAll_get {α β : Type} {f : α → Option β} {l : List α} {r : List β} (h : optAll (l.map f) = some r) : l.length = r.length ∧ ∀ (i : Nat) x y, l[i]? = some x → r[i]? = some y → f x = some y := by
  have hm := optAll_spec _ _ h
  have hl : l.length = r.length := by have := congrArg List.length hm; simpa using this
  refine ⟨hl, fun i x y hx hy => ?_⟩
  have := congrArg (·[i]?) hm
  simp only [List.getElem?_map, hx, hy, Option.map_some, Option.some.injEq] at this
  exact this

theorem good1 (S : Sim F h0 w0 nt ρ st a w) (hH : ∀ b o, (ctx h0 w0 ρ st w).h b o → H b o) {x y : AV} {u : Value} (hu : RelV (ctx h0 w0 ρ st w) x u) (h : expoU1 st x = some y) (d : Nat) : GoodU w0 ρ st w d H (opn1 d) y (ownKeys1 x) u := by
  cases x
  case agg cs =>
    simp only [expoU1, Option.map_eq_some_iff] at h
    obtain ⟨ds, hds, rfl⟩ := h
    obtain ⟨hl, hget⟩ := optAll_get hds
    cases hu with
    | agg _ ar hla hr h1 =>
      obtain ⟨g1, g2⟩ := goodL (w0 := w0) (ρ := ρ) (st := st) (w := w) (H := H) (f := opnC d) (kf := ownKey) (d := d) cs ds ar.toList hl (by simpa using hla) fun i x y v hx hy hv => goodC S hH (hr i x v hx (by simpa using hv)) (hget i x y hx hy) d
      refine ⟨g1, fun c => ?_⟩
      obtain ⟨l1, m1⟩ := g2 c
      refine ⟨l1, fun D hD hρ => ?_⟩
      obtain ⟨r1, e1⟩ := m1 D hD hρ
      exact ⟨.agg _ ar (by simpa using r1.len) (fun i x y hx hy => r1.rel i x y hx (by simpa using hy)) h1, e1⟩
  all_goals
    have g := goodC S hH hu h d
    cases y <;> first | exact g | skip
    all_goals
      exfalso
      simp only [expoU1] at h
      unfold expoUC at h
      split at h
      · simp at h
      · simp at h
        try (split at h <;> (try split at h) <;> simp at h)

theorem goodU (S : Sim F h0 w0 nt ρ st a w) (hH : ∀ b o, (ctx h0 w0 ρ st w).h b o → H b o) {x y : AV} {u : Value} (hu : RelV (ctx h0 w0 ρ st w) x u) (h : expoU st x = some y) (d : Nat) : GoodU w0 ρ st w d H (opn d) y (ownKeys x) u := by
  cases x
  case tup cs =>
    simp only [expoU, Option.map_eq_some_iff] at h
    obtain ⟨ds, hds, rfl⟩ := h
    obtain ⟨hl, hget⟩ := optAll_get hds
    cases hu with
    | tup _ ar hla hr =>
      obtain ⟨g1, g2⟩ := goodL (w0 := w0) (ρ := ρ) (st := st) (w := w) (H := H) (f := opn1 d) (kf := ownKeys1) (d := d) cs ds ar.toList hl (by simpa using hla) fun i x y v hx hy hv => good1 S hH (hr i x v hx (by simpa using hv)) (hget i x y hx hy) d
      refine ⟨g1, fun c => ?_⟩
      obtain ⟨l1, m1⟩ := g2 c
      refine ⟨l1, fun D hD hρ => ?_⟩
      obtain ⟨r1, e1⟩ := m1 D hD hρ
      exact ⟨.tup _ ar (by simpa using r1.len) (fun i x y hx hy => r1.rel i x y hx (by simpa using hy)), e1⟩
  case agg cs =>
    have g := good1 S hH hu h d
    cases y <;> first | exact g | (simp only [expoU, expoU1, Option.map_eq_some_iff] at h; obtain ⟨_, _, h⟩ := h; cases h)
  all_goals
    have g := goodC S hH hu h d
    cases y <;> first | exact g | skip
    all_goals
      exfalso
      simp only [expoU, expoU1] at h
      unfold expoUC at h
      split at h
      · simp at h
      · simp at h
        try (split at h <;> (try split at h) <;> simp at h)

theorem expoU_sound (S : Sim F h0 w0 nt ρ st a w) {x r : AV} {u : Value} (hu : RelV (ctx h0 w0 ρ st w) x u) (hn : (ownKeys x).Nodup) (h : expoU st x = some r) : RelR h0 w0 w r u := by
  have hH : ∀ b o, (ctx h0 w0 ρ st w).h b o → newHs h0 w0 w ((ownKeys x).map fun k => ρ k.1 k.2) b o := fun b o hb => by
    have g := (goodU (H := (ctx h0 w0 ρ st w).h) S (fun _ _ h => h) hu h 0).1
    refine ⟨hb.1, hb.2.1, fun y hy => ?_⟩
    obtain ⟨k, hk, rfl⟩ := List.mem_map.1 hy
    obtain ⟨e, he⟩ := g k hk
    exact hb.2.2 _ _ e he
  have g := fun d => goodU S hH hu h d
  have key : ∀ y ∈ (ownKeys x).map (fun k => ρ k.1 k.2), ∃ k e, k ∈ ownKeys x ∧ y = ρ k.1 k.2 ∧ st.heap k.1 k.2 = some e := fun y hy => by
    obtain ⟨k, hk, rfl⟩ := List.mem_map.1 hy
    obtain ⟨e, he⟩ := (g 0).1 k hk
    exact ⟨k, e, hk, rfl, he⟩
  refine ⟨(ownKeys x).map fun k => ρ k.1 k.2, fun y hy => ?_, fun i j y z b hy hz hb hb' => ?_, fun y hy b hb => ?_, fun d c => by rw [((g d).2 c).1]; simp, fun D d c hD hρ => ?_⟩
  · obtain ⟨k, e, _, rfl, he⟩ := key y hy
    exact (S.ent _ _ e he).2.1
  · rw [List.getElem?_map] at hy hz
    cases hi : (ownKeys x)[i]? with
    | none => simp [hi] at hy
    | some k => cases hj : (ownKeys x)[j]? with
      | none => simp [hj] at hz
      | some k' =>
        simp only [hi, hj, Option.map_some, Option.some.injEq] at hy hz
        subst hy; subst hz
        obtain ⟨e, he⟩ := (g 0).1 k (List.mem_of_getElem? hi)
        obtain ⟨e', he'⟩ := (g 0).1 k' (List.mem_of_getElem? hj)
        obtain ⟨q1, q2⟩ := S.inj _ _ _ _ e e' b he he' hb hb'
        have hkk : k = k' := Prod.ext q1 q2
        subst hkk
        obtain ⟨hil, hie⟩ := List.getElem?_eq_some_iff.1 hi
        obtain ⟨hjl, hje⟩ := List.getElem?_eq_some_iff.1 hj
        have hp := List.pairwise_iff_getElem.1 hn
        rcases Nat.lt_trichotomy i j with hlt | heq | hlt
        · exact absurd (hie.trans hje.symm) (hp i j hil hjl hlt)
        · exact heq
        · exact absurd (hje.trans hie.symm) (hp j i hjl hil hlt)
  · obtain ⟨k, e, _, rfl, he⟩ := key y hy
    exact ((S.ent _ _ e he).2.2.blk b hb).1
  · obtain ⟨r1, e1⟩ := ((g d).2 c).2 D hD fun i k hk => hρ i _ (by rw [List.getElem?_map, hk]; rfl)
    refine ⟨r1, fun i e y hi hy => ?_⟩
    rw [List.getElem?_map] at hy
    cases hk : (ownKeys x)[i]? with
    | none => simp [hk] at hy
    | some k =>
      simp only [hk, Option.map_some, Option.some.injEq] at hy
      subst hy
      exact e1 i e k hi hk
end keep

theorem finishK_sound {h0 : Nat → Obj → Prop} {w0 : World} {F : Frm} {nt : Nat} {ρ : Nat → Nat → Value} {st : St} {a : Act} {w : World} (S : Sim F h0 w0 nt ρ st a w) {fn : Func} {r : AV} (h : finishK P fn st = some r) :
    ∃ v, (results fn a.tmps).run P w = .ok v w ∧ RelR h0 w0 w r v := by
  have hres : ∀ (ys : List Value), (fn.results.toList.mapM (resOne a.tmps)).run P w = .ok ys w →
      (results fn a.tmps).run P w = .ok (if h : ys.toArray.size = 1 then ys.toArray[0] else .tuple ys.toArray) w := by
    intro ys hys
    have e : results fn a.tmps = (do let vs ← fn.results.mapM (resOne a.tmps); pure (if h : vs.size = 1 then vs[0] else .tuple vs)) := by
      unfold results
      congr 1
    rw [e, Array.mapM_eq_mapM_toList]
    simp only [Sem.run_bind, Sem.run_map, hys, Result.andThen_ok, Sem.run_pure]
  unfold finishK at h
  split at h
  · rename_i r1 hr1
    cases h1 : resVal P st r1 with
    | none => simp [h1, bnd] at h
    | some x =>
      simp only [h1, bnd] at h
      split at h
      · rename_i hn
        obtain ⟨ys, hys, hrel⟩ := results_list (P := P) S [r1] [x] (by simp [h1])
        have hlen := hrel.len
        obtain ⟨y, rfl⟩ : ∃ y, ys = [y] := by
          cases ys with
          | nil => simp at hlen
          | cons y ys => cases ys with
            | nil => exact ⟨y, rfl⟩
            | cons z zs => simp at hlen
        have hrun := hres [y] (by rw [hr1]; exact hys)
        simp at hrun
        exact ⟨y, hrun, expoU_sound S hrel.head hn h⟩
      · cases h
  · rename_i rs hne
    cases hxs : optAll (fn.results.toList.map fun r => resVal P st r) with
    | none => simp [hxs, bnd] at h
    | some xs =>
      simp only [hxs, bnd] at h
      split at h
      · rename_i hn
        have e1 := optAll_spec _ _ hxs
        obtain ⟨ys, hys, hrel⟩ := results_list S _ xs e1
        have hl1 : xs.length = fn.results.toList.length := by have := congrArg List.length e1; simpa using this.symm
        have hne1 : ys.toArray.size ≠ 1 := by
          intro h1
          have hlen := hrel.len
          simp only [List.size_toArray] at h1
          have : fn.results.toList.length = 1 := by omega
          obtain ⟨z, hz⟩ := List.length_eq_one_iff.1 this
          exact hne z hz
        have hrun := hres ys hys
        rw [dif_neg hne1] at hrun
        exact ⟨_, hrun, expoU_sound S (.tup xs ys.toArray (by simpa using hrel.len) fun i x y hx hy => hrel.rel i x y hx (by simpa using hy)) hn h⟩
      · cases h

theorem finishF_sound {h0 : Nat → Obj → Prop} {w0 : World} {F : Frm} {nt : Nat} {ρ : Nat → Nat → Value} {st : St} {a : Act} {w : World} (S : Sim F h0 w0 nt ρ st a w) {f : Nat} {fn : Func} {r : AV} (h : finishF P f fn st = some r) :
    ∃ v, (results fn a.tmps).run P w = .ok v w ∧ RelR h0 w0 w r v := by
  unfold finishF at h
  split at h
  · exact finishK_sound S h
  · exact finish_sound S h

theorem init_sim {h0 : Nat → Obj → Prop} {w : World} {xs : List AV} {vs : Array Value} {nt : Nat} (hh : ∀ b o, h0 b o → w.heap[b]? = some o) (hrel : RelL (bare h0) xs vs.toList) :
    Sim Frm.none h0 w nt (fun _ _ => undef) (St.init xs) { tmps := vs ++ Array.replicate (nt - vs.size) undef, defers := [] } w := by
  have k : (bare h0).Le (ctx h0 w (fun _ _ => undef) (St.init xs) w) := ⟨fun b o h => ⟨hh b o h, fun _ => h, fun s g e he => by simp [St.init] at he⟩, fun _ => Nat.le_refl _, fun _ _ h => absurd h (by simp [bare])⟩
  refine ⟨fun t => ?_, fun s g e he => by simp [St.init] at he, fun s g s' g' e e' b he => by simp [St.init] at he, ⟨rfl, rfl, rfl, Nat.le_refl _, fun _ _ _ => rfl⟩, by simp; omega, rfl, ⟨fun x v h => h.elim, fun b o h => h.elim, Nat.zero_le _⟩⟩
  have hlen := hrel.len
  simp only [Array.length_toList] at hlen
  show RelV _ ((xs[t]?).getD (.v undef)) _
  by_cases ht : t < vs.size
  · have hx : xs[t]? = some (xs[t]'(by omega)) := by simp [show t < xs.length by omega]
    have hy : vs.toList[t]? = some vs[t] := by simp [ht]
    have := (hrel.rel t _ _ hx hy).le k
    rw [hx]
    simp only [Option.getD_some]
    have e : (vs ++ Array.replicate (nt - vs.size) undef).getD t undef = vs[t] := by
      simp [Array.getElem?_append_left ht, ht]
    rw [e]
    exact this
  · have hx : xs[t]? = none := List.getElem?_eq_none (by omega)
    rw [hx]
    have e : (vs ++ Array.replicate (nt - vs.size) undef).getD t undef = undef := by
      rw [Array.getD_eq_getD_getElem?, Array.getElem?_append_right (by omega), Array.getElem?_replicate]
      split <;> rfl
    rw [e]
    exact .v _

/-- What is known of calls that were proved elsewhere holds. -/
def ExtOk (P : Program) : Prop := CallOk P Ext.ext

/-- The registers of a callee that runs in its caller's memory. -/
theorem inl_sim {h0 : Nat → Obj → Prop} {w0 : World} {F : Frm} {nt : Nat} {ρ : Nat → Nat → Value} {st : St} {a : Act} {w : World} (S : Sim F h0 w0 nt ρ st a w) {xs : List AV} {vs : Array Value} {n : Nat} (hrel : RelL (ctx h0 w0 ρ st w) xs vs.toList) :
    Sim ⟨fun x v => F.fr x v ∨ ∃ t, x = st.env t ∧ v = a.tmps.getD t undef, F.hb, F.sz⟩ h0 w0 n ρ ((St.init xs).back st) { tmps := vs ++ Array.replicate (n - vs.size) undef, defers := [] } w := by
  have hc : ctx h0 w0 ρ ((St.init xs).back st) w = ctx h0 w0 ρ st w := rfl
  refine ⟨fun t => ?_, fun s g e he => ?_, fun s g s' g' e e' b he he' => S.inj s g s' g' e e' b he he', S.ext, by simp; omega, rfl, ⟨fun x v h => ?_, S.frm.2.1, S.frm.2.2⟩⟩
  · have hlen := hrel.len
    simp only [Array.length_toList] at hlen
    show RelV _ ((xs[t]?).getD (.v undef)) _
    by_cases ht : t < vs.size
    · have hx : xs[t]? = some (xs[t]'(by omega)) := by simp [show t < xs.length by omega]
      have hy : vs.toList[t]? = some vs[t] := by simp [ht]
      have := hrel.rel t _ _ hx hy
      rw [hx]
      simp only [Option.getD_some]
      have e : (vs ++ Array.replicate (n - vs.size) undef).getD t undef = vs[t] := by
        simp [Array.getElem?_append_left ht, ht]
      rw [e]
      exact this
    · have hx : xs[t]? = none := List.getElem?_eq_none (by omega)
      rw [hx]
      have e : (vs ++ Array.replicate (n - vs.size) undef).getD t undef = undef := by
        rw [Array.getD_eq_getD_getElem?, Array.getElem?_append_right (by omega), Array.getElem?_replicate]
        split <;> rfl
      rw [e]
      exact .v _
  · exact S.ent s g e he
  · rcases h with h | ⟨t, rfl, rfl⟩
    · exact S.frm.1 x v h
    · exact S.env t

theorem finishI_sound {h0 : Nat → Obj → Prop} {w0 : World} {F : Frm} {nt : Nat} {ρ : Nat → Nat → Value} {st : St} {a : Act} {w : World} (S : Sim F h0 w0 nt ρ st a w) {fn : Func} {r : AV} (h : finishI P fn st = some r) :
    ∃ v, (results fn a.tmps).run P w = .ok v w ∧ RelV (ctx h0 w0 ρ st w) r v := by
  have hres : ∀ (ys : List Value), (fn.results.toList.mapM (resOne a.tmps)).run P w = .ok ys w →
      (results fn a.tmps).run P w = .ok (if h : ys.toArray.size = 1 then ys.toArray[0] else .tuple ys.toArray) w := by
    intro ys hys
    have e : results fn a.tmps = (do let vs ← fn.results.mapM (resOne a.tmps); pure (if h : vs.size = 1 then vs[0] else .tuple vs)) := by
      unfold results
      congr 1
    rw [e, Array.mapM_eq_mapM_toList]
    simp only [Sem.run_bind, Sem.run_map, hys, Result.andThen_ok, Sem.run_pure]
  unfold finishI at h
  split at h
  · rename_i r1 hr1
    obtain ⟨ys, hys, hrel⟩ := results_list (P := P) S [r1] [r] (by simp [h])
    have hlen := hrel.len
    obtain ⟨y, rfl⟩ : ∃ y, ys = [y] := by
      cases ys with
      | nil => simp at hlen
      | cons y ys => cases ys with
        | nil => exact ⟨y, rfl⟩
        | cons z zs => simp at hlen
    have hrun := hres [y] (by rw [hr1]; exact hys)
    simp at hrun
    exact ⟨y, hrun, hrel.head⟩
  · rename_i rs hne
    cases hxs : optAll (fn.results.toList.map fun r => resVal P st r) with
    | none => simp [hxs] at h
    | some xs =>
      simp only [hxs, Option.map_some, Option.some.injEq] at h
      subst h
      have e1 := optAll_spec _ _ hxs
      obtain ⟨ys, hys, hrel⟩ := results_list S _ xs e1
      have hl1 : xs.length = fn.results.toList.length := by have := congrArg List.length e1; simpa using this.symm
      have hne1 : ys.toArray.size ≠ 1 := by
        intro h1
        have hlen := hrel.len
        simp only [List.size_toArray] at h1
        have : fn.results.toList.length = 1 := by omega
        obtain ⟨z, hz⟩ := List.length_eq_one_iff.1 this
        exact hne z hz
      have hrun := hres ys hys
      rw [dif_neg hne1] at hrun
      exact ⟨_, hrun, .tup xs ys.toArray (by simpa using hrel.len) fun i x y hx hy => hrel.rel i x y hx (by simpa using hy)⟩

theorem headUniq_spec {xs : List AV} {u : Nat × Nat × Nat × List AV × List AV} (h : headUniq xs = some u) : xs = .uniq u.1 u.2.1 u.2.2.1 u.2.2.2.1 :: u.2.2.2.2 := by
  unfold headUniq at h
  split at h
  · simp only [Option.some.injEq] at h
    subst h
    rfl
  · cases h

/-- The registers of a call to which a row is handed over. -/
theorem initM_sim {h0 : Nat → Obj → Prop} {w : World} {v0 : Value} {e sz m : Nat} {cs xs : List AV} {ys : List Value} {vs : Array Value} {nt : Nat} (hh : ∀ b o, h0 b o → w.heap[b]? = some o) (hne : ∀ b o, h0 b o → blkOf v0 ≠ some b) (ho : ownsR w 0 e sz v0 m ys) (hc : CellL (bare h0) cs ys) (hrel : RelL (bare h0) xs vs.toList) :
    Sim ⟨fun _ _ => False, fun b o => w.heap[b]? = some o ∧ blkOf v0 ≠ some b, w.heap.size⟩ h0 { w with heap := #[] } nt (fun s g => if s = 0 ∧ g = 0 then v0 else undef) (St.initM e sz m cs xs) { tmps := (#[v0] ++ vs) ++ Array.replicate (nt - (#[v0] ++ vs).size) undef, defers := [] } w := by
  have hown : ∀ s g e', (St.initM e sz m cs xs).heap s g = some e' → s = 0 ∧ g = 0 ∧ e' = .row e sz m cs := fun s g e' h => by
    simp only [St.initM] at h
    split at h
    · rename_i h1; cases h; exact ⟨h1.1, h1.2, rfl⟩
    · cases h
  have k : (bare h0).Le (ctx h0 { w with heap := #[] } (fun s g => if s = 0 ∧ g = 0 then v0 else undef) (St.initM e sz m cs xs) w) :=
    ⟨fun b o h => ⟨hh b o h, fun hlt => by simp at hlt, fun s g e' he => by
      obtain ⟨rfl, rfl, _⟩ := hown _ _ _ he
      exact hne b o h⟩, fun _ => Nat.zero_le _, fun _ _ h => absurd h (by simp [bare])⟩
  refine ⟨fun t => ?_, fun s g e' he => ?_, fun s g s' g' e1 e2 b he he' _ _ => ?_, ⟨rfl, rfl, rfl, Nat.zero_le _, fun b hb _ => by simp at hb⟩, by simp; omega, rfl, ⟨fun x v h => h.elim, fun b o h => ⟨h.1, fun hlt => by simp at hlt, fun s g e' he => ?_⟩, Nat.le_refl _⟩⟩
  · have hlen := hrel.len
    simp only [Array.length_toList] at hlen
    cases t with
    | zero =>
      have e0 : ((#[v0] ++ vs) ++ Array.replicate (nt - (#[v0] ++ vs).size) undef).getD 0 undef = v0 := by
        simp [Array.getElem?_append]
      rw [e0]
      have := RelV.own (C := ctx h0 { w with heap := #[] } (fun s g => if s = 0 ∧ g = 0 then v0 else undef) (St.initM e sz m cs xs) w) 0 0 (by show 0 < (St.initM e sz m cs xs).cnt 0; simp [St.initM]) (by show (if (0 : Nat) = 0 ∧ (0 : Nat) = 0 then v0 else undef).oneCell' = true; simp; exact ownsR_one ho)
      have e1 : (ctx h0 { w with heap := #[] } (fun s g => if s = 0 ∧ g = 0 then v0 else undef) (St.initM e sz m cs xs) w).ρ 0 0 = v0 := by show (if (0 : Nat) = 0 ∧ (0 : Nat) = 0 then v0 else undef) = v0; simp
      rw [e1] at this
      exact this
    | succ t =>
      show RelV _ ((xs[t]?).getD (.v undef)) _
      by_cases ht : t < vs.size
      · have hx : xs[t]? = some (xs[t]'(by omega)) := by simp [show t < xs.length by omega]
        have hy : vs.toList[t]? = some vs[t] := by simp [ht]
        have := (hrel.rel t _ _ hx hy).le k
        rw [hx]
        simp only [Option.getD_some]
        have e2 : ((#[v0] ++ vs) ++ Array.replicate (nt - (#[v0] ++ vs).size) undef).getD (t + 1) undef = vs[t] := by
          rw [Array.getD_eq_getD_getElem?, Array.getElem?_append_left (by simp; omega), Array.getElem?_append_right (by simp)]
          simp [ht]
        rw [e2]
        exact this
      · have hx : xs[t]? = none := List.getElem?_eq_none (by omega)
        rw [hx]
        have e2 : ((#[v0] ++ vs) ++ Array.replicate (nt - (#[v0] ++ vs).size) undef).getD (t + 1) undef = undef := by
          rw [Array.getD_eq_getD_getElem?, Array.getElem?_append_right (by simp; omega), Array.getElem?_replicate]
          split <;> rfl
        rw [e2]
        exact .v _
  · obtain ⟨rfl, rfl, rfl⟩ := hown _ _ _ he
    refine ⟨by simp [St.initM], by simp; exact ownsR_one ho, ?_⟩
    simp only [and_self, if_true]
    exact ⟨ys, ho, hc.le k⟩
  · obtain ⟨rfl, rfl, _⟩ := hown _ _ _ he
    obtain ⟨rfl, rfl, _⟩ := hown _ _ _ he'
    exact ⟨rfl, rfl⟩
  · obtain ⟨rfl, rfl, _⟩ := hown _ _ _ he
    exact h.2

theorem runM_ok (hm : P.follows .mixedOrders = true) {call : Nat → List AV → Option AV} {inl : Nat → List AV → St → Option (AV × St)} (hcall : CallOk P call) (hinl : InlOk P inl) {n g : Nat} {xs : List AV} {u : Nat × Nat × Nat × List AV × List AV} (hq : headUniq xs = some u) {r : AV}
    (h : runM P call inl n g u.1 u.2.1 u.2.2.1 u.2.2.2.1 u.2.2.2.2 = some r) : Enters P g ∧ SoundX P g xs r := by
  have hxs := headUniq_spec hq
  subst hxs
  obtain ⟨e, sz, m, cs, rest⟩ := u
  simp only at h ⊢
  unfold runM at h
  cases hf : P.funcs[g]? with
  | none => simp [hf] at h
  | some fn =>
    simp only [hf] at h
    split at h
    · rename_i hok
      cases hb : fn.body with
      | none => simp [hb] at h
      | some c =>
        simp only [hb] at h
        simp only [fnOk, fnOkB, hb, Bool.and_eq_true, bne_iff_ne, ne_eq] at hok
        refine ⟨⟨fn, hf, by simpa using hok.1, by simp [hb]⟩, ?_⟩
        show SoundM P g e sz m cs rest r
        intro w h0 v0 ys vs hh hne ho hcl hrel
        cases h1 : evC P (codeInl c) call inl n c (St.initM e sz m cs rest) with
        | none => simp [h1, bnd] at h
        | some es =>
          obtain ⟨ex, sf⟩ := es
          simp only [h1, bnd] at h
          refine calls_of_wp hf hb ?_
          refine evC_sound hm hcall hinl n c (St.initM e sz m cs rest) sf ex _ _ w _ hok.2 (initM_sim hh hne ho hcl hrel) h1 fun ρ' a' w' S' => ?_
          have fin : finishM P fn sf = some r → ∃ e' sz' n' cs', r = .uniq e' sz' n' cs' ∧ a'.defers = [] ∧ ∃ v', (results fn a'.tmps).run P w' = .ok v' w' ∧ w.grownBy w' (blkOf v0) ∧
              ∃ zs, ownsR w' 0 e' sz' v' n' zs ∧ CellL (bare h0) cs' zs ∧ ∀ b, blkOf v' = some b → blkOf v0 = some b ∨ w.heap.size ≤ b := fun h => by
            unfold finishM at h
            split at h
            · rename_i r1 hr1
              split at h
              · rename_i s k hrv
                split at h
                · rename_i e' sz' n' cs' hhp
                  split at h
                  · rename_i hmf
                    simp only [Option.some.injEq] at h
                    subst h
                    obtain ⟨y, hy, hrel'⟩ := results_list (P := P) S' [r1] [.own s k] (by simp [hrv])
                    have hlen := hrel'.len
                    obtain ⟨z, rfl⟩ : ∃ z, y = [z] := by
                      cases y with
                      | nil => simp at hlen
                      | cons y ys => cases ys with
                        | nil => exact ⟨y, rfl⟩
                        | cons z zs => simp at hlen
                    have hz : z = ρ' s k := by
                      have := hrel'.head
                      cases this
                      rfl
                    subst hz
                    have hrun : (results fn a'.tmps).run P w' = .ok (ρ' s k) w' := by
                      have e1 : results fn a'.tmps = (do let vs ← fn.results.mapM (resOne a'.tmps); pure (if h : vs.size = 1 then vs[0] else .tuple vs)) := by
                        unfold results
                        congr 1
                      rw [e1, Array.mapM_eq_mapM_toList, hr1]
                      simp only [Sem.run_bind, Sem.run_map, hy, Result.andThen_ok, Sem.run_pure]
                      simp
                    obtain ⟨_, _, zs, hzo, hzc⟩ := S'.ent s k _ hhp
                    obtain ⟨_, hkb, hsz⟩ := S'.frm
                    refine ⟨e', sz', n', cs', rfl, S'.defers, _, hrun, ⟨S'.ext.os, S'.ext.tape, S'.ext.output, hsz, fun b hb hnb => ?_⟩, zs, ?_, ?_, fun b hb => ?_⟩
                    · have hbo : w.heap[b]? = some w.heap[b] := Array.getElem?_eq_getElem hb
                      rw [hbo]
                      exact (hkb b _ ⟨hbo, fun h => hnb h.symm⟩).1
                    · exact ownsR_base hzo (Nat.zero_le _)
                    · exact ⟨hzc.len, fun i x y hx hy => (hzc.rel i x y hx hy).memFree (hmf x (List.mem_of_getElem? hx)), hzc.one⟩
                    · by_cases h1 : blkOf v0 = some b
                      · exact .inl h1
                      · right
                        rcases Nat.lt_or_ge b w.heap.size with hlt | hge
                        · exfalso
                          have hbo : w.heap[b]? = some w.heap[b] := Array.getElem?_eq_getElem hlt
                          exact (hkb b _ ⟨hbo, h1⟩).2.2 s k _ hhp hb
                        · exact hge
                  · cases h
                · cases h
              · rename_i s k n0 hrv
                split at h
                · rename_i e' sz' n' cs' hhp
                  split at h
                  · rename_i hmf
                    obtain ⟨hkn, hcl', hmf⟩ := hmf
                    simp only [Option.some.injEq] at h
                    subst h
                    obtain ⟨y, hy, hrel'⟩ := results_list (P := P) S' [r1] [.vw s k 0 n0] (by simp [hrv])
                    have hlen := hrel'.len
                    obtain ⟨z, rfl⟩ : ∃ z, y = [z] := by
                      cases y with
                      | nil => simp at hlen
                      | cons y ys => cases ys with
                        | nil => exact ⟨y, rfl⟩
                        | cons z zs => simp at hlen
                    obtain ⟨_, _, zs, hzo, hzc⟩ := S'.ent s k _ hhp
                    obtain ⟨_, hkb, hsz⟩ := S'.frm
                    have hz : ∃ b cap cur, z = .slice (some ⟨b, 0, none⟩) n0 cap ∧ blkOf (ρ' s k) = some b ∧ w'.heap[b]? = some (.cells cur e' (0, 0)) ∧ n0 ≤ cap ∧ cap ≤ maxLen ∧ cur.size = cap * sz' ∧ cur.toList.take (n' * sz') = zs ∧ 0 < cap := by
                      have hv := hrel'.head
                      cases hv with
                      | vw _ _ _ _ b cap hg hb hcap hfull =>
                        have hb' : blkOf (ρ' s k) = some b := hb
                        rcases hzo.2 with ⟨q, hρ, hn⟩ | ⟨b', cap', cur, hρ, hbase, hh, hnc', hcm, hcs, ht, hc0⟩
                        · rw [hρ, blkOf_sl0] at hb'; cases hb'
                        · have hbb : b' = b := by rw [hρ, blkOf_sl hc0] at hb'; simpa using hb'
                          subst hbb
                          have hcc : cap = cap' := hfull rfl _ _ _ hρ
                          subst hcc
                          exact ⟨b', cap, cur, rfl, hb', hh, hcap, hcm, hcs, ht, hc0⟩
                    obtain ⟨b, cap, cur, rfl, hbk, hhb, hcap, hcm, hcs, ht, hc0⟩ := hz
                    have hrun : (results fn a'.tmps).run P w' = .ok (.slice (some ⟨b, 0, none⟩) n0 cap) w' := by
                      have e1 : results fn a'.tmps = (do let vs ← fn.results.mapM (resOne a'.tmps); pure (if h : vs.size = 1 then vs[0] else .tuple vs)) := by
                        unfold results
                        congr 1
                      rw [e1, Array.mapM_eq_mapM_toList, hr1]
                      simp only [Sem.run_bind, Sem.run_map, hy, Result.andThen_ok, Sem.run_pure]
                      simp
                    have hks : n0 * sz' ≤ n' * sz' := Nat.mul_le_mul_right _ hkn
                    refine ⟨e', sz', n0, _, rfl, S'.defers, _, hrun, ⟨S'.ext.os, S'.ext.tape, S'.ext.output, hsz, fun b hb hnb => ?_⟩, zs.take (n0 * sz'), ?_, ?_, fun b1 hb1 => ?_⟩
                    · have hbo : w.heap[b]? = some w.heap[b] := Array.getElem?_eq_getElem hb
                      rw [hbo]
                      exact (hkb b _ ⟨hbo, fun h => hnb h.symm⟩).1
                    · refine ⟨by rw [List.length_take, hzo.1]; omega, .inr ⟨b, cap, cur, rfl, Nat.zero_le _, hhb, hcap, hcm, hcs, ?_, hc0⟩⟩
                      rw [← ht, List.take_take, Nat.min_eq_left hks]
                    · have hz2 : CellL (bare h0) cs' zs := ⟨hzc.len, fun i x y hx hy => (hzc.rel i x y hx hy).memFree (hmf x (List.mem_of_getElem? hx)), hzc.one⟩
                      exact hz2.take _
                    · rw [blkOf_sl hc0] at hb1
                      simp only [Option.some.injEq] at hb1
                      subst hb1
                      by_cases h1 : blkOf v0 = some b
                      · exact .inl h1
                      · right
                        rcases Nat.lt_or_ge b w.heap.size with hlt | hge
                        · exfalso
                          have hbo : w.heap[b]? = some w.heap[b] := Array.getElem?_eq_getElem hlt
                          exact (hkb b _ ⟨hbo, h1⟩).2.2 s k _ hhp hbk
                        · exact hge
                  · cases h
                · cases h
              · cases h
            · cases h
          cases ex with
          | normal => obtain ⟨e', sz', n', cs', rfl, h1, v', h2, h3, h4⟩ := fin h; exact ⟨h1, v', h2, v', rfl, h3, h4⟩
          | ret => obtain ⟨e', sz', n', cs', rfl, h1, v', h2, h3, h4⟩ := fin h; exact ⟨h1, v', h2, v', rfl, h3, h4⟩
          | exit id => cases h
    · cases h

theorem evFI_ok (hm : P.follows .mixedOrders = true) (hx : ExtOk P) : ∀ n, CallOk P (evF P n) ∧ InlOk P (evI P n)
  | 0 => ⟨fun g xs r h => hx g xs r h, fun g xs st r s' h => by cases h⟩
  | n + 1 => by
    obtain ⟨ihc, ihi⟩ := evFI_ok hm hx n
    refine ⟨fun g xs r h => ?_, fun g xs st r s' h => ?_⟩
    · rw [evF_succ] at h
      split at h
      · rename_i r' he
        simp only [Option.some.injEq] at h
        subst h
        exact hx g xs _ he
      · cases hq : headUniq xs with
        | some u =>
          simp only [hq] at h
          exact runM_ok hm ihc ihi hq h
        | none =>
        simp only [hq] at h
        split at h
        · cases h
        rename_i hnu
        unfold runF at h
        cases hf : P.funcs[g]? with
        | none => simp [hf] at h
        | some fn =>
          simp only [hf] at h
          split at h
          · rename_i hok
            cases hb : fn.body with
            | none => simp [hb] at h
            | some c =>
              simp only [hb] at h
              simp only [fnOk, fnOkB, hb, Bool.and_eq_true, bne_iff_ne, ne_eq] at hok
              have hX : SoundC P g xs r → SoundX P g xs r := fun h => by
                unfold SoundX
                split
                · simp [isUniq] at hnu
                · exact h
              refine ⟨⟨fn, hf, by simpa using hok.1, by simp [hb]⟩, hX fun w h0 vs hh hrel => ?_⟩
              cases h1 : evC P (codeInl c) (evF P n) (evI P n) n c (St.init xs) with
              | none => simp [h1, bnd] at h
              | some es =>
                obtain ⟨ex, sf⟩ := es
                simp only [h1, bnd] at h
                refine calls_of_wp hf hb ?_
                refine evC_sound hm ihc ihi n c (St.init xs) sf ex _ _ w _ hok.2 (init_sim hh hrel) h1 fun ρ' a' w' S' => ?_
                have fin : finishF P g fn sf = some r → a'.defers = [] ∧ ∃ v, (results fn a'.tmps).run P w' = .ok v w' ∧ ∃ v', Ending.returned v = .returned v' ∧ RelR h0 w w' r v' ∧ w.grownBy w' none := fun h => by
                  obtain ⟨v, hv, hr⟩ := finishF_sound S' h
                  exact ⟨S'.defers, v, hv, v, rfl, hr, S'.ext⟩
                cases ex with
                | normal => exact fin h
                | ret => exact fin h
                | exit id => cases h
          · cases h
    · rw [evI_succ] at h
      unfold runI at h
      cases hf : P.funcs[g]? with
      | none => simp [hf] at h
      | some fn =>
        simp only [hf] at h
        split at h
        · rename_i hok
          cases hb : fn.body with
          | none => simp [hb] at h
          | some c =>
            simp only [hb] at h
            simp only [fnOkB, hb, Bool.and_eq_true, bne_iff_ne, ne_eq] at hok
            refine ⟨⟨fn, hf, by simpa using hok.1, by simp [hb]⟩, fun F h0 w0 nt ρ a w vs K S hrel hK => ?_⟩
            cases h1 : evC P true (evF P n) (evI P n) n c ((St.init xs).back st) with
            | none => simp [h1, bnd] at h
            | some es =>
              obtain ⟨ex, sf⟩ := es
              simp only [h1, bnd] at h
              refine calls_of_wp hf hb ?_
              refine evC_sound (F := ⟨fun x v => F.fr x v ∨ ∃ t, x = st.env t ∧ v = a.tmps.getD t undef, F.hb, F.sz⟩) hm ihc ihi n c ((St.init xs).back st) sf ex _ _ w _ hok.2 (inl_sim S hrel) h1 fun ρ' a' w' S' => ?_
              have fin : ((finishI P fn sf).map fun x => (x, sf)) = some (r, s') → a'.defers = [] ∧ ∃ v, (results fn a'.tmps).run P w' = .ok v w' ∧ ∃ v', Ending.returned v = .returned v' ∧ K v' w' := fun h => by
                cases hfi : finishI P fn sf with
                | none => simp [hfi] at h
                | some x =>
                  simp only [hfi, Option.map_some, Option.some.injEq, Prod.mk.injEq] at h
                  obtain ⟨rfl, rfl⟩ := h
                  obtain ⟨v, hv, hr⟩ := finishI_sound S' hfi
                  refine ⟨S'.defers, v, hv, v, rfl, hK ρ' w' v ?_ hr⟩
                  exact ⟨fun t => S'.frm.1 _ _ (.inr ⟨t, rfl, rfl⟩), fun s g e he => S'.ent s g e he, fun s g s2 g' e e' b he he' => S'.inj s g s2 g' e e' b he he', S'.ext, S.size, S.defers, ⟨fun x v h => S'.frm.1 x v (.inl h), S'.frm.2.1, S'.frm.2.2⟩⟩
              cases ex with
              | normal => exact fin h
              | ret => exact fin h
              | exit id => cases h
        · cases h
theorem evF_ok (hm : P.follows .mixedOrders = true) (hx : ExtOk P) (n : Nat) : CallOk P (evF P n) := (evFI_ok hm hx n).1
end
end Go.Ab
