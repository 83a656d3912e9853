/-
  Part Ab8 of the proof: an evaluator of the programs written in Lean once, and its soundness.
-/
import Derived.Test.YtmcjkemalibacaaAb7
set_option linter.all false
namespace Go.Ab
open Classical

/-- What a fresh result's rows and value rest on. -/
def RowsFree (es : List Ent) : Prop := ∀ e ∈ es, ∃ a b n cs, e = .row a b n cs ∧ ∀ c ∈ cs, MemFree c
theorem opnC_fresh {x : AV} (h : FreshC x) (d c : Nat) : NoFr (opnC d c x).1 ∧ RowsFree (opnC d c x).2 := by
  cases x
  case uniq e sz n cs => exact ⟨.own _ _, fun e he => by simp [opnC] at he; exact ⟨_, _, _, _, he, h⟩⟩
  all_goals exact ⟨MemFree.noFr h, fun e he => by simp [opnC] at he⟩
theorem opnL_fresh {f : Nat → AV → AV × List Ent} : ∀ (xs : List AV) (c : Nat), (∀ x ∈ xs, ∀ c, NoFr (f c x).1 ∧ RowsFree (f c x).2) → (∀ y ∈ (opnL f c xs).1, NoFr y) ∧ RowsFree (opnL f c xs).2
  | [], c, _ => ⟨by simp [opnL], fun e he => by simp [opnL] at he⟩
  | x :: xs, c, h => by
    obtain ⟨h1, h2⟩ := h x (by simp) c
    obtain ⟨h3, h4⟩ := opnL_fresh xs (c + (f c x).2.length) fun y hy => h y (by simp [hy])
    simp only [opnL]
    refine ⟨fun y hy => ?_, fun e he => ?_⟩
    · rcases List.mem_cons.1 hy with rfl | hy
      · exact h1
      · exact h3 y hy
    · rcases List.mem_append.1 he with he | he
      · exact h2 e he
      · exact h4 e he
theorem opn1_fresh {x : AV} (h : Fresh1 x) (d c : Nat) : NoFr (opn1 d c x).1 ∧ RowsFree (opn1 d c x).2 := by
  cases x
  case agg cs =>
    obtain ⟨h1, h2⟩ := opnL_fresh (f := opnC d) cs c fun x hx c => opnC_fresh (h x hx) d c
    exact ⟨.agg _ h1, h2⟩
  all_goals
    refine @opnC_fresh _ ?_ d c
    exact h
theorem opn_fresh {x : AV} (h : Fresh x) (d c : Nat) : NoFr (opn d c x).1 ∧ RowsFree (opn d c x).2 := by
  cases x
  case tup cs =>
    obtain ⟨h1, h2⟩ := opnL_fresh (f := opn1 d) cs c fun x hx c => opn1_fresh (h x hx) d c
    exact ⟨.tup _ h1, h2⟩
  all_goals
    refine @opn1_fresh _ ?_ d c
    exact h

theorem CellL.memFree {C D : Ctx} {cs : List AV} {ys : List Value} (h : CellL C cs ys) (hm : ∀ c ∈ cs, MemFree c) : CellL D cs ys :=
  ⟨h.len, fun i x y hx hy => (h.rel i x y hx hy).memFree (hm x (List.mem_of_getElem? hx)), h.one⟩
theorem EntRel.free {C D : Ctx} {w : World} {b : Nat} {v : Value} {e : Ent} (h : EntRel C w b v e) (hf : ∃ a s n cs, e = .row a s n cs ∧ ∀ c ∈ cs, MemFree c) : EntRel D w b v e := by
  obtain ⟨a, s, n, cs, rfl, hm⟩ := hf
  obtain ⟨xs, ho, hc⟩ := h
  exact ⟨xs, ho, hc.memFree hm⟩

section
variable {P : Program} {h0 : Nat → Obj → Prop} {w0 : World} {F : Frm} {nt : Nat} {ρ : Nat → Nat → Value} {st : St} {a : Act} {w : World} {K : Act → World → Prop} {Q : Exit → Act → World → Prop}

theorem relL_flat {C D : Ctx} {xs : List AV} {vs : List Value} (h : RelL C xs vs) (hf : ∀ x ∈ xs, Flat x) (hh : ∀ b o, C.h b o → D.h b o) : RelL D xs vs :=
  ⟨h.len, fun i x y hx hy => (h.rel i x y hx hy).flat (hf x (List.mem_of_getElem? hx)) hh⟩

/-- A result is bound. -/
theorem putRes_sound (S : Sim F h0 w0 nt ρ st a w) {H : Nat → Obj → Prop} {w' : World} {r : AV} {v : Value} {dst : Option Nat} {e : Eff} (hr : RelR H w w' r v) (hg : w.grownBy w' none)
    (hH : (∀ b o, H b o → (ctx h0 w0 ρ st w).h b o) ∨ Fresh r) (h : putRes r st dst = some e) (hd : ∀ d, dst = some d → d < nt)
    (hK : ∀ ρ' a' w', Sim F h0 w0 nt ρ' (e.apply st) a' w' → K a' w') : K (a.put dst v) w' := by
  obtain ⟨vs, v1, v2, v3, v4, v5⟩ := hr
  unfold putRes at h
  split at h
  · rename_i hf
    simp only [Option.some.injEq] at h
    subst h
    have hl := v4 0 0
    rw [opn_flat hf] at hl
    have hvs : vs = [] := List.length_eq_zero_iff.1 hl.symm
    subst hvs
    obtain ⟨S', k⟩ := S.grow hg
    refine hK ρ _ _ (S'.put dst hd ?_)
    rcases hH with hH | hH
    · have := (v5 (ctx h0 w0 ρ st w') 0 0 (fun b o hb => by
        by_cases hlt : b < w.heap.size
        · exact k.h _ _ (hH _ _ (hb.2.1 hlt))
        · exact ⟨hb.1, fun h => by have := S.ext.size; omega, fun s g e he => blkOf_ne_fresh S he (by omega)⟩) (by simp)).1
      rw [opn_flat hf] at this
      exact this
    · have := (v5 ⟨newHs H w w' [], ρ, st.cnt⟩ 0 0 (fun b o hb => hb) (by simp)).1
      have hn := (opn_fresh hH 0 0).1
      rw [opn_flat hf] at this hn
      exact this.noFr hn (fun _ => Nat.le_refl _) (fun _ _ _ => rfl)
  · cases dst with
    | none => cases h
    | some d =>
      simp only [Option.some.injEq] at h
      subst h
      obtain ⟨S', k, hh, hnew⟩ := S.news hg d (opn d (st.cnt d) r).2 vs (v4 _ _) v1 v3 v2 (fun C kC hC hρ i e x hi hx => by
        rcases hH with hH | hH
        · exact ((v5 C d (st.cnt d) (fun b o hb => by
            by_cases hlt : b < w.heap.size
            · exact kC.h _ _ (hH _ _ (hb.2.1 hlt))
            · exact hC b o (by omega) hb.1 hb.2.2) hρ).2 i e x hi hx).base S.ext.size
        · have := ((v5 ⟨newHs H w w' vs, C.ρ, C.cnt⟩ d (st.cnt d) (fun b o hb => hb) hρ).2 i e x hi hx).base S.ext.size
          exact this.free ((opn_fresh hH d (st.cnt d)).2 e (List.mem_of_getElem? hi)))
      refine hK _ _ _ (S'.put (some d) hd ?_)
      rcases hH with hH | hH
      · exact (v5 (ctx h0 w0 (upρs ρ d (st.cnt d) vs) (st.news d (opn d (st.cnt d) r).2) w') d (st.cnt d) (fun b o hb => by
            by_cases hlt : b < w.heap.size
            · exact k.h _ _ (hH _ _ (hb.2.1 hlt))
            · exact hh b o (by omega) hb.1 hb.2.2) hnew).1
      · have := (v5 ⟨newHs H w w' vs, upρs ρ d (st.cnt d) vs, (st.news d (opn d (st.cnt d) r).2).cnt⟩ d (st.cnt d) (fun b o hb => hb) hnew).1
        exact this.noFr (opn_fresh hH d (st.cnt d)).1 (fun _ => Nat.le_refl _) (fun _ _ _ => rfl)

theorem soundX_C {P : Program} {g : Nat} {args : List AV} {r : AV} (h : SoundX P g args r) (hn : ∀ x ∈ args, Flat x) : SoundC P g args r := by
  unfold SoundX at h
  split at h
  · rename_i e sz n cs rest
    have := hn _ (List.mem_cons_self ..)
    cases this
  · exact h

theorem callFn_sound (S : Sim F h0 w0 nt ρ st a w) {call : Nat → List AV → Option AV} (hcall : CallOk P call) {g : Nat} {args : List AV} {vs : Array Value} {dst : Option Nat} {e : Eff}
    (h : callFn call g args st dst = some e) (hrel : RelL (ctx h0 w0 ρ st w) args vs.toList) (hd : ∀ d, dst = some d → d < nt)
    (hK : ∀ ρ' a' w', Sim F h0 w0 nt ρ' (e.apply st) a' w' → K a' w') :
    Enters P g ∧ Calls P g vs w fun en w' => ∃ v, en = .returned v ∧ K (a.put dst v) w' := by
  unfold callFn at h
  split at h
  · rename_i hf
    cases hc : call g args with
    | none => simp [hc, bnd] at h
    | some r =>
      obtain ⟨hen, hs⟩ := hcall g args r hc
      refine ⟨hen, ?_⟩
      simp only [hc, bnd] at h
      refine ((soundX_C hs hf) w (ctx h0 w0 ρ st w).h vs (fun b o hb => hb.1) (relL_flat hrel hf fun b o hb => hb)).mono ?_
      rintro en w' ⟨v, rfl, hr, hg⟩
      exact ⟨v, rfl, putRes_sound S hr hg (.inl fun b o hb => hb) h hd hK⟩
  · split at h
    · rename_i xs hxs
      cases hc : call g xs with
      | none => simp [hc, bnd] at h
      | some r =>
        obtain ⟨hen, hs⟩ := hcall g xs r hc
        refine ⟨hen, ?_⟩
        simp only [hc, bnd] at h
        split at h
        · rename_i hm
          have hmm := optAll_spec _ _ hxs
          have hfx : ∀ x ∈ xs, Flat x := optAll_all (fun a b h => expo_flat h) _ _ hxs
          have hlen : xs.length = args.length := by have := congrArg List.length hmm; simpa using this.symm
          have hrel' : RelL (bare (lendH h0 w0 w)) xs vs.toList := ⟨by rw [hlen]; exact hrel.len, fun i x y hx hy => by
            have hi : i < args.length := by have := (List.getElem?_eq_some_iff.1 hx).1; omega
            have hx' : expo st args[i] = some x := by
              have := congrArg (·[i]?) hmm
              simp only [List.getElem?_map, hx, List.getElem?_eq_getElem hi, Option.map_some, Option.some.injEq] at this
              exact this
            exact expo_sound S (hrel.rel i args[i] y (by simp [hi]) hy) hx'⟩
          refine ((soundX_C hs hfx) w (lendH h0 w0 w) vs (fun b o hb => hb.1) hrel').mono ?_
          rintro en w' ⟨v, rfl, hr, hg⟩
          exact ⟨v, rfl, putRes_sound S hr hg (.inr hm) h hd hK⟩
        · cases h
    · cases h

/-- A row that is given up. -/
theorem Sim.drop (S : Sim F h0 w0 nt ρ st a w) (s k : Nat) : Sim F h0 w0 nt ρ (st.setH s k none) a w ∧ (ctx h0 w0 ρ st w).Le (ctx h0 w0 ρ (st.setH s k none) w) := by
  have hs : ∀ s' g' e, (st.setH s k none).heap s' g' = some e → st.heap s' g' = some e := fun s' g' e h => by
    simp only [St.setH] at h
    split at h
    · cases h
    · exact h
  have kk : (ctx h0 w0 ρ st w).Le (ctx h0 w0 ρ (st.setH s k none) w) := ⟨fun b o hb => ⟨hb.1, hb.2.1, fun s' g' e he => hb.2.2 s' g' e (hs s' g' e he)⟩, fun _ => Nat.le_refl _, fun _ _ _ => rfl⟩
  exact ⟨⟨fun t => (S.env t).le kk, fun s' g' e he => ⟨(S.ent s' g' e (hs s' g' e he)).1, (S.ent s' g' e (hs s' g' e he)).2.1, EntRel.world (r := none) (S.ent s' g' e (hs s' g' e he)).2.2 kk ⟨rfl, rfl, rfl, Nat.le_refl _, fun _ _ _ => rfl⟩ (by cases blkOf (ρ s' g') <;> simp)⟩,
    fun s1 g1 s2 g2 e1 e2 b h1 h2 => S.inj s1 g1 s2 g2 e1 e2 b (hs _ _ _ h1) (hs _ _ _ h2), S.ext, S.size, S.defers, ⟨fun x v h => (S.frm.1 x v h).le kk, fun b o h => kk.h b o (S.frm.2.1 b o h), S.frm.2.2⟩⟩, kk⟩
theorem eat1 (S : Sim F h0 w0 nt ρ st a w) {s k : Nat} {c y : AV} {v : Value} (hc : Flat c ∨ c = .own s k) (hu : RelV (ctx h0 w0 ρ st w) c v) (h : expo1 st c = some y) : RelV (bare (ctx h0 w0 ρ (st.setH s k none) w).h) y v ∧ (v.oneCell' = true ∨ y = c) := by
  have kk := (S.drop s k).2
  rcases hc with hf | rfl
  · unfold expo1 at h
    rw [if_pos hf] at h
    simp only [Option.some.injEq] at h
    subst h
    exact ⟨hu.flat hf kk.h, .inr rfl⟩
  · unfold expo1 at h
    rw [if_neg (by intro h; cases h)] at h
    simp only at h
    split at h
    · rename_i e sz n cs he
      split at h
      · rename_i hf
        simp only [Option.some.injEq] at h
        subst h
        obtain ⟨_, ho1, xs, ho, hc⟩ := S.ent s k _ he
        cases hu with
        | own s g hg h1 =>
          refine ⟨ownsRow_sl (fun b o hv hb hbo => ⟨hbo, fun hlt => by omega, fun s' g' e' he' hbb => ?_⟩) ho (hc.flat hf kk.h), .inl h1⟩
          simp only [St.setH] at he'
          split at he'
          · cases he'
          · rename_i hne
            have := S.inj s' g' s k e' _ b he' he hbb hv
            exact hne this
      · cases h
    · cases h
theorem eat_expo (S : Sim F h0 w0 nt ρ st a w) {s k : Nat} {x y : AV} {v : Value} (hx : EatOk x) (hk : ∀ p ∈ ownKeys1 x, p = (s, k)) (hu : RelV (ctx h0 w0 ρ st w) x v) (h : expo st x = some y) : RelV (bare (ctx h0 w0 ρ (st.setH s k none) w).h) y v := by
  have kk := (S.drop s k).2
  by_cases hf : Flat x
  · unfold expo at h
    rw [if_pos hf] at h
    simp only [Option.some.injEq] at h
    subst h
    exact hu.flat hf kk.h
  · rcases hx with hx | ⟨s', k', rfl⟩ | ⟨cs, rfl, hcs⟩
    · exact absurd hx hf
    · have := hk (s', k') (by simp [ownKeys1, ownKey])
      simp only [Prod.mk.injEq] at this
      obtain ⟨rfl, rfl⟩ := this
      unfold expo at h
      rw [if_neg hf] at h
      exact (eat1 S (.inr rfl) hu h).1
    · have hc : ∀ c ∈ cs, Flat c ∨ c = .own s k := fun c hc => by
        rcases hcs c hc with h | ⟨s', k', rfl⟩
        · exact .inl h
        · have := hk (s', k') (by simp only [ownKeys1]; exact List.mem_flatMap.2 ⟨_, hc, by simp [ownKey]⟩)
          simp only [Prod.mk.injEq] at this
          obtain ⟨rfl, rfl⟩ := this
          exact .inr rfl
      unfold expo at h
      rw [if_neg hf] at h
      simp only [Option.map_eq_some_iff] at h
      obtain ⟨ys, hys, rfl⟩ := h
      have hmm := optAll_spec _ _ hys
      have hlen : ys.length = cs.length := by have := congrArg List.length hmm; simpa using this.symm
      cases hu with
      | agg _ arr hl hr h1 =>
        refine .agg ys arr (by omega) (fun i y z hy hz => ?_) h1
        have hi : i < cs.length := by have := (List.getElem?_eq_some_iff.1 hy).1; omega
        have hx' : expo1 st cs[i] = some y := by
          have := congrArg (·[i]?) hmm
          simp only [List.getElem?_map, hy, List.getElem?_eq_getElem hi, Option.map_some, Option.some.injEq] at this
          exact this
        exact (eat1 S (hc _ (List.getElem_mem hi)) (hr i cs[i] z (by simp [hi]) hz) hx').1
theorem eatRes_cases {r : AV} {dst : Option Nat} {s k : Nat} {e : Eff} (h : eatRes r st dst s k = some e) :
    (Flat r ∧ e = { dst := dst, val := r, upd := some (s, k, none) }) ∨
    (¬ Flat r ∧ ∃ e1 sz n cs d, r = .uniq e1 sz n cs ∧ dst = some d ∧ (∀ c ∈ cs, MemFree c) ∧ e = { dst := some d, val := .own d (st.cnt d), upd := some (s, k, none), new := some (d, [.row e1 sz n cs]) }) := by
  unfold eatRes at h
  split at h
  · rename_i hf
    simp only [Option.some.injEq] at h
    exact .inl ⟨hf, h.symm⟩
  · rename_i hf
    split at h
    · rename_i e1 sz n cs d
      split at h
      · rename_i hc
        simp only [Option.some.injEq] at h
        exact .inr ⟨hf, e1, sz, n, cs, d, rfl, rfl, hc, h.symm⟩
      · cases h
    · cases h
theorem callEat_sound (S : Sim F h0 w0 nt ρ st a w) {call : Nat → List AV → Option AV} (hcall : CallOk P call) {g : Nat} {args : List AV} {vs : Array Value} {dst : Option Nat} {e : Eff}
    (h : callEat call g args st dst = some e) (hrel : RelL (ctx h0 w0 ρ st w) args vs.toList) (hd : ∀ d, dst = some d → d < nt)
    (hK : ∀ ρ' a' w', Sim F h0 w0 nt ρ' (e.apply st) a' w' → K a' w') :
    Enters P g ∧ Calls P g vs w fun en w' => ∃ v, en = .returned v ∧ K (a.put dst v) w' := by
  unfold callEat at h
  split at h
  · rename_i s k hkeys
    split at h
    · rename_i hok
      split at h
      · rename_i xs hxs
        cases hc : call g xs with
        | none => simp [hc, bnd] at h
        | some r =>
          obtain ⟨hen, hs⟩ := hcall g xs r hc
          refine ⟨hen, ?_⟩
          simp only [hc, bnd] at h
          have h := eatRes_cases h
          have hmm := optAll_spec _ _ hxs
          have hfx : ∀ x ∈ xs, Flat x := optAll_all (fun a b h => expo_flat h) _ _ hxs
          have hlen : xs.length = args.length := by have := congrArg List.length hmm; simpa using this.symm
          obtain ⟨S1, kk⟩ := S.drop s k
          have hrel' : RelL (bare (ctx h0 w0 ρ (st.setH s k none) w).h) xs vs.toList := ⟨by rw [hlen]; exact hrel.len, fun i x y hx hy => by
            have hi : i < args.length := by have := (List.getElem?_eq_some_iff.1 hx).1; omega
            have hx' : expo st args[i] = some x := by
              have := congrArg (·[i]?) hmm
              simp only [List.getElem?_map, hx, List.getElem?_eq_getElem hi, Option.map_some, Option.some.injEq] at this
              exact this
            refine eat_expo S (hok _ (List.getElem_mem hi)) (fun p hp => ?_) (hrel.rel i args[i] y (by simp [hi]) hy) hx'
            have : p ∈ args.flatMap ownKeys1 := List.mem_flatMap.2 ⟨_, List.getElem_mem hi, hp⟩
            rw [hkeys] at this
            simpa using this⟩
          refine ((soundX_C hs hfx) w (ctx h0 w0 ρ (st.setH s k none) w).h vs (fun b o hb => hb.1) hrel').mono ?_
          rintro en w' ⟨v, rfl, hr, hg⟩
          rcases h with ⟨hfr, rfl⟩ | ⟨hfr, e1, sz, n, cs, d, rfl, rfl, hcs, rfl⟩
          · refine ⟨v, rfl, putRes_sound (e := { dst := dst, val := r }) S1 hr hg (.inl fun b o hb => hb) ?_ hd (fun ρ' a' w2 hS => hK ρ' a' w2 hS)⟩
            unfold putRes
            rw [if_pos hfr]
          · refine ⟨v, rfl, putRes_sound (e := { dst := some d, val := .own d (st.cnt d), new := some (d, [.row e1 sz n cs]) }) S1 hr hg (.inr hcs) ?_ hd (fun ρ' a' w2 hS => hK ρ' a' w2 hS)⟩
            unfold putRes
            rw [if_neg hfr]
            rfl
      · cases h
    · cases h
  · exact callFn_sound S hcall h hrel hd hK

theorem callMv_sound (S : Sim F h0 w0 nt ρ st a w) {call : Nat → List AV → Option AV} (hcall : CallOk P call) {g : Nat} {args : List AV} {vs : Array Value} {dst : Option Nat} {e : Eff}
    (h : callMv call g args st dst = some e) (hrel : RelL (ctx h0 w0 ρ st w) args vs.toList) (hd : ∀ d, dst = some d → d < nt)
    (hK : ∀ ρ' a' w', Sim F h0 w0 nt ρ' (e.apply st) a' w' → K a' w') :
    Enters P g ∧ Calls P g vs w fun en w' => ∃ v, en = .returned v ∧ K (a.put dst v) w' := by
  unfold callMv at h
  split at h
  · rename_i s k rest
    split at h
    · rename_i e0 sz n cs he
      split at h
      · rename_i hcs
        obtain ⟨hcs, hfr⟩ := hcs
        -- the arguments
        have hvs : ∃ v0 vr, vs = #[v0] ++ vr ∧ RelV (ctx h0 w0 ρ st w) (.own s k) v0 ∧ RelL (ctx h0 w0 ρ st w) rest vr.toList := by
          have hl := hrel.len
          cases hv : vs.toList with
          | nil => rw [hv] at hl; simp at hl
          | cons v0 vr =>
            rw [hv] at hrel
            refine ⟨v0, vr.toArray, ?_, hrel.head, by simpa using hrel.tail⟩
            apply Array.ext'
            rw [hv]
            simp
        obtain ⟨v0, vr, rfl, hv0, hrest⟩ := hvs
        have hv0' : v0 = ρ s k := by cases hv0; rfl
        subst hv0'
        obtain ⟨hk1, hk2, ys, ho, hcell⟩ := S.ent s k _ he
        have run : ∀ r, call g (.uniq e0 sz n cs :: rest) = some r → Enters P g ∧
            Calls P g (#[ρ s k] ++ vr) w fun en w' => ∃ v, en = .returned v ∧ w.grownBy w' (blkOf (ρ s k)) ∧
              match r with
              | .uniq e' sz' n' cs' => ∃ zs, ownsR w' 0 e' sz' v n' zs ∧ CellL (bare (ctx h0 w0 ρ st w).h) cs' zs ∧ ∀ b, blkOf v = some b → blkOf (ρ s k) = some b ∨ w.heap.size ≤ b
              | .tup [.uniq e' sz' n' cs'] => v = .tuple #[] ∧ ∃ zs, ownsR w' 0 e' sz' (ρ s k) n' zs ∧ CellL (bare (ctx h0 w0 ρ st w).h) cs' zs
              | _ => False := by
          intro r hr
          obtain ⟨hen, hs⟩ := hcall _ _ _ hr
          refine ⟨hen, ?_⟩
          have hs : SoundM P g e0 sz n cs rest r := hs
          exact hs w (ctx h0 w0 ρ st w).h (ρ s k) ys vr (fun b o hb => hb.1) (fun b o hb => hb.2.2 s k _ he) (ownsR_base ho (Nat.zero_le _)) (hcell.flat hcs fun b o hb => hb) (relL_flat hrest hfr fun b o hb => hb)
        have bareLe : ∀ C : Ctx, (ctx h0 w0 ρ st w).Le C → (bare (ctx h0 w0 ρ st w).h).Le C := fun C kC => ⟨kC.h, fun _ => Nat.zero_le _, fun _ _ h => absurd h (by simp [bare])⟩
        have hbase : ∀ b, blkOf (ρ s k) = some b → w0.heap.size ≤ b := fun b hb => (ownsR_blk ho b hb).1
        split at h
        · rename_i e' sz' n' cs' hr
          obtain ⟨hen, hc⟩ := run _ hr
          refine ⟨hen, hc.mono ?_⟩
          rintro en w' ⟨v, rfl, hg, zs, hz, hzc, hzb⟩
          cases dst with
          | none => cases h
          | some d =>
            simp only [Option.some.injEq] at h
            subst h
            refine ⟨v, rfl, ?_⟩
            obtain ⟨S', kk, hnew⟩ := S.regrow he hg d (.row e' sz' n' cs') v (ownsR_one hz) hzb (fun C kC => ⟨zs, ownsR_rebase hz (fun b hb => by
              rcases hzb b hb with h | h
              · exact hbase b h
              · have := S.ext.size; omega), hzc.le (bareLe C kC)⟩)
            have happ : Eff.apply { dst := some d, val := .own d (st.cnt d), upd := some (s, k, none), new := some (d, [.row e' sz' n' cs']) } st = ((st.setH s k none).new d (.row e' sz' n' cs')).put (some d) (.own d (st.cnt d)) := by
              simp only [Eff.apply, news_one]
            have hlt : st.cnt d < (ctx h0 w0 (upρ ρ d (st.cnt d) v) ((st.setH s k none).new d (.row e' sz' n' cs')) w').cnt d := by simp [ctx, St.new, St.setH]
            have hρ : (ctx h0 w0 (upρ ρ d (st.cnt d) v) ((st.setH s k none).new d (.row e' sz' n' cs')) w').ρ d (st.cnt d) = v := hnew
            have := RelV.own (C := ctx h0 w0 (upρ ρ d (st.cnt d) v) ((st.setH s k none).new d (.row e' sz' n' cs')) w') d (st.cnt d) hlt (by rw [hρ]; exact ownsR_one hz)
            rw [hρ] at this
            have hS := S'.put (some d) hd this
            rw [← happ] at hS
            exact hK _ _ _ hS
        · rename_i e' sz' n' cs' hr
          obtain ⟨hen, hc⟩ := run _ hr
          refine ⟨hen, hc.mono ?_⟩
          rintro en w' ⟨v, rfl, hg, rfl, zs, hz, hzc⟩
          simp only [Option.some.injEq] at h
          subst h
          have S' := S.storeR (e' := .row e' sz' n' cs') he hg (fun C kC => ⟨zs, ownsR_rebase hz hbase, hzc.le (bareLe C kC)⟩)
          exact ⟨_, rfl, hK ρ _ _ (S'.put dst hd (.tup [] #[] rfl (by simp)))⟩
        · cases h
      · cases h
    · cases h
  · split at h
    · exact callFn_sound S hcall h hrel hd hK
    · cases h
end
end Go.Ab
