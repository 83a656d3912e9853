/-
  Part Ab15 of the proof: an evaluator of the programs written in Lean once, its soundness, and the values that this program computes.
-/
import Derived.Test.YtdmpbhjcdnclbaaAb14
namespace Go.Ab
open Classical

section
variable {P : Program}

theorem expo_not_uniq {h0 : Nat → Obj → Prop} {w w' : World} {r : AV} {v : Value} (h : RelV (bare (newH h0 w w' none)) r v) : RelR h0 w w' r v := by
  cases r <;> first | exact h | (cases h; done)

theorem lend_new {h0 : Nat → Obj → Prop} {w w' : World} : (bare (lendH h0 w w')).Le (bare (newH h0 w w' none)) :=
  ⟨fun b o h => ⟨h.1, h.2, by simp⟩, fun _ => Nat.le_refl _, fun _ _ h => absurd h (by simp [bare])⟩

def resOne (tmps : Array Value) : ResultVar → Sem Value
  | .tmp t => pure (tmps.getD t undef)
  | .cell p t => do loadVar t (← asAddr (tmps.getD p undef))

theorem resVal_sound {h0 : Nat → Obj → Prop} {w0 : World} {nt : Nat} {ρ : Nat → Nat → Value} {st : St} {a : Act} {w : World} (S : Sim h0 w0 nt ρ st a w) {rv : ResultVar} {x : AV} (h : resVal P st rv = some x) :
    ∃ y, (resOne a.tmps rv).run P w = .ok y w ∧ RelV (ctx h0 w0 ρ st w) x y := by
  cases rv with
  | tmp t =>
    simp only [resVal, Option.some.injEq] at h
    subst h
    exact ⟨_, rfl, S.env t⟩
  | cell p T =>
    simp only [resVal] at h
    cases hra : readAt st (st.env p) with
    | none => simp [hra, bnd] at h
    | some cs =>
      simp only [hra, bnd] at h
      obtain ⟨b, off, arr, B, fr, hu, _, _⟩ := readAt_sound S hra (S.env p)
      obtain ⟨r, hr, hrel⟩ := load_sound S hra h (S.env p)
      rw [hu] at hr
      refine ⟨r, ?_, hrel⟩
      simp only [Instr.loadAt, Instr.sureAddr] at hr
      simp only [resOne, hu, asAddr]
      exact hr

theorem results_list {h0 : Nat → Obj → Prop} {w0 : World} {nt : Nat} {ρ : Nat → Nat → Value} {st : St} {a : Act} {w : World} (S : Sim h0 w0 nt ρ st a w) : ∀ (rs : List ResultVar) (xs : List AV), rs.map (resVal P st) = xs.map some →
    ∃ ys, (rs.mapM (resOne a.tmps)).run P w = .ok ys w ∧ RelL (ctx h0 w0 ρ st w) xs ys
  | [], xs, h => by
    cases xs with
    | nil => exact ⟨[], rfl, .nil _⟩
    | cons x xs => simp at h
  | r :: rs, xs, h => by
    cases xs with
    | nil => simp at h
    | cons x xs =>
      simp only [List.map_cons, List.cons.injEq] at h
      obtain ⟨y, hy, hrel⟩ := resVal_sound S h.1
      obtain ⟨ys, hys, hrels⟩ := results_list S rs xs h.2
      refine ⟨y :: ys, ?_, .cons hrel hrels⟩
      rw [List.mapM_cons, run_ok_bind hy, run_ok_bind hys]
      rfl

theorem finish_sound {h0 : Nat → Obj → Prop} {w0 : World} {nt : Nat} {ρ : Nat → Nat → Value} {st : St} {a : Act} {w : World} (S : Sim h0 w0 nt ρ st a w) {fn : Func} {r : AV} (h : finishA P fn st = some r) :
    ∃ v, (results fn a.tmps).run P w = .ok v w ∧ RelR h0 w0 w r v := by
  have hres : ∀ (ys : List Value), (fn.results.toList.mapM (resOne a.tmps)).run P w = .ok ys w →
      (results fn a.tmps).run P w = .ok (if h : ys.toArray.size = 1 then ys.toArray[0] else .tuple ys.toArray) w := by
    intro ys hys
    have e : results fn a.tmps = (do let vs ← fn.results.mapM (resOne a.tmps); pure (if h : vs.size = 1 then vs[0] else .tuple vs)) := by
      unfold results
      congr 1
    rw [e, Array.mapM_eq_mapM_toList]
    simp only [Sem.run_bind, Sem.run_map, hys, Result.andThen_ok, Sem.run_pure]
  unfold finishA at h
  split at h
  · rename_i r1 hr1
    cases h1 : resVal P st r1 with
    | none => simp [h1, bnd] at h
    | some x =>
      simp only [h1, bnd] at h
      obtain ⟨ys, hys, hrel⟩ := results_list (P := P) S [r1] [x] (by simp [h1])
      have hlen := hrel.len
      obtain ⟨y, rfl⟩ : ∃ y, ys = [y] := by
        cases ys with
        | nil => simp at hlen
        | cons y ys => cases ys with
          | nil => exact ⟨y, rfl⟩
          | cons z zs => simp at hlen
      have hxy := hrel.head
      have hrun := hres [y] (by rw [hr1]; exact hys)
      simp at hrun
      refine ⟨y, hrun, ?_⟩
      unfold expoR at h
      split at h
      · rename_i s g
        split at h
        · rename_i e sz n cs he
          split at h
          · rename_i hf
            simp only [Option.some.injEq] at h
            subst h
            obtain ⟨_, _, xs, ho, hc⟩ := S.ent s g _ he
            cases hxy with
            | own _ _ hg h1' => exact ⟨xs, ho, hc.flat hf fun b o hb => ⟨hb.1, hb.2.1, hb.2.2 s g _ he⟩⟩
          · cases h
        · cases h
      · exact expo_not_uniq ((expo_sound S hxy h).le lend_new)
  · rename_i rs hne
    simp only [Option.map_eq_some_iff] at h
    obtain ⟨ds, hds, rfl⟩ := h
    have hm := optAll_spec _ _ hds
    -- the values themselves
    have hex : ∃ xs : List AV, fn.results.toList.map (resVal P st) = xs.map some ∧ xs.map (expo st) = ds.map some := by
      generalize fn.results.toList = l at hm
      clear hds
      induction l generalizing ds with
      | nil => cases ds with
        | nil => exact ⟨[], rfl, rfl⟩
        | cons d ds => simp at hm
      | cons r l ih => cases ds with
        | nil => simp at hm
        | cons d ds =>
          simp only [List.map_cons, List.cons.injEq] at hm
          obtain ⟨xs, e1, e2⟩ := ih ds hm.2
          cases hr : resVal P st r with
          | none => simp [hr, bnd] at hm
          | some x =>
            simp only [hr, bnd] at hm
            exact ⟨x :: xs, by simp [hr, e1], by simp [hm.1, e2]⟩
    obtain ⟨xs, e1, e2⟩ := hex
    obtain ⟨ys, hys, hrel⟩ := results_list S _ xs e1
    have hl1 : xs.length = fn.results.toList.length := by have := congrArg List.length e1; simpa using this.symm
    have hl2 : ds.length = xs.length := by have := congrArg List.length e2; simpa using this.symm
    have hne1 : ys.toArray.size ≠ 1 := by
      intro h1
      have hlen := hrel.len
      simp only [List.size_toArray] at h1
      have : fn.results.toList.length = 1 := by omega
      obtain ⟨z, hz⟩ := List.length_eq_one_iff.1 this
      exact hne z hz
    have hrun := hres ys hys
    rw [dif_neg hne1] at hrun
    refine ⟨_, hrun, ?_⟩
    refine expo_not_uniq (.tup ds ys.toArray (by simp; rw [hl2]; exact hrel.len) fun i x y hx hy => ?_)
    have hi : i < xs.length := by have := (List.getElem?_eq_some_iff.1 hx).1; omega
    have hx' : expo st xs[i] = some x := by
      have := congrArg (·[i]?) e2
      simp only [List.getElem?_map, hx, List.getElem?_eq_getElem hi, Option.map_some, Option.some.injEq] at this
      exact this
    exact (expo_sound S (hrel.rel i xs[i] y (by simp [hi]) (by simpa using hy)) hx').le lend_new

theorem init_sim {h0 : Nat → Obj → Prop} {w : World} {xs : List AV} {vs : Array Value} {nt : Nat} (hh : ∀ b o, h0 b o → w.heap[b]? = some o) (hrel : RelL (bare h0) xs vs.toList) :
    Sim h0 w nt (fun _ _ => undef) (St.init xs) { tmps := vs ++ Array.replicate (nt - vs.size) undef, defers := [] } w := by
  have k : (bare h0).Le (ctx h0 w (fun _ _ => undef) (St.init xs) w) := ⟨fun b o h => ⟨hh b o h, fun _ => h, fun s g e he => by simp [St.init] at he⟩, fun _ => Nat.le_refl _, fun _ _ h => absurd h (by simp [bare])⟩
  refine ⟨fun t => ?_, fun s g e he => by simp [St.init] at he, fun s g s' g' e e' b he => by simp [St.init] at he, ⟨rfl, rfl, rfl, Nat.le_refl _, fun _ _ _ => rfl⟩, by simp; omega, rfl⟩
  have hlen := hrel.len
  simp only [Array.length_toList] at hlen
  show RelV _ ((xs[t]?).getD (.v undef)) _
  by_cases ht : t < vs.size
  · have hx : xs[t]? = some (xs[t]'(by omega)) := by simp [show t < xs.length by omega]
    have hy : vs.toList[t]? = some vs[t] := by simp [ht]
    have := (hrel.rel t _ _ hx hy).le k
    rw [hx]
    simp only [Option.getD_some]
    have e : (vs ++ Array.replicate (nt - vs.size) undef).getD t undef = vs[t] := by
      simp [Array.getElem?_append_left ht, ht]
    rw [e]
    exact this
  · have hx : xs[t]? = none := List.getElem?_eq_none (by omega)
    rw [hx]
    have e : (vs ++ Array.replicate (nt - vs.size) undef).getD t undef = undef := by
      rw [Array.getD_eq_getD_getElem?, Array.getElem?_append_right (by omega), Array.getElem?_replicate]
      split <;> rfl
    rw [e]
    exact .v _

theorem evF_ok (hm : P.follows .mixedOrders = true) : ∀ n, CallOk P (evF P n)
  | 0 => fun g xs r h => by simp [evF] at h
  | n + 1 => fun g xs r h => by
    simp only [evF, runF] at h
    cases hf : P.funcs[g]? with
    | none => simp [hf] at h
    | some fn =>
      simp only [hf] at h
      split at h
      · rename_i hok
        cases hb : fn.body with
        | none => simp [hb] at h
        | some c =>
          simp only [hb] at h
          simp only [fnOk, hb, Bool.and_eq_true, bne_iff_ne, ne_eq] at hok
          refine ⟨⟨fn, hf, by simpa using hok.1, by simp [hb]⟩, fun w h0 vs hh hrel => ?_⟩
          cases h1 : evC P (evF P n) n c (St.init xs) with
          | none => simp [h1, bnd] at h
          | some es =>
            obtain ⟨ex, sf⟩ := es
            simp only [h1, bnd] at h
            refine calls_of_wp hf hb ?_
            refine evC_sound hm (evF_ok hm n) n c (St.init xs) sf ex _ _ w _ hok.2 (init_sim hh hrel) h1 fun ρ' a' w' S' => ?_
            have fin : finishA P fn sf = some r → a'.defers = [] ∧ ∃ v, (results fn a'.tmps).run P w' = .ok v w' ∧ ∃ v', Ending.returned v = .returned v' ∧ RelR h0 w w' r v' ∧ w.grownBy w' none := fun h => by
              obtain ⟨v, hv, hr⟩ := finish_sound S' h
              exact ⟨S'.defers, v, hv, v, rfl, hr, S'.ext⟩
            cases ex with
            | normal => exact fin h
            | ret => exact fin h
            | exit id => cases h
      · cases h
end
end Go.Ab
