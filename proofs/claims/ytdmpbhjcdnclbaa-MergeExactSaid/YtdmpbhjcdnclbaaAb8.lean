/-
  Part Ab8 of the proof: an evaluator of the programs written in Lean once, its soundness, and the values that this program computes.
-/
import Derived.Test.YtdmpbhjcdnclbaaAb7
namespace Go.Ab
open Classical

section
variable {P : Program} {h0 : Nat → Obj → Prop} {w0 : World} {nt : Nat} {ρ : Nat → Nat → Value} {st : St} {a : Act} {w : World} {K : Act → World → Prop} {Q : Exit → Act → World → Prop}

theorem newH_le {w' : World} {v : Value} {D : Ctx} (k : (ctx h0 w0 ρ st w).Le D) (hD : ∀ b o, w.heap.size ≤ b → w'.heap[b]? = some o → blkOf v ≠ some b → D.h b o) :
    (bare (newH (ctx h0 w0 ρ st w).h w w' (blkOf v))).Le D :=
  ⟨fun b o hb => by
    by_cases hlt : b < w.heap.size
    · exact k.h _ _ (hb.2.1 hlt)
    · exact hD b o (by omega) hb.1 hb.2.2, fun _ => Nat.zero_le _, fun _ _ h => absurd h (by simp [bare])⟩

theorem newH_none_le {w' : World} (S : Sim h0 w0 nt ρ st a w) (hg : w.grownBy w' none) : (bare (newH (ctx h0 w0 ρ st w).h w w' none)).Le (ctx h0 w0 ρ st w') :=
  ⟨fun b o hb => by
    by_cases hlt : b < w.heap.size
    · exact (S.grow hg).2.h _ _ (hb.2.1 hlt)
    · refine ⟨hb.1, fun h => by have := S.ext.size; omega, fun s g e he => blkOf_ne_fresh S he (by omega)⟩, fun _ => Nat.zero_le _, fun _ _ h => absurd h (by simp [bare])⟩

theorem relL_flat {C D : Ctx} {xs : List AV} {vs : List Value} (h : RelL C xs vs) (hf : ∀ x ∈ xs, Flat x) (hh : ∀ b o, C.h b o → D.h b o) : RelL D xs vs :=
  ⟨h.len, fun i x y hx hy => (h.rel i x y hx hy).flat (hf x (List.mem_of_getElem? hx)) hh⟩

theorem callFn_sound (S : Sim h0 w0 nt ρ st a w) {call : Nat → List AV → Option AV} (hcall : CallOk P call) {g : Nat} {args : List AV} {vs : Array Value} {dst : Option Nat} {e : Eff}
    (h : callFn call g args st dst = some e) (hrel : RelL (ctx h0 w0 ρ st w) args vs.toList) (hd : ∀ d, dst = some d → d < nt)
    (hK : ∀ ρ' a' w', Sim h0 w0 nt ρ' (e.apply st) a' w' → K a' w') :
    Enters P g ∧ Calls P g vs w fun en w' => ∃ v, en = .returned v ∧ K (a.put dst v) w' := by
  unfold callFn at h
  split at h
  · rename_i hf
    cases hc : call g args with
    | none => simp [hc] at h
    | some r =>
      obtain ⟨hen, hs⟩ := hcall g args r hc
      refine ⟨hen, ?_⟩
      have hs' := hs w (ctx h0 w0 ρ st w).h vs (fun b o hb => hb.1) (relL_flat hrel hf fun b o hb => hb)
      refine hs'.mono ?_
      rintro en w' ⟨v, rfl, hr, hg⟩
      refine ⟨v, rfl, ?_⟩
      have plain : ∀ r, RelV (bare (newH (ctx h0 w0 ρ st w).h w w' none)) r v → e = { dst := dst, val := r } → K (a.put dst v) w' := by
        rintro r hr rfl
        obtain ⟨S', k⟩ := S.grow hg
        exact hK ρ _ _ (S'.put dst hd (hr.le (newH_none_le S hg)))
      cases r
      case uniq e' sz n cs =>
        simp only [hc] at h
        cases dst with
        | none => simp [bnd] at h
        | some d =>
          simp only [bnd, Option.some.injEq] at h
          subst h
          obtain ⟨xs, ho, hcell⟩ := hr
          obtain ⟨S', k, hnew⟩ := S.new hg d (.row e' sz n cs) v (ownsRow_one ho) (fun b hb => (ownsRow_blk ho b hb).1)
            (fun C k hC => ⟨xs, ownsRow_base ho S.ext.size, hcell.le (newH_le k hC)⟩)
          refine hK _ _ _ (S'.put (some d) hd ?_)
          have hlt : st.cnt d < (ctx h0 w0 (upρ ρ d (st.cnt d) v) (st.new d (.row e' sz n cs)) w').cnt d := by simp [ctx, St.new]
          have hρ : (ctx h0 w0 (upρ ρ d (st.cnt d) v) (st.new d (.row e' sz n cs)) w').ρ d (st.cnt d) = v := hnew
          have := RelV.own (C := ctx h0 w0 (upρ ρ d (st.cnt d) v) (st.new d (.row e' sz n cs)) w') d (st.cnt d) hlt (by rw [hρ]; exact ownsRow_one ho)
          rw [hρ] at this
          exact this
      all_goals
        simp only [hc, Option.some.injEq] at h
        exact plain _ hr h.symm
  · split at h
    · rename_i xs hxs
      cases hc : call g xs with
      | none => simp [hc] at h
      | some r =>
        obtain ⟨hen, hs⟩ := hcall g xs r hc
        refine ⟨hen, ?_⟩
        simp only [hc] at h
        split at h
        · rename_i hm
          simp only [Option.some.injEq] at h
          subst h
          have hmm := optAll_spec _ _ hxs
          have hlen : xs.length = args.length := by have := congrArg List.length hmm; simpa using this.symm
          have hrel' : RelL (bare (lendH h0 w0 w)) xs vs.toList := ⟨by rw [hlen]; exact hrel.len, fun i x y hx hy => by
            have hi : i < args.length := by have := (List.getElem?_eq_some_iff.1 hx).1; omega
            have hx' : expo st args[i] = some x := by
              have := congrArg (·[i]?) hmm
              simp only [List.getElem?_map, hx, List.getElem?_eq_getElem hi, Option.map_some, Option.some.injEq] at this
              exact this
            exact expo_sound S (hrel.rel i args[i] y (by simp [hi]) hy) hx'⟩
          refine (hs w (lendH h0 w0 w) vs (fun b o hb => hb.1) hrel').mono ?_
          rintro en w' ⟨v, rfl, hr, hg⟩
          refine ⟨v, rfl, ?_⟩
          obtain ⟨S', k⟩ := S.grow hg
          have hr' : RelV (bare (newH (lendH h0 w0 w) w w' none)) r v := by
            cases hm <;> exact hr
          exact hK ρ _ _ (S'.put dst hd (hr'.memFree hm))
        · cases h
    · cases h
end
end Go.Ab
