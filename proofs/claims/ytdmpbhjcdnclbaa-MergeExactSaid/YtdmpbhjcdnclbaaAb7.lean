/-
  Part Ab7 of the proof: an evaluator of the programs written in Lean once, its soundness, and the values that this program computes.
-/
import Derived.Test.YtdmpbhjcdnclbaaAb6
namespace Go.Ab
open Classical

theorem RelV.flat {C D : Ctx} {x : AV} {v : Value} (hf : Flat x) (hr : RelV C x v) (hh : ∀ b o, C.h b o → D.h b o) : RelV D x v := by
  induction hr with
  | v x => exact .v x
  | agg cs a hl _ h1 ih => cases hf with | agg _ h => exact .agg cs a hl (fun i x y hx hy => ih i x y hx hy (h x (List.mem_of_getElem? hx))) h1
  | sl0 n cap p hcap => exact .sl0 n cap p hcap
  | sl n cs b off cap arr T fr hcap hb hle _ h1 ih => cases hf with | sl _ _ h => exact .sl n cs b off cap arr T fr hcap (hh _ _ hb) hle (fun i x y hx hy => ih i x y hx hy (h x (List.mem_of_getElem? hx))) h1
  | ip cs o b off arr T fr hb hle _ h1 ih => cases hf with | ip _ _ h => exact .ip cs o b off arr T fr (hh _ _ hb) hle (fun i x y hx hy => ih i x y hx hy (h x (List.mem_of_getElem? hx))) h1
  | ptr => cases hf
  | own => cases hf
  | mp => cases hf
  | clo f cs a hl _ ih => cases hf with | clo _ _ h => exact .clo f cs a hl (fun i x y hx hy => ih i x y hx hy (h x (List.mem_of_getElem? hx)))
  | tup cs a hl _ ih => cases hf with | tup _ h => exact .tup cs a hl (fun i x y hx hy => ih i x y hx hy (h x (List.mem_of_getElem? hx)))

theorem RelV.memFree {C D : Ctx} {x : AV} {v : Value} (hf : MemFree x) (hr : RelV C x v) : RelV D x v := by
  induction hr with
  | v x => exact .v x
  | agg cs a hl _ h1 ih => cases hf with | agg _ h => exact .agg cs a hl (fun i x y hx hy => ih i x y hx hy (h x (List.mem_of_getElem? hx))) h1
  | tup cs a hl _ ih => cases hf with | tup _ h => exact .tup cs a hl (fun i x y hx hy => ih i x y hx hy (h x (List.mem_of_getElem? hx)))
  | _ => cases hf

def bare (h : Nat → Obj → Prop) : Ctx := ⟨h, fun _ _ => undef, fun _ => 0⟩

/-- What a call's result may rest on: what the arguments rested on, and new memory, but for the piece that is handed over. -/
def newH (h0 : Nat → Obj → Prop) (w w' : World) (U : Option Nat) : Nat → Obj → Prop :=
  fun b o => w'.heap[b]? = some o ∧ (b < w.heap.size → h0 b o) ∧ U ≠ some b

def RelR (h0 : Nat → Obj → Prop) (w w' : World) (r : AV) (v : Value) : Prop :=
  match r with
  | .uniq e sz n cs => ∃ xs, w'.ownsRow w.heap.size e sz v n xs ∧ CellL (bare (newH h0 w w' (blkOf v))) cs xs
  | r => RelV (bare (newH h0 w w' none)) r v

def SoundC (P : Program) (g : Nat) (xs : List AV) (r : AV) : Prop :=
  ∀ (w : World) (h0 : Nat → Obj → Prop) (vs : Array Value), (∀ b o, h0 b o → w.heap[b]? = some o) → RelL (bare h0) xs vs.toList →
    Calls P g vs w fun e w' => ∃ v, e = .returned v ∧ RelR h0 w w' r v ∧ w.grownBy w' none

def Enters (P : Program) (g : Nat) : Prop := ∃ fn, P.funcs[g]? = some fn ∧ (fn.name == "runtime.NumGoroutine") = false ∧ fn.body.isSome = true

def CallOk (P : Program) (call : Nat → List AV → Option AV) : Prop := ∀ g xs r, call g xs = some r → Enters P g ∧ SoundC P g xs r

theorem ownsRow_base {w : World} {b b' e sz n : Nat} {v : Value} {xs : List Value} (h : w.ownsRow b e sz v n xs) (hb : b' ≤ b) : w.ownsRow b' e sz v n xs :=
  ⟨h.1, h.2.imp id fun ⟨g, cap, cur, h1, h2, h3⟩ => ⟨g, cap, cur, h1, Nat.le_trans hb h2, h3⟩⟩

theorem ownsRow_blk {w : World} {base e sz n : Nat} {v : Value} {xs : List Value} (h : w.ownsRow base e sz v n xs) : ∀ b, blkOf v = some b → base ≤ b ∧ b < w.heap.size := by
  intro b hb
  refine h.lt b ?_
  rcases h.2 with ⟨rfl, _⟩ | ⟨g, cap, cur, rfl, _⟩
  · simp [blkOf] at hb
  · simpa [blkOf, Value.ownBlock] using hb

theorem ownsRow_one {w : World} {base e sz n : Nat} {v : Value} {xs : List Value} (h : w.ownsRow base e sz v n xs) : v.oneCell' = true := by
  rcases h.2 with ⟨rfl, _⟩ | ⟨g, cap, cur, rfl, _⟩ <;> rfl

theorem optAll_spec {α : Type} : ∀ (l : List (Option α)) (r : List α), optAll l = some r → l = r.map some
  | [], r, h => by simp [optAll] at h; subst h; rfl
  | none :: l, r, h => by simp [optAll] at h
  | some x :: l, r, h => by
    simp only [optAll, Option.map_eq_some_iff] at h
    obtain ⟨r', h', rfl⟩ := h
    rw [optAll_spec l r' h']
    rfl

section
variable {P : Program} {h0 : Nat → Obj → Prop} {w0 : World} {nt : Nat} {ρ : Nat → Nat → Value} {st : St} {a : Act} {w : World}

/-- All that a callee may read of the caller's. -/
def lendH (h0 : Nat → Obj → Prop) (w0 w : World) : Nat → Obj → Prop := fun b o => w.heap[b]? = some o ∧ (b < w0.heap.size → h0 b o)

theorem ownsRow_sl {D : Ctx} {base e sz n : Nat} {v : Value} {xs : List Value} {cs : List AV} (hD : ∀ b o, base ≤ b → w.heap[b]? = some o → D.h b o) (h : w.ownsRow base e sz v n xs) (hc : CellL D cs xs) : RelV D (.sl n cs) v := by
  rcases h.2 with ⟨rfl, hn⟩ | ⟨g, cap, cur, rfl, hb, hg, hnc, _, hcs, ht⟩
  · subst hn
    have : xs.length = 0 := by rw [h.1]; simp
    have := hc.len
    have hnil := List.length_eq_zero_iff.1 (show cs.length = 0 by omega)
    subst hnil
    exact .sl0 0 0 none (by omega)
  · have hl := hc.len
    have hx := h.1
    have hle : n * sz ≤ cap * sz := Nat.mul_le_mul_right _ hnc
    refine .sl n cs g 0 cap cur e (0, 0) hnc (hD g _ hb hg) (by omega) (fun i x y hx' hy => ?_) (fun i y hi hy => ?_)
    · have hi : i < cs.length := (List.getElem?_eq_some_iff.1 hx').1
      refine hc.rel i x y hx' ?_
      rw [← ht, List.getElem?_take, if_pos (by omega)]
      simpa using hy
    · refine hc.one i y ?_
      rw [← ht, List.getElem?_take, if_pos (by omega)]
      simpa using hy

theorem CellL.flat {C D : Ctx} {cs : List AV} {ys : List Value} (h : CellL C cs ys) (hf : ∀ c ∈ cs, Flat c) (hh : ∀ b o, C.h b o → D.h b o) : CellL D cs ys :=
  ⟨h.len, fun i x y hx hy => (h.rel i x y hx hy).flat (hf x (List.mem_of_getElem? hx)) hh, h.one⟩

theorem ctx_lend (b : Nat) (o : Obj) (h : (ctx h0 w0 ρ st w).h b o) : (bare (lendH h0 w0 w)).h b o := ⟨h.1, h.2.1⟩

theorem expo1_sound (S : Sim h0 w0 nt ρ st a w) {x y : AV} {v : Value} (hu : RelV (ctx h0 w0 ρ st w) x v) (h : expo1 st x = some y) : RelV (bare (lendH h0 w0 w)) y v ∧ (v.oneCell' = true ∨ y = x) := by
  unfold expo1 at h
  split at h
  · rename_i hf
    simp only [Option.some.injEq] at h
    subst h
    exact ⟨hu.flat hf ctx_lend, .inr rfl⟩
  · split at h
    · rename_i s g _
      split at h
      · rename_i e sz n cs he
        split at h
        · rename_i hf
          simp only [Option.some.injEq] at h
          subst h
          obtain ⟨_, ho1, xs, ho, hc⟩ := S.ent s g _ he
          cases hu with
          | own s g hg h1 => exact ⟨ownsRow_sl (fun b o hb hbo => ⟨hbo, fun hlt => by omega⟩) ho (hc.flat hf ctx_lend), .inl h1⟩
        · cases h
      · cases h
    · rename_i s g off _
      split at h
      · rename_i cs he
        split at h
        · rename_i hf
          simp only [Option.some.injEq] at h
          subst h
          obtain ⟨_, _, b', arr, T, hρ, hb', hh, hc⟩ := S.ent s g _ he
          cases hu with
          | ptr s g off b hg hb =>
            have hbb : b' = b := by
              have h2 : blkOf (ρ s g) = some b := hb
              rw [hρ] at h2; simpa [blkOf] using h2
            subst hbb
            have hc' := hc.flat (D := bare (lendH h0 w0 w)) hf ctx_lend
            have hl := hc.len
            simp only [Array.length_toList] at hl
            have := RelV.ip (C := bare (lendH h0 w0 w)) cs off b' 0 arr T (0, 0) ⟨hh, fun hlt => by omega⟩ (by omega) (fun i x y hx hy => hc'.rel i x y hx (by simpa using hy)) (fun i y hi hy => hc.one i y (by simpa using hy))
            rw [Nat.zero_add] at this
            exact ⟨this, .inl rfl⟩
        · cases h
      · cases h
    · cases h

theorem expo_sound (S : Sim h0 w0 nt ρ st a w) {x y : AV} {v : Value} (hu : RelV (ctx h0 w0 ρ st w) x v) (h : expo st x = some y) : RelV (bare (lendH h0 w0 w)) y v := by
  unfold expo at h
  split at h
  · rename_i hf
    simp only [Option.some.injEq] at h
    subst h
    exact hu.flat hf ctx_lend
  · split at h
    · rename_i cs _
      simp only [Option.map_eq_some_iff] at h
      obtain ⟨ds, hds, rfl⟩ := h
      have hm := optAll_spec _ _ hds
      cases hu with
      | agg cs ar hl hr h1 =>
        have hlen : ds.length = cs.length := by have := congrArg List.length hm; simpa using this.symm
        refine .agg ds ar (by omega) (fun i x y hx hy => ?_) h1
        have hi : i < cs.length := by have := (List.getElem?_eq_some_iff.1 hx).1; omega
        have hx' : expo1 st cs[i] = some x := by
          have := congrArg (·[i]?) hm
          simp only [List.getElem?_map, hx, List.getElem?_eq_getElem hi, Option.map_some, Option.some.injEq] at this
          exact this
        exact (expo1_sound S (hr i cs[i] y (by simp [hi]) hy) hx').1
    · rename_i f caps _
      simp only [Option.map_eq_some_iff] at h
      obtain ⟨ds, hds, rfl⟩ := h
      have hm := optAll_spec _ _ hds
      cases hu with
      | clo f cs ar hl hr =>
        have hlen : ds.length = caps.length := by have := congrArg List.length hm; simpa using this.symm
        refine .clo f ds ar (by omega) (fun i x y hx hy => ?_)
        have hi : i < caps.length := by have := (List.getElem?_eq_some_iff.1 hx).1; omega
        have hx' : expo1 st caps[i] = some x := by
          have := congrArg (·[i]?) hm
          simp only [List.getElem?_map, hx, List.getElem?_eq_getElem hi, Option.map_some, Option.some.injEq] at this
          exact this
        exact (expo1_sound S (hr i caps[i] y (by simp [hi]) hy) hx').1
    · exact (expo1_sound S hu h).1
end
end Go.Ab
