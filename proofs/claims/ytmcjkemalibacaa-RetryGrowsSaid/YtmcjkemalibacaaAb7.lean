/-
  Part Ab7 of the proof: an evaluator of the programs written in Lean once, and its soundness.
-/
import Derived.Test.YtmcjkemalibacaaAb6
set_option linter.all false
namespace Go.Ab
open Classical

theorem RelV.flat {C D : Ctx} {x : AV} {v : Value} (hf : Flat x) (hr : RelV C x v) (hh : ∀ b o, C.h b o → D.h b o) : RelV D x v := by
  induction hr with
  | v x => exact .v x
  | agg cs a hl _ h1 ih => cases hf with | agg _ h => exact .agg cs a hl (fun i x y hx hy => ih i x y hx hy (h x (List.mem_of_getElem? hx))) h1
  | sl0 n cap p hcap => exact .sl0 n cap p hcap
  | sl n cs b off cap arr T fr hcap hb hle _ h1 ih => cases hf with | sl _ _ h => exact .sl n cs b off cap arr T fr hcap (hh _ _ hb) hle (fun i x y hx hy => ih i x y hx hy (h x (List.mem_of_getElem? hx))) h1
  | cl0 n p => exact .cl0 n p
  | cl n cs b off arr T fr hb hle _ h1 ih => cases hf with | cl _ _ h => exact .cl n cs b off arr T fr (hh _ _ hb) hle (fun i x y hx hy => ih i x y hx hy (h x (List.mem_of_getElem? hx))) h1
  | ip cs o b off arr T fr hb hle _ h1 ih => cases hf with | ip _ _ h => exact .ip cs o b off arr T fr (hh _ _ hb) hle (fun i x y hx hy => ih i x y hx hy (h x (List.mem_of_getElem? hx))) h1
  | ptr => cases hf
  | own => cases hf
  | vw => cases hf
  | mp => cases hf
  | clo f cs a hl _ ih => cases hf with | clo _ _ h => exact .clo f cs a hl (fun i x y hx hy => ih i x y hx hy (h x (List.mem_of_getElem? hx)))
  | tup cs a hl _ ih => cases hf with | tup _ h => exact .tup cs a hl (fun i x y hx hy => ih i x y hx hy (h x (List.mem_of_getElem? hx)))

theorem RelV.memFree {C D : Ctx} {x : AV} {v : Value} (hf : MemFree x) (hr : RelV C x v) : RelV D x v := by
  induction hr with
  | v x => exact .v x
  | agg cs a hl _ h1 ih => cases hf with | agg _ h => exact .agg cs a hl (fun i x y hx hy => ih i x y hx hy (h x (List.mem_of_getElem? hx))) h1
  | tup cs a hl _ ih => cases hf with | tup _ h => exact .tup cs a hl (fun i x y hx hy => ih i x y hx hy (h x (List.mem_of_getElem? hx)))
  | _ => cases hf

def bare (h : Nat → Obj → Prop) : Ctx := ⟨h, fun _ _ => undef, fun _ => 0⟩

/-- Values that rest on no memory but pieces of the call's own. -/
inductive NoFr : AV → Prop
  | v (x : Value) : NoFr (.v x)
  | agg (cs : List AV) (h : ∀ x ∈ cs, NoFr x) : NoFr (.agg cs)
  | tup (cs : List AV) (h : ∀ x ∈ cs, NoFr x) : NoFr (.tup cs)
  | own (s g : Nat) : NoFr (.own s g)
theorem MemFree.noFr {x : AV} (h : MemFree x) : NoFr x := by
  induction h with
  | v x => exact .v x
  | agg cs _ ih => exact .agg cs ih
  | tup cs _ ih => exact .tup cs ih
theorem RelV.noFr {C D : Ctx} {x : AV} {v : Value} (hf : NoFr x) (hr : RelV C x v) (hc : ∀ s, C.cnt s ≤ D.cnt s) (hρ : ∀ s g, g < C.cnt s → D.ρ s g = C.ρ s g) : RelV D x v := by
  induction hr with
  | v x => exact .v x
  | agg cs a hl _ h1 ih => cases hf with | agg _ h => exact .agg cs a hl (fun i x y hx hy => ih i x y hx hy (h x (List.mem_of_getElem? hx))) h1
  | tup cs a hl _ ih => cases hf with | tup _ h => exact .tup cs a hl (fun i x y hx hy => ih i x y hx hy (h x (List.mem_of_getElem? hx)))
  | own s g hg ho => rw [← hρ s g hg]; exact .own s g (Nat.lt_of_lt_of_le hg (hc s)) (by rw [hρ s g hg]; exact ho)
  | _ => cases hf

/-- What a call's result may rest on: what the arguments rested on, and new memory, but for the pieces that are handed over. -/
def newHs (h0 : Nat → Obj → Prop) (w w' : World) (vs : List Value) : Nat → Obj → Prop :=
  fun b o => w'.heap[b]? = some o ∧ (b < w.heap.size → h0 b o) ∧ ∀ x ∈ vs, blkOf x ≠ some b

/-- A result: its value, and the rows that it hands over, whatever names they are given. -/
def RelR (h0 : Nat → Obj → Prop) (w w' : World) (r : AV) (v : Value) : Prop :=
  ∃ vs : List Value, (∀ x ∈ vs, x.oneCell' = true) ∧ (∀ (i j : Nat) (x y : Value) (b : Nat), vs[i]? = some x → vs[j]? = some y → blkOf x = some b → blkOf y = some b → i = j) ∧
    (∀ x ∈ vs, ∀ b, blkOf x = some b → w.heap.size ≤ b) ∧ (∀ d c, (opn d c r).2.length = vs.length) ∧
    ∀ (D : Ctx) (d c : Nat), (∀ b o, newHs h0 w w' vs b o → D.h b o) → (∀ (i : Nat) (x : Value), vs[i]? = some x → c + i < D.cnt d ∧ D.ρ d (c + i) = x) →
      RelV D (opn d c r).1 v ∧ ∀ (i : Nat) (e : Ent) (x : Value), (opn d c r).2[i]? = some e → vs[i]? = some x → EntRel D w' w.heap.size x e

def SoundC (P : Program) (g : Nat) (xs : List AV) (r : AV) : Prop :=
  ∀ (w : World) (h0 : Nat → Obj → Prop) (vs : Array Value), (∀ b o, h0 b o → w.heap[b]? = some o) → RelL (bare h0) xs vs.toList →
    Calls P g vs w fun e w' => ∃ v, e = .returned v ∧ RelR h0 w w' r v ∧ w.grownBy w' none

/-- A call that works on a row: the first argument. -/
def SoundM (P : Program) (g e sz n : Nat) (cs xs : List AV) (r : AV) : Prop :=
  ∀ (w : World) (h0 : Nat → Obj → Prop) (v0 : Value) (ys : List Value) (vs : Array Value), (∀ b o, h0 b o → w.heap[b]? = some o) → (∀ b o, h0 b o → blkOf v0 ≠ some b) → ownsR w 0 e sz v0 n ys → CellL (bare h0) cs ys →
    RelL (bare h0) xs vs.toList → Calls P g (#[v0] ++ vs) w fun en w' => ∃ v, en = .returned v ∧ w.grownBy w' (blkOf v0) ∧
      match r with
      | .uniq e' sz' n' cs' => ∃ zs, ownsR w' 0 e' sz' v n' zs ∧ CellL (bare h0) cs' zs ∧ ∀ b, blkOf v = some b → blkOf v0 = some b ∨ w.heap.size ≤ b
      | .tup [.uniq e' sz' n' cs'] => v = .tuple #[] ∧ ∃ zs, ownsR w' 0 e' sz' v0 n' zs ∧ CellL (bare h0) cs' zs
      | _ => False

def SoundX (P : Program) (g : Nat) (xs : List AV) (r : AV) : Prop :=
  match xs with
  | .uniq e sz n cs :: rest => SoundM P g e sz n cs rest r
  | xs => SoundC P g xs r

def Enters (P : Program) (g : Nat) : Prop := ∃ fn, P.funcs[g]? = some fn ∧ (fn.name == "runtime.NumGoroutine") = false ∧ fn.body.isSome = true

def CallOk (P : Program) (call : Nat → List AV → Option AV) : Prop := ∀ g xs r, call g xs = some r → Enters P g ∧ SoundX P g xs r

theorem opnL_id {f : Nat → AV → AV × List Ent} : ∀ (xs : List AV) (c : Nat), (∀ x ∈ xs, ∀ c, f c x = (x, [])) → opnL f c xs = (xs, [])
  | [], c, _ => rfl
  | x :: xs, c, h => by
    simp only [opnL, h x (by simp), List.length_nil, Nat.add_zero, opnL_id xs c fun y hy => h y (by simp [hy]), List.nil_append]
theorem opnC_flat {x : AV} (h : Flat x) (d c : Nat) : opnC d c x = (x, []) := by cases h <;> rfl
theorem opn1_flat {x : AV} (h : Flat x) (d c : Nat) : opn1 d c x = (x, []) := by
  cases h with
  | agg cs h => simp only [opn1, opnL_id (f := opnC d) cs c fun x hx c => opnC_flat (h x hx) d c]
  | _ => rfl
theorem opn_flat {x : AV} (h : Flat x) (d c : Nat) : opn d c x = (x, []) := by
  cases h with
  | tup cs h => simp only [opn, opnL_id (f := opn1 d) cs c fun x hx c => opn1_flat (h x hx) d c]
  | agg cs h => exact opn1_flat (.agg cs h) d c
  | _ => rfl

theorem relR_flat {h0 : Nat → Obj → Prop} {w w' : World} {r : AV} {v : Value} (hf : Flat r) (h : RelV (bare (newHs h0 w w' [])) r v) : RelR h0 w w' r v :=
  ⟨[], by simp, by simp, by simp, fun d c => by rw [opn_flat hf]; rfl, fun D d c hD _ => by
    rw [opn_flat hf]
    exact ⟨h.flat hf hD, by simp⟩⟩

theorem EntRel.base {C : Ctx} {w : World} {b b' : Nat} {v : Value} {e : Ent} (h : EntRel C w b v e) (hb : b' ≤ b) : EntRel C w b' v e := by
  cases e with
  | cells cs => obtain ⟨k, arr, T, h1, h2, h3⟩ := h; exact ⟨k, arr, T, h1, Nat.le_trans hb h2, h3⟩
  | row e sz n cs => obtain ⟨xs, ho, hc⟩ := h; exact ⟨xs, ownsR_base ho hb, hc⟩
  | map es => obtain ⟨k, arr, T, h1, h2, h3⟩ := h; exact ⟨k, arr, T, h1, Nat.le_trans hb h2, h3⟩

theorem ownsR_rebase {w : World} {b b' e sz n : Nat} {v : Value} {xs : List Value} (h : ownsR w b e sz v n xs) (hb : ∀ k, blkOf v = some k → b' ≤ k) : ownsR w b' e sz v n xs := by
  refine ⟨h.1, ?_⟩
  rcases h.2 with h | ⟨g, cap, cur, rfl, h1, h2, h3, h4, h5, h6, hc⟩
  · exact .inl h
  · exact .inr ⟨g, cap, cur, rfl, hb g (blkOf_sl hc), h2, h3, h4, h5, h6, hc⟩

theorem optAll_spec {α : Type} : ∀ (l : List (Option α)) (r : List α), optAll l = some r → l = r.map some
  | [], r, h => by simp [optAll] at h; subst h; rfl
  | none :: l, r, h => by simp [optAll] at h
  | some x :: l, r, h => by
    simp only [optAll, Option.map_eq_some_iff] at h
    obtain ⟨r', h', rfl⟩ := h
    rw [optAll_spec l r' h']
    rfl

section
variable {P : Program} {h0 : Nat → Obj → Prop} {w0 : World} {F : Frm} {nt : Nat} {ρ : Nat → Nat → Value} {st : St} {a : Act} {w : World}

/-- All that a callee may read of the caller's. -/
def lendH (h0 : Nat → Obj → Prop) (w0 w : World) : Nat → Obj → Prop := fun b o => w.heap[b]? = some o ∧ (b < w0.heap.size → h0 b o)

theorem ownsRow_sl {D : Ctx} {base e sz n : Nat} {v : Value} {xs : List Value} {cs : List AV} (hD : ∀ b o, blkOf v = some b → base ≤ b → w.heap[b]? = some o → D.h b o) (h : ownsR w base e sz v n xs) (hc : CellL D cs xs) : RelV D (.sl n cs) v := by
  rcases h.2 with ⟨p, rfl, hn⟩ | ⟨g, cap, cur, rfl, hb, hg, hnc, _, hcs, ht, hc0⟩
  · subst hn
    have : xs.length = 0 := by rw [h.1]; simp
    have := hc.len
    have hnil := List.length_eq_zero_iff.1 (show cs.length = 0 by omega)
    subst hnil
    exact .sl0 0 0 p (by omega)
  · have hl := hc.len
    have hx := h.1
    have hle : n * sz ≤ cap * sz := Nat.mul_le_mul_right _ hnc
    refine .sl n cs g 0 cap cur e (0, 0) hnc (hD g _ (blkOf_sl hc0) hb hg) (by omega) (fun i x y hx' hy => ?_) (fun i y hi hy => ?_)
    · have hi : i < cs.length := (List.getElem?_eq_some_iff.1 hx').1
      refine hc.rel i x y hx' ?_
      rw [← ht, List.getElem?_take, if_pos (by omega)]
      simpa using hy
    · refine hc.one i y ?_
      rw [← ht, List.getElem?_take, if_pos (by omega)]
      simpa using hy

theorem CellL.flat {C D : Ctx} {cs : List AV} {ys : List Value} (h : CellL C cs ys) (hf : ∀ c ∈ cs, Flat c) (hh : ∀ b o, C.h b o → D.h b o) : CellL D cs ys :=
  ⟨h.len, fun i x y hx hy => (h.rel i x y hx hy).flat (hf x (List.mem_of_getElem? hx)) hh, h.one⟩

theorem ctx_lend (b : Nat) (o : Obj) (h : (ctx h0 w0 ρ st w).h b o) : (bare (lendH h0 w0 w)).h b o := ⟨h.1, h.2.1⟩

theorem vw_sl (S : Sim F h0 w0 nt ρ st a w) {s g o n e sz N : Nat} {cs : List AV} {v : Value} (he : st.heap s g = some (.row e sz N cs)) (hf : ∀ c ∈ cs, Flat c) (hle : o + n * sz ≤ cs.length) (hu : RelV (ctx h0 w0 ρ st w) (.vw s g o n) v) : RelV (bare (lendH h0 w0 w)) (.sl n ((cs.drop o).take (n * sz))) v := by
  obtain ⟨_, ho1, xs, ho, hc⟩ := S.ent s g _ he
  cases hu with
  | vw _ _ _ _ b cap hg hb hcap _ =>
    change blkOf (ρ s g) = some b at hb
    rcases ho.2 with ⟨p, hρ, hn⟩ | ⟨b', cap', cur, hρ, hbb, hh, _, _, _, ht, hc0⟩
    · exfalso
      rw [hρ] at hb
      cases p <;> cases hb
    · rw [hρ, blkOf_sl hc0] at hb
      simp only [Option.some.injEq] at hb
      subst hb
      have hc' := hc.flat (D := bare (lendH h0 w0 w)) hf ctx_lend
      have hl := hc.len
      have hxl : xs.length ≤ cur.size := by rw [← ht]; simp; omega
      have hget : ∀ i, i < n * sz → cur[o + i]? = xs[o + i]? := fun i hi => by
        rw [← ht, List.getElem?_take, if_pos (by rw [← ho.1]; omega)]
        simp
      refine .sl _ _ b' o cap cur e (0, 0) hcap ⟨hh, fun hlt => by omega⟩ (by simp; omega) (fun i x y hx hy => ?_) (fun i y hi hy => ?_)
      · rw [List.getElem?_take] at hx
        split at hx
        · rename_i hi
          rw [List.getElem?_drop] at hx
          rw [hget i hi] at hy
          exact hc'.rel _ x y hx hy
        · cases hx
      · simp only [List.length_take, List.length_drop] at hi
        rw [hget i (by omega)] at hy
        exact hc.one _ y hy
theorem expo0_sound (S : Sim F h0 w0 nt ρ st a w) {x y : AV} {v : Value} (hu : RelV (ctx h0 w0 ρ st w) x v) (h : expo0 st x = some y) : RelV (bare (lendH h0 w0 w)) y v := by
  unfold expo0 at h
  split at h
  · rename_i hf
    simp only [Option.some.injEq] at h
    subst h
    exact hu.flat hf ctx_lend
  · split at h
    · split at h
      · rename_i e sz n cs he
        split at h
        · rename_i hf
          simp only [Option.some.injEq] at h
          subst h
          obtain ⟨_, ho1, xs, ho, hc⟩ := S.ent _ _ _ he
          cases hu with
          | own s g hg h1 => exact ownsRow_sl (fun b o _ hb hbo => ⟨hbo, fun hlt => by omega⟩) ho (hc.flat hf ctx_lend)
        · cases h
      · cases h
    · rename_i s g o n _
      split at h
      · rename_i e sz N cs he
        split at h
        · rename_i hf
          obtain ⟨hf, hle⟩ := hf
          simp only [Option.some.injEq] at h
          subst h
          exact vw_sl S he hf hle hu
        · cases h
      · cases h
    · cases h
theorem expo0_flat {x y : AV} (h : expo0 st x = some y) : Flat y := by
  unfold expo0 at h
  split at h
  · rename_i hf
    simp only [Option.some.injEq] at h
    subst h
    exact hf
  · split at h
    · split at h
      · split at h
        · rename_i hf
          simp only [Option.some.injEq] at h
          subst h
          exact .sl _ _ hf
        · cases h
      · cases h
    · split at h
      · split at h
        · rename_i hf
          simp only [Option.some.injEq] at h
          subst h
          exact .sl _ _ fun c hc => hf.1 c (List.mem_of_mem_drop (List.mem_of_mem_take hc))
        · cases h
      · cases h
    · cases h
theorem expo1_sound (S : Sim F h0 w0 nt ρ st a w) {x y : AV} {v : Value} (hu : RelV (ctx h0 w0 ρ st w) x v) (h : expo1 st x = some y) : RelV (bare (lendH h0 w0 w)) y v ∧ (v.oneCell' = true ∨ y = x) := by
  unfold expo1 at h
  split at h
  · rename_i hf
    simp only [Option.some.injEq] at h
    subst h
    exact ⟨hu.flat hf ctx_lend, .inr rfl⟩
  · split at h
    · rename_i s g _
      split at h
      · rename_i e sz n cs he
        split at h
        · rename_i hf
          simp only [Option.some.injEq] at h
          subst h
          obtain ⟨_, ho1, xs, ho, hc⟩ := S.ent s g _ he
          cases hu with
          | own s g hg h1 => exact ⟨ownsRow_sl (fun b o _ hb hbo => ⟨hbo, fun hlt => by omega⟩) ho (hc.flat hf ctx_lend), .inl h1⟩
        · cases h
      · cases h
    · rename_i s g o n _
      split at h
      · rename_i e sz N cs he
        split at h
        · rename_i hf
          obtain ⟨hf, hle⟩ := hf
          simp only [Option.some.injEq] at h
          subst h
          cases hu with
          | vw _ _ _ _ b cap hg hb hcap hfull => exact ⟨vw_sl S he hf hle (.vw s g o n b cap hg hb hcap hfull), .inl rfl⟩
        · cases h
      · cases h
    · rename_i s g off _
      split at h
      · rename_i cs he
        simp only [Option.map_eq_some_iff] at h
        obtain ⟨ds, hds, rfl⟩ := h
        have hm := optAll_spec _ _ hds
        have hlen : ds.length = cs.length := by have := congrArg List.length hm; simpa using this.symm
        obtain ⟨_, _, b', arr, T, hρ, hb', hh, hc⟩ := S.ent s g _ he
        cases hu with
        | ptr s g off b hg hb =>
          have hbb : b' = b := by
            have h2 : blkOf (ρ s g) = some b := hb
            rw [hρ] at h2; simpa [blkOf] using h2
          subst hbb
          have hl := hc.len
          simp only [Array.length_toList] at hl
          have := RelV.ip (C := bare (lendH h0 w0 w)) ds off b' 0 arr T (0, 0) ⟨hh, fun hlt => by omega⟩ (by omega) (fun i x y hx hy => by
            have hi : i < cs.length := by have := (List.getElem?_eq_some_iff.1 hx).1; omega
            have hx' : expo0 st cs[i] = some x := by
              have := congrArg (·[i]?) hm
              simp only [List.getElem?_map, hx, List.getElem?_eq_getElem hi, Option.map_some, Option.some.injEq] at this
              exact this
            exact expo0_sound S (hc.rel i cs[i] y (by simp [hi]) (by simpa using hy)) hx') (fun i y hi hy => hc.one i y (by simpa using hy))
          rw [Nat.zero_add] at this
          exact ⟨this, .inl rfl⟩
      · cases h
    · cases h

theorem expo_sound (S : Sim F h0 w0 nt ρ st a w) {x y : AV} {v : Value} (hu : RelV (ctx h0 w0 ρ st w) x v) (h : expo st x = some y) : RelV (bare (lendH h0 w0 w)) y v := by
  unfold expo at h
  split at h
  · rename_i hf
    simp only [Option.some.injEq] at h
    subst h
    exact hu.flat hf ctx_lend
  · split at h
    · rename_i cs _
      simp only [Option.map_eq_some_iff] at h
      obtain ⟨ds, hds, rfl⟩ := h
      have hm := optAll_spec _ _ hds
      cases hu with
      | agg cs ar hl hr h1 =>
        have hlen : ds.length = cs.length := by have := congrArg List.length hm; simpa using this.symm
        refine .agg ds ar (by omega) (fun i x y hx hy => ?_) h1
        have hi : i < cs.length := by have := (List.getElem?_eq_some_iff.1 hx).1; omega
        have hx' : expo1 st cs[i] = some x := by
          have := congrArg (·[i]?) hm
          simp only [List.getElem?_map, hx, List.getElem?_eq_getElem hi, Option.map_some, Option.some.injEq] at this
          exact this
        exact (expo1_sound S (hr i cs[i] y (by simp [hi]) hy) hx').1
    · rename_i f caps _
      simp only [Option.map_eq_some_iff] at h
      obtain ⟨ds, hds, rfl⟩ := h
      have hm := optAll_spec _ _ hds
      cases hu with
      | clo f cs ar hl hr =>
        have hlen : ds.length = caps.length := by have := congrArg List.length hm; simpa using this.symm
        refine .clo f ds ar (by omega) (fun i x y hx hy => ?_)
        have hi : i < caps.length := by have := (List.getElem?_eq_some_iff.1 hx).1; omega
        have hx' : expo1 st caps[i] = some x := by
          have := congrArg (·[i]?) hm
          simp only [List.getElem?_map, hx, List.getElem?_eq_getElem hi, Option.map_some, Option.some.injEq] at this
          exact this
        exact (expo1_sound S (hr i caps[i] y (by simp [hi]) hy) hx').1
    · exact (expo1_sound S hu h).1

theorem optAll_all {α β : Type} {p : β → Prop} {f : α → Option β} (hp : ∀ a b, f a = some b → p b) : ∀ (l : List α) (r : List β), optAll (l.map f) = some r → ∀ b ∈ r, p b
  | [], r, h => by simp [optAll] at h; subst h; simp
  | a :: l, r, h => by
    simp only [List.map_cons] at h
    cases ha : f a with
    | none => simp [ha, optAll] at h
    | some b =>
      simp only [ha, optAll, Option.map_eq_some_iff] at h
      obtain ⟨r', h', rfl⟩ := h
      intro c hc
      rcases List.mem_cons.1 hc with rfl | hc
      · exact hp _ _ ha
      · exact optAll_all hp l r' h' c hc
theorem expo1_flat {x y : AV} (h : expo1 st x = some y) : Flat y := by
  unfold expo1 at h
  split at h
  · rename_i hf
    simp only [Option.some.injEq] at h
    subst h
    exact hf
  · split at h
    · split at h
      · split at h
        · rename_i hf
          simp only [Option.some.injEq] at h
          subst h
          exact .sl _ _ hf
        · cases h
      · cases h
    · split at h
      · split at h
        · rename_i hf
          simp only [Option.some.injEq] at h
          subst h
          exact .sl _ _ fun c hc => hf.1 c (List.mem_of_mem_drop (List.mem_of_mem_take hc))
        · cases h
      · cases h
    · split at h
      · simp only [Option.map_eq_some_iff] at h
        obtain ⟨ds, hds, rfl⟩ := h
        exact .ip _ _ (optAll_all (fun a b h => expo0_flat h) _ _ hds)
      · cases h
    · cases h
theorem expo_flat {x y : AV} (h : expo st x = some y) : Flat y := by
  unfold expo at h
  split at h
  · rename_i hf
    simp only [Option.some.injEq] at h
    subst h
    exact hf
  · split at h
    · simp only [Option.map_eq_some_iff] at h
      obtain ⟨ds, hds, rfl⟩ := h
      exact .agg _ (optAll_all (fun a b h => expo1_flat h) _ _ hds)
    · simp only [Option.map_eq_some_iff] at h
      obtain ⟨ds, hds, rfl⟩ := h
      exact .clo _ _ (optAll_all (fun a b h => expo1_flat h) _ _ hds)
    · exact expo1_flat h

theorem expo2_sound (S : Sim F h0 w0 nt ρ st a w) {x y : AV} {v : Value} (hu : RelV (ctx h0 w0 ρ st w) x v) (h : expo2 st x = some y) : RelV (bare (lendH h0 w0 w)) y v := by
  unfold expo2 at h
  split at h
  · rename_i s g
    split at h
    · rename_i e sz n cs he
      simp only [Option.map_eq_some_iff] at h
      obtain ⟨ds, hds, rfl⟩ := h
      have hm := optAll_spec _ _ hds
      obtain ⟨_, ho1, xs, ho, hc⟩ := S.ent s g _ he
      cases hu with
      | own s g hg h1 =>
        have hlen : ds.length = cs.length := by have := congrArg List.length hm; simpa using this.symm
        refine ownsRow_sl (fun b o _ hb hbo => ⟨hbo, fun hlt => by omega⟩) ho ⟨by rw [hlen]; exact hc.len, fun i x y hx hy => ?_, hc.one⟩
        have hi : i < cs.length := by have := (List.getElem?_eq_some_iff.1 hx).1; omega
        have hx' : expo1 st cs[i] = some x := by
          have := congrArg (·[i]?) hm
          simp only [List.getElem?_map, hx, List.getElem?_eq_getElem hi, Option.map_some, Option.some.injEq] at this
          exact this
        exact (expo1_sound S (hc.rel i cs[i] y (by simp [hi]) hy) hx').1
    · cases h
  · exact (expo1_sound S hu h).1
theorem expoD_sound (S : Sim F h0 w0 nt ρ st a w) {x y : AV} {v : Value} (hu : RelV (ctx h0 w0 ρ st w) x v) (h : expoD st x = some y) : RelV (bare (lendH h0 w0 w)) y v := by
  unfold expoD at h
  split at h
  · rename_i cs
    simp only [Option.map_eq_some_iff] at h
    obtain ⟨ds, hds, rfl⟩ := h
    have hm := optAll_spec _ _ hds
    cases hu with
    | agg cs ar hl hr h1 =>
      have hlen : ds.length = cs.length := by have := congrArg List.length hm; simpa using this.symm
      refine .agg ds ar (by omega) (fun i x y hx hy => ?_) h1
      have hi : i < cs.length := by have := (List.getElem?_eq_some_iff.1 hx).1; omega
      have hx' : expo2 st cs[i] = some x := by
        have := congrArg (·[i]?) hm
        simp only [List.getElem?_map, hx, List.getElem?_eq_getElem hi, Option.map_some, Option.some.injEq] at this
        exact this
      exact expo2_sound S (hr i cs[i] y (by simp [hi]) hy) hx'
  · exact expo2_sound S hu h
theorem expoS_sound (S : Sim F h0 w0 nt ρ st a w) {x y : AV} {v : Value} (hu : RelV (ctx h0 w0 ρ st w) x v) (h : expoS st x = some y) : RelV (bare (lendH h0 w0 w)) y v := by
  unfold expoS at h
  split at h
  · rename_i z hz
    simp only [Option.some.injEq] at h
    subst h
    exact expo_sound S hu hz
  · exact expoD_sound S hu h
theorem expo2_flat {x y : AV} (h : expo2 st x = some y) : Flat y := by
  unfold expo2 at h
  split at h
  · split at h
    · simp only [Option.map_eq_some_iff] at h
      obtain ⟨ds, hds, rfl⟩ := h
      exact .sl _ _ (optAll_all (fun a b h => expo1_flat h) _ _ hds)
    · cases h
  · exact expo1_flat h
theorem expoS_flat {x y : AV} (h : expoS st x = some y) : Flat y := by
  unfold expoS at h
  split at h
  · rename_i z hz
    simp only [Option.some.injEq] at h
    subst h
    exact expo_flat hz
  · unfold expoD at h
    split at h
    · simp only [Option.map_eq_some_iff] at h
      obtain ⟨ds, hds, rfl⟩ := h
      exact .agg _ (optAll_all (fun a b h => expo2_flat h) _ _ hds)
    · exact expo2_flat h
theorem expoS_of {x y : AV} (h : expo st x = some y) : expoS st x = some y := by unfold expoS; rw [h]
theorem expoS_none {x : AV} (h : expo st x = none) : expoS st x = expoD st x := by unfold expoS; rw [h]
end
end Go.Ab
