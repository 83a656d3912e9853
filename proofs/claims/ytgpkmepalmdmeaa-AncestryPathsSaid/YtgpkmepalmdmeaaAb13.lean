/-
  Part Ab13 of the proof: an evaluator of the programs written in Lean once, and its soundness.
-/
import Derived.Test.YtgpkmepalmdmeaaAb12
set_option linter.all false
namespace Go.Ab
open Classical
variable [Ext]

def MaskGood (ops : Array Oper) (acc : Array Nat) : Prop :=
  ∀ j o, j < acc.size → ops[j]? = some o → ∀ k, (acc.getD j 0).testBit k = true → ∃ e ∈ o.after, Region.binds .any e = true ∧ (e.on = k ∨ (acc.getD e.on 0).testBit k = true)

theorem mask_bits (acc : Array Nat) (k : Nat) : ∀ (l : List Edge) (s : Nat), (l.foldl (fun s e => if Region.binds .any e = true then s ||| 2 ^ e.on ||| acc.getD e.on 0 else s) s).testBit k = true →
    s.testBit k = true ∨ ∃ e ∈ l, Region.binds .any e = true ∧ (e.on = k ∨ (acc.getD e.on 0).testBit k = true)
  | [], s, h => .inl h
  | e :: l, s, h => by
    simp only [List.foldl_cons] at h
    rcases mask_bits acc k l _ h with h | ⟨e', he', h⟩
    · split at h
      · rename_i hb
        simp only [Nat.testBit_or, Bool.or_eq_true] at h
        rcases h with (h | h) | h
        · exact .inl h
        · rw [Nat.testBit_two_pow] at h
          exact .inr ⟨e, by simp, hb, .inl (by simpa using h)⟩
        · exact .inr ⟨e, by simp, hb, .inr h⟩
      · exact .inl h
    · exact .inr ⟨e', by simp [he'], h⟩

theorem forced_eq {α : Type} (n : Nat) (k : Nat → α) : forced n k = k n := by cases n <;> rfl

theorem masks_good (ops : Array Oper) : ∀ (l : List Oper) (acc : Array Nat), (∀ i o, l[i]? = some o → ops[acc.size + i]? = some o) → MaskGood ops acc → MaskGood ops (masks l acc)
  | [], acc, _, h => h
  | o :: l, acc, hl, h => by
    unfold masks
    rw [forced_eq]
    refine masks_good ops l _ (fun i o' ho' => ?_) ?_
    · have := hl (i + 1) o' (by simpa using ho')
      simp only [Array.size_push]
      rw [← this]
      congr 1
      omega
    · intro j oj hj hoj k hk
      have keep : ∀ x, (acc.getD x 0).testBit k = true → ((acc.push (maskOf acc o)).getD x 0).testBit k = true := fun x hx => by
        have hlt : x < acc.size := by
          rcases Nat.lt_or_ge x acc.size with h' | h'
          · exact h'
          · simp [Array.getElem?_eq_none h'] at hx
        simp only [Array.getD_eq_getD_getElem?, Array.getElem?_push_lt hlt] at hx ⊢
        simpa [hlt] using hx
      rcases Nat.lt_or_ge j acc.size with hlt | hge
      · have hk' : (acc.getD j 0).testBit k = true := by
          simp only [Array.getD_eq_getD_getElem?, Array.getElem?_push_lt hlt] at hk ⊢
          simpa [hlt] using hk
        obtain ⟨e, he, hb, hor⟩ := h j oj hlt hoj k hk'
        exact ⟨e, he, hb, hor.imp id (keep _)⟩
      · have hje : j = acc.size := by simp only [Array.size_push] at hj; omega
        subst hje
        have ho := hl 0 o (by simp)
        rw [Nat.add_zero, hoj] at ho
        cases ho
        have hk' : (maskOf acc o).testBit k = true := by simpa using hk
        rcases mask_bits acc k _ 0 hk' with h0 | ⟨e, he, hb, hor⟩
        · simp at h0
        · exact ⟨e, by simpa using he, hb, hor.imp id (keep _)⟩

theorem pairsOk_spec {ops : Array Oper} {b : Array Nat} {j : Nat} {oj : Oper} : ∀ (l : List Oper) (i0 : Nat), pairsOk ops b j oj l i0 = true → ∀ i oi, l[i]? = some oi → i0 + i < j → (b.getD j 0).testBit (i0 + i) = true ∨ apartOk ops oi oj = true
  | [], _, _, i, oi, h, _ => by simp at h
  | o :: l, i0, h, i, oi, ho, hlt => by
    unfold pairsOk at h
    simp only [Bool.and_eq_true, Bool.or_eq_true, decide_eq_true_eq] at h
    cases i with
    | zero =>
      simp at ho
      subst ho
      rcases h.1 with (h | h) | h
      · omega
      · exact .inl (by simpa using h)
      · exact .inr h
    | succ i =>
      have := pairsOk_spec l (i0 + 1) h.2 i oi (by simpa using ho) (by omega)
      rw [show i0 + (i + 1) = i0 + 1 + i by omega]
      exact this

theorem rowsOk_spec {ops : Array Oper} {b : Array Nat} : ∀ (l : List Oper) (j0 : Nat), rowsOk ops b l j0 = true → ∀ j oj, l[j]? = some oj →
    (∀ e ∈ oj.after, Region.binds .any e = true → e.on < j0 + j) ∧ pairsOk ops b (j0 + j) oj ops.toList 0 = true
  | [], _, _, j, oj, h => by simp at h
  | o :: l, j0, h, j, oj, ho => by
    unfold rowsOk at h
    simp only [Bool.and_eq_true] at h
    obtain ⟨⟨h1, h2⟩, h3⟩ := h
    cases j with
    | zero =>
      simp at ho
      subst ho
      refine ⟨fun e he hb => ?_, by simpa using h2⟩
      have := List.all_eq_true.1 h1 e (by simpa using he)
      simpa [hb] using this
    | succ j =>
      have := rowsOk_spec l (j0 + 1) h3 j oj (by simpa using ho)
      rw [show j0 + (j + 1) = j0 + 1 + j by omega]
      exact this

structure DrawFacts (ops : Array Oper) (b : Array Nat) : Prop where
  good : MaskGood ops b
  size : b.size = ops.size
  lt : ∀ j oj, ops[j]? = some oj → ∀ e ∈ oj.after, Region.binds .any e = true → e.on < j
  apart : ∀ i j oi oj, i < j → ops[i]? = some oi → ops[j]? = some oj → (b.getD j 0).testBit i = true ∨ apartOk ops oi oj = true

theorem masks_size : ∀ (l : List Oper) (acc : Array Nat), (masks l acc).size = acc.size + l.length
  | [], acc => rfl
  | o :: l, acc => by
    unfold masks
    rw [forced_eq, masks_size l]
    simp
    omega

theorem drawOk_spec {ops : Array Oper} (h : drawOk ops = true) : ∃ b, DrawFacts ops b := by
  unfold drawOk at h
  refine ⟨_, masks_good ops ops.toList #[] (fun i o ho => by simpa using ho) (fun j o hj => by simp at hj), by rw [masks_size]; simp, fun j oj hoj => ?_, fun i j oi oj hij hoi hoj => ?_⟩
  · have := (rowsOk_spec _ 0 h j oj (by simpa using hoj)).1
    simpa using this
  · have := (rowsOk_spec _ 0 h j oj (by simpa using hoj)).2
    simp only [Nat.zero_add] at this
    have := pairsOk_spec _ 0 this i oi (by simpa using hoi) (by omega)
    simpa using this

section
variable {P : Program} {call : Nat → List AV → Option AV} {ops : Array Oper} {nt : Nat} {Q : Exit → Act → World → Prop}

theorem gv_sound {h0 : Nat → Obj → Prop} {w0 : World} {ρ : Nat → Nat → Value} {st : St} {a : Act} {w : World} (S : Sim h0 w0 nt ρ st a w) {o : Oper} {b : Bool} (h : gv ops st o.guard = some b) : Region.wanted o (yielded ops a.tmps) = b := by
  unfold gv at h
  unfold Region.wanted
  cases hg : o.guard with
  | none => simp [hg] at h; subst h; rfl
  | some jw =>
    obtain ⟨j, want⟩ := jw
    simp only [hg] at h
    simp only
    cases hd : (ops[j]?).bind (·.dst) with
    | none =>
      simp [hd] at h
      subst h
      simp [yielded, hd]
    | some d =>
      simp only [hd] at h
      split at h
      · rename_i x hx
        have hr := S.env d
        rw [hx] at hr
        have hv := relV_v hr
        rcases Nat.lt_or_ge d a.tmps.size with hlt | hge
        · have hv' : a.tmps[d]? = some x := by
            simp [hlt] at hv ⊢
            exact hv
          simp only [yielded, hd, Option.bind_some, hv']
          split at h
          · simp only [Option.some.injEq] at h
            rw [← h]
            simp
          · simp only [Option.some.injEq] at h
            subst h
            rename_i hne
            cases x <;> first | rfl | exact absurd rfl (hne _)
        · have hn : a.tmps[d]? = none := Array.getElem?_eq_none hge
          have hu : x = undef := by simpa [hn] using hv.symm
          subst hu
          simp [undef] at h
          subst h
          simp [yielded, hd, hn]
      · cases h

theorem evOp_sound {h0 : Nat → Obj → Prop} {w0 : World} {ρ : Nat → Nat → Value} {st st' : St} {a : Act} {w : World} {K : Act → World → Prop} (S : Sim h0 w0 nt ρ st a w) (hcall : CallOk P call) {i : Nat} {o : Oper}
    (hi : ops[i]? = some o) (hd : ∀ d, o.dst = some d → d < nt) (h : evOp P call ops o st = some st')
    (hK : ∀ ρ' a' w', Sim h0 w0 nt ρ' st' a' w' → K a' w') : wpOp P ops Q i K a w := by
  unfold wpOp
  simp only [hi]
  unfold evOp at h
  cases hg : gv ops st o.guard with
  | none => simp [hg] at h
  | some b =>
    rw [gv_sound S hg]
    simp only [hg] at h
    cases b with
    | true =>
      simp only [if_true] at h ⊢
      cases he : opEff P call o st with
      | none => simp [he] at h
      | some e =>
        simp only [he, Option.map_some, Option.some.injEq] at h
        subst h
        exact .inl (opEff_sound S hcall he hd hK)
    | false =>
      simp only [Bool.false_eq_true, if_false, Option.some.injEq] at h ⊢
      subst h
      exact hK ρ _ w (S.put o.dst hd (.v _))

theorem exists_of_wp {o : Oper} {a : Act} {w : World} {K : Act → World → Prop} (h : o.wp P a w K fun _ _ _ => False) : ∃ a' w', K a' w' := by
  unfold Oper.wp at h
  generalize (execOp a.eval o).run P w = r at h
  have hlet : ¬ LetsOut (fun _ _ _ => False) := by rintro ⟨_, _, h⟩; exact h
  cases r with
  | ok n w' =>
    cases n <;> simp only [Oper.upon] at h <;> (try exact ⟨_, _, h⟩) <;> (try exact h.elim)
    · obtain ⟨e, w2, fr, hR, _⟩ := h []
      cases e with
      | returned v => exact ⟨_, _, hR⟩
      | panicked c => exact hR.elim
      | outgrown => exact absurd hR hlet
    · obtain ⟨v, w2, hR, _⟩ := h default []
      exact ⟨_, _, hR⟩
  | halt x w' => cases x <;> simp only [Oper.upon] at h

def Valid (nt : Nat) (st : St) : Prop := ∃ h0 w0 ρ a w, Sim h0 w0 nt ρ st a w

theorem Valid.ids {st : St} (h : Valid nt st) : ∀ t, IdOk st.cnt (st.env t) := by
  obtain ⟨h0, w0, ρ, a, w, S⟩ := h
  exact fun t => ⟨ctx h0 w0 ρ st w, _, rfl, S.env t⟩

theorem Valid.step {st st' : St} (h : Valid nt st) (hcall : CallOk P call) {o : Oper} (hd : ∀ d, o.dst = some d → d < nt) (he : evOp P call ops o st = some st') : Valid nt st' := by
  obtain ⟨h0, w0, ρ, a, w, S⟩ := h
  unfold evOp at he
  cases hg : gv ops st o.guard with
  | none => simp [hg] at he
  | some b =>
    simp only [hg] at he
    cases b with
    | true =>
      simp only [if_true] at he
      cases hee : opEff P call o st with
      | none => simp [hee] at he
      | some e =>
        simp only [hee, Option.map_some, Option.some.injEq] at he
        subst he
        obtain ⟨a', w', ρ', S'⟩ := exists_of_wp (opEff_sound (Q := fun _ _ _ => False) (K := fun a' w' => ∃ ρ', Sim h0 w0 nt ρ' (e.apply st) a' w') S hcall hee hd (fun ρ' a' w' h => ⟨ρ', h⟩))
        exact ⟨h0, w0, ρ', a', w', S'⟩
    | false =>
      simp only [Bool.false_eq_true, if_false, Option.some.injEq] at he
      subst he
      exact ⟨h0, w0, ρ, _, w, S.put o.dst hd (.v _)⟩

/-- The operations of a list of places, one after the other. -/
noncomputable def evIx (P : Program) (call : Nat → List AV → Option AV) (ops : Array Oper) : List Nat → St → Option St
  | [], st => some st
  | i :: r, st =>
    match ops[i]? with
    | some o => bnd (evOp P call ops o st) (evIx P call ops r)
    | none => evIx P call ops r st

theorem evOps_evIx : ∀ (l : List Oper) (k : Nat) (st : St), (∀ j, l[j]? = ops[k + j]? ∨ l.length ≤ j) → evOps P call ops l st = evIx P call ops (List.range' k l.length) st
  | [], k, st, h => rfl
  | o :: l, k, st, h => by
    have h0 := (h 0).resolve_right (by simp)
    simp only [List.getElem?_cons_zero, Nat.add_zero] at h0
    simp only [evOps, List.length_cons, List.range'_succ, evIx, ← h0]
    cases evOp P call ops o st with
    | none => rfl
    | some s =>
      simp only [bnd]
      exact evOps_evIx l (k + 1) s fun j => by
        rcases h (j + 1) with h | h
        · left
          rw [show k + 1 + j = k + (j + 1) by omega, ← h]
          simp
        · right
          simpa using h

theorem evIx_front (hcall : CallOk P call) (hdst : ∀ (j : Nat) o, ops[j]? = some o → ∀ d, o.dst = some d → d < nt) {i : Nat} {oi : Oper} (hi : ops[i]? = some oi) (l2 : List Nat) : ∀ (l1 : List Nat) (st sf : St), Valid nt st →
    (∀ k ∈ l1, ∃ ok, ops[k]? = some ok ∧ apartOk ops ok oi = true) → evIx P call ops (l1 ++ i :: l2) st = some sf → evIx P call ops (i :: (l1 ++ l2)) st = some sf
  | [], st, sf, _, _, h => h
  | k :: l1, st, sf, hv, hap, h => by
    obtain ⟨ok, hok, hak⟩ := hap k (by simp)
    simp only [List.cons_append, evIx, hok] at h
    cases h1 : evOp P call ops ok st with
    | none => simp [h1, bnd] at h
    | some s1 =>
      simp only [h1, bnd] at h
      have ih := evIx_front hcall hdst hi l2 l1 s1 sf (hv.step hcall (hdst k ok hok) h1) (fun k hk => hap k (by simp [hk])) h
      simp only [evIx, hi] at ih
      cases h2 : evOp P call ops oi s1 with
      | none => simp [h2, bnd] at ih
      | some s2 =>
        simp only [h2, bnd] at ih
        obtain ⟨s3, h3, h4⟩ := ev_comm hak hv.ids h1 h2
        simp only [List.cons_append, evIx, hi, hok, h3, h4, bnd]
        exact ih

structure Left (ops : Array Oper) (listed : Array Bool) (l : List Nat) : Prop where
  size : listed.size = ops.size
  mem : ∀ j, j ∈ l ↔ j < ops.size ∧ listed.getD j true = false
  sorted : l.Pairwise (· < ·)
  closed : ∀ j o, ops[j]? = some o → listed.getD j false = true → ∀ e ∈ o.after, Region.binds .any e = true → listed.getD e.on false = true

theorem getD_flip {listed : Array Bool} {j : Nat} (hj : j < listed.size) : listed.getD j true = listed.getD j false := by simp [hj]

theorem bits_listed {b : Array Nat} (D : DrawFacts ops b) {listed : Array Bool} {l : List Nat} (L : Left ops listed l) : ∀ (j : Nat) o, ops[j]? = some o → (∀ e ∈ o.after, Region.binds .any e = true → listed.getD e.on false = true) →
    ∀ k, (b.getD j 0).testBit k = true → listed.getD k false = true := by
  intro j
  induction j using Nat.strongRecOn with
  | _ j ih =>
    intro o ho hall k hk
    have hj : j < ops.size := (Array.getElem?_eq_some_iff.1 ho).1
    obtain ⟨e, he, hb, hor⟩ := D.good j o (by rw [D.size]; exact hj) ho k hk
    have hle := hall e he hb
    rcases hor with rfl | hk'
    · exact hle
    · have hlt := D.lt j o ho e he hb
      have hes : e.on < ops.size := by omega
      exact ih e.on hlt _ (Array.getElem?_eq_getElem hes) (L.closed e.on _ (Array.getElem?_eq_getElem hes) hle) k hk'

theorem region_any {h0 : Nat → Obj → Prop} {w0 : World} (hcall : CallOk P call) (hdst : ∀ (j : Nat) o, ops[j]? = some o → ∀ d, o.dst = some d → d < nt) {b : Array Nat} (D : DrawFacts ops b) {sf : St}
    (hQ : ∀ ρ' a' w', Sim h0 w0 nt ρ' sf a' w' → Q .normal a' w') : ∀ (f : Nat) (l : List Nat) (listed : Array Bool) (st : St) (ρ : Nat → Nat → Value) (a : Act) (w : World), l.length = f → Left ops listed l → Sim h0 w0 nt ρ st a w →
    evIx P call ops l st = some sf → wpAny P .any ops Q f listed a w
  | 0, l, listed, st, ρ, a, w, hf, L, S, he => by
    have hl := List.length_eq_zero_iff.1 hf
    subst hl
    simp only [evIx, Option.some.injEq] at he
    subst he
    refine ⟨?_, hQ ρ a w S⟩
    cases hr : Region.ready .any ops listed with
    | nil => rfl
    | cons x xs =>
      have hx : x ∈ Region.ready .any ops listed := by rw [hr]; simp
      obtain ⟨h1, o, ho, _⟩ := mem_ready.1 hx
      have := (L.mem x).2 ⟨(Array.getElem?_eq_some_iff.1 ho).1, h1⟩
      simp at this
  | f + 1, l, listed, st, ρ, a, w, hf, L, S, he => by
    refine ⟨fun hr => ?_, fun i hi => ?_⟩
    · exfalso
      cases l with
      | nil => simp at hf
      | cons i l =>
        have hil := (L.mem i).1 (by simp)
        have : i ∈ Region.ready .any ops listed := mem_ready.2 ⟨hil.2, ops[i], Array.getElem?_eq_getElem hil.1, fun e he' hb => by
          have hlt := D.lt i _ (Array.getElem?_eq_getElem hil.1) e he' hb
          cases hle : listed.getD e.on false with
          | true => rfl
          | false =>
            have hsz : e.on < listed.size := by rw [L.size]; omega
            have hin := (L.mem e.on).2 ⟨by omega, by rw [getD_flip hsz]; exact hle⟩
            rcases List.mem_cons.1 hin with h | h
            · omega
            · have := (List.pairwise_cons.1 L.sorted).1 _ h
              omega⟩
        rw [hr] at this
        simp at this
    · obtain ⟨h1, oi, hoi, hall⟩ := mem_ready.1 hi
      have hilt : i < ops.size := (Array.getElem?_eq_some_iff.1 hoi).1
      have hil := (L.mem i).2 ⟨hilt, h1⟩
      obtain ⟨l1, l2, rfl⟩ := List.append_of_mem hil
      have hs := L.sorted
      rw [List.pairwise_append] at hs
      obtain ⟨s1, s2, s3⟩ := hs
      have hap : ∀ k ∈ l1, ∃ ok, ops[k]? = some ok ∧ apartOk ops ok oi = true := fun k hk => by
        have hki := s3 k hk i (by simp)
        have hkm := (L.mem k).1 (by simp [hk])
        refine ⟨ops[k], Array.getElem?_eq_getElem hkm.1, ?_⟩
        rcases D.apart k i _ oi hki (Array.getElem?_eq_getElem hkm.1) hoi with h | h
        · have := bits_listed D L i oi hoi hall k h
          rw [← getD_flip (by rw [L.size]; exact hkm.1), hkm.2] at this
          cases this
        · exact h
      have he' := evIx_front hcall hdst hoi l2 l1 st sf ⟨h0, w0, ρ, a, w, S⟩ hap he
      simp only [evIx, hoi] at he'
      cases h2 : evOp P call ops oi st with
      | none => simp [h2, bnd] at he'
      | some s2' =>
        simp only [h2, bnd] at he'
        refine evOp_sound S hcall hoi (hdst i oi hoi) h2 fun ρ' a' w' S' => ?_
        refine region_any hcall hdst D hQ f (l1 ++ l2) _ s2' ρ' a' w' (by simp at hf ⊢; omega) ⟨by simp [L.size], fun j => ?_, ?_, fun j o ho hlj e he'' hb => ?_⟩ S' he'
        · have hm := L.mem j
          simp only [List.mem_append, List.mem_cons] at hm ⊢
          by_cases hji : j = i
          · subst hji
            have hn1 : j ∉ l1 := fun h => by have := s3 j h j (by simp); omega
            have hn2 : j ∉ l2 := fun h => by have := (List.pairwise_cons.1 s2).1 j h; omega
            have hset : (listed.setIfInBounds j true).getD j true = true := by
              have : j < listed.size := by rw [L.size]; exact hilt
              simp [this]
            simp [hn1, hn2, hset]
          · rw [getD_set_ne true (Ne.symm hji)]
            simpa [hji] using hm
        · rw [List.pairwise_append]
          exact ⟨s1, (List.pairwise_cons.1 s2).2, fun x hx y hy => s3 x hx y (by simp [hy])⟩
        · by_cases hji : i = j
          · subst hji
            rw [hoi] at ho
            cases ho
            exact getD_set_true (hall e he'' hb)
          · rw [getD_set_ne false hji] at hlj
            exact getD_set_true (L.closed j o ho hlj e he'' hb)
end
end Go.Ab
