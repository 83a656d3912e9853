/-
  Part Ab13 of the proof: an evaluator of the programs written in Lean once, and its soundness.
-/
import Derived.Test.YtmcjkemalibacaaAb12
set_option linter.all false
namespace Go.Ab
open Classical
variable [Ext]

def MaskGood (ops : Array Oper) (acc : Array Nat) : Prop :=
  ∀ j o, j < acc.size → ops[j]? = some o → ∀ k, (acc.getD j 0).testBit k = true → ∃ e ∈ o.after, Region.binds .any e = true ∧ (e.on = k ∨ (acc.getD e.on 0).testBit k = true)

theorem mask_bits (acc : Array Nat) (k : Nat) : ∀ (l : List Edge) (s : Nat), (l.foldl (fun s e => if Region.binds .any e = true then s ||| 2 ^ e.on ||| acc.getD e.on 0 else s) s).testBit k = true →
    s.testBit k = true ∨ ∃ e ∈ l, Region.binds .any e = true ∧ (e.on = k ∨ (acc.getD e.on 0).testBit k = true)
  | [], s, h => .inl h
  | e :: l, s, h => by
    simp only [List.foldl_cons] at h
    rcases mask_bits acc k l _ h with h | ⟨e', he', h⟩
    · split at h
      · rename_i hb
        simp only [Nat.testBit_or, Bool.or_eq_true] at h
        rcases h with (h | h) | h
        · exact .inl h
        · rw [Nat.testBit_two_pow] at h
          exact .inr ⟨e, by simp, hb, .inl (by simpa using h)⟩
        · exact .inr ⟨e, by simp, hb, .inr h⟩
      · exact .inl h
    · exact .inr ⟨e', by simp [he'], h⟩

theorem forced_eq {α : Type} (n : Nat) (k : Nat → α) : forced n k = k n := by cases n <;> rfl

theorem masks_good (ops : Array Oper) : ∀ (l : List Oper) (acc : Array Nat), (∀ i o, l[i]? = some o → ops[acc.size + i]? = some o) → MaskGood ops acc → MaskGood ops (masks l acc)
  | [], acc, _, h => h
  | o :: l, acc, hl, h => by
    unfold masks
    rw [forced_eq]
    refine masks_good ops l _ (fun i o' ho' => ?_) ?_
    · have := hl (i + 1) o' (by simpa using ho')
      simp only [Array.size_push]
      rw [← this]
      congr 1
      omega
    · intro j oj hj hoj k hk
      have keep : ∀ x, (acc.getD x 0).testBit k = true → ((acc.push (maskOf acc o)).getD x 0).testBit k = true := fun x hx => by
        have hlt : x < acc.size := by
          rcases Nat.lt_or_ge x acc.size with h' | h'
          · exact h'
          · simp [Array.getElem?_eq_none h'] at hx
        simp only [Array.getD_eq_getD_getElem?, Array.getElem?_push_lt hlt] at hx ⊢
        simpa [hlt] using hx
      rcases Nat.lt_or_ge j acc.size with hlt | hge
      · have hk' : (acc.getD j 0).testBit k = true := by
          simp only [Array.getD_eq_getD_getElem?, Array.getElem?_push_lt hlt] at hk ⊢
          simpa [hlt] using hk
        obtain ⟨e, he, hb, hor⟩ := h j oj hlt hoj k hk'
        exact ⟨e, he, hb, hor.imp id (keep _)⟩
      · have hje : j = acc.size := by simp only [Array.size_push] at hj; omega
        subst hje
        have ho := hl 0 o (by simp)
        rw [Nat.add_zero, hoj] at ho
        cases ho
        have hk' : (maskOf acc o).testBit k = true := by simpa using hk
        rcases mask_bits acc k _ 0 hk' with h0 | ⟨e, he, hb, hor⟩
        · simp at h0
        · exact ⟨e, by simpa using he, hb, hor.imp id (keep _)⟩

theorem pairsOk_spec {ops : Array Oper} {dy : List (Nat × Nat)} {b : Array Nat} {j : Nat} {oj : Oper} : ∀ (l : List Oper) (i0 : Nat), pairsOk ops dy b j oj l i0 = true → ∀ i oi, l[i]? = some oi → i0 + i < j → (b.getD j 0).testBit (i0 + i) = true ∨ (noI oi = true ∧ noI oj = true ∧ (apartOk ops oi oj = true ∨ ((i0 + i, j) ∈ dy ∧ swapSt ops b (i0 + i) oi j oj = true)))
  | [], _, _, i, oi, h, _ => by simp at h
  | o :: l, i0, h, i, oi, ho, hlt => by
    unfold pairsOk at h
    simp only [Bool.and_eq_true, Bool.or_eq_true, decide_eq_true_eq] at h
    cases i with
    | zero =>
      simp at ho
      subst ho
      rcases h.1 with (h | h) | ⟨⟨n1, n2⟩, h⟩
      · omega
      · exact .inl (by simpa using h)
      · exact .inr ⟨n1, n2, h.imp id fun h => ⟨by simpa using h.1, by simpa using h.2⟩⟩
    | succ i =>
      have := pairsOk_spec l (i0 + 1) h.2 i oi (by simpa using ho) (by omega)
      rw [show i0 + (i + 1) = i0 + 1 + i by omega]
      exact this

theorem rowsOk_spec {ops : Array Oper} {dy : List (Nat × Nat)} {b : Array Nat} : ∀ (l : List Oper) (j0 : Nat), rowsOk ops dy b l j0 = true → ∀ j oj, l[j]? = some oj →
    (∀ e ∈ oj.after, Region.binds .any e = true → e.on < j0 + j) ∧ pairsOk ops dy b (j0 + j) oj ops.toList 0 = true
  | [], _, _, j, oj, h => by simp at h
  | o :: l, j0, h, j, oj, ho => by
    unfold rowsOk at h
    simp only [Bool.and_eq_true] at h
    obtain ⟨⟨h1, h2⟩, h3⟩ := h
    cases j with
    | zero =>
      simp at ho
      subst ho
      refine ⟨fun e he hb => ?_, by simpa using h2⟩
      have := List.all_eq_true.1 h1 e (by simpa using he)
      simpa [hb] using this
    | succ j =>
      have := rowsOk_spec l (j0 + 1) h3 j oj (by simpa using ho)
      rw [show j0 + (j + 1) = j0 + 1 + j by omega]
      exact this

structure DrawFacts (ops : Array Oper) (dy : List (Nat × Nat)) (b : Array Nat) : Prop where
  good : MaskGood ops b
  size : b.size = ops.size
  lt : ∀ j oj, ops[j]? = some oj → ∀ e ∈ oj.after, Region.binds .any e = true → e.on < j
  apart : ∀ i j oi oj, i < j → ops[i]? = some oi → ops[j]? = some oj → (b.getD j 0).testBit i = true ∨ (noI oi = true ∧ noI oj = true ∧ (apartOk ops oi oj = true ∨ ((i, j) ∈ dy ∧ swapSt ops b i oi j oj = true)))

theorem masks_size : ∀ (l : List Oper) (acc : Array Nat), (masks l acc).size = acc.size + l.length
  | [], acc => rfl
  | o :: l, acc => by
    unfold masks
    rw [forced_eq, masks_size l]
    simp
    omega

theorem drawOk_spec {ops : Array Oper} {dy : List (Nat × Nat)} (h : drawOk ops dy = true) : ∃ b, DrawFacts ops dy b := by
  unfold drawOk at h
  refine ⟨_, masks_good ops ops.toList #[] (fun i o ho => by simpa using ho) (fun j o hj => by simp at hj), by rw [masks_size]; simp, fun j oj hoj => ?_, fun i j oi oj hij hoi hoj => ?_⟩
  · have := (rowsOk_spec _ 0 h j oj (by simpa using hoj)).1
    simpa using this
  · have := (rowsOk_spec _ 0 h j oj (by simpa using hoj)).2
    simp only [Nat.zero_add] at this
    have := pairsOk_spec _ 0 this i oi (by simpa using hoi) (by omega)
    simpa using this

section
variable {P : Program} {call : Nat → List AV → Option AV} {ops : Array Oper} {nt : Nat} {Q : Exit → Act → World → Prop}

theorem gv_sound {h0 : Nat → Obj → Prop} {w0 : World} {F : Frm} {ρ : Nat → Nat → Value} {st : St} {a : Act} {w : World} (S : Sim F h0 w0 nt ρ st a w) {o : Oper} {b : Bool} (h : gv ops st o.guard = some b) : Region.wanted o (yielded ops a.tmps) = b := by
  unfold gv at h
  unfold Region.wanted
  cases hg : o.guard with
  | none => simp [hg] at h; subst h; rfl
  | some jw =>
    obtain ⟨j, want⟩ := jw
    simp only [hg] at h
    simp only
    cases hd : (ops[j]?).bind (·.dst) with
    | none =>
      simp [hd] at h
      subst h
      simp [yielded, hd]
    | some d =>
      simp only [hd] at h
      split at h
      · rename_i x hx
        have hr := S.env d
        rw [hx] at hr
        have hv := relV_v hr
        rcases Nat.lt_or_ge d a.tmps.size with hlt | hge
        · have hv' : a.tmps[d]? = some x := by
            simp [hlt] at hv ⊢
            exact hv
          simp only [yielded, hd, Option.bind_some, hv']
          split at h
          · simp only [Option.some.injEq] at h
            rw [← h]
            simp
          · simp only [Option.some.injEq] at h
            subst h
            rename_i hne
            cases x <;> first | rfl | exact absurd rfl (hne _)
        · have hn : a.tmps[d]? = none := Array.getElem?_eq_none hge
          have hu : x = undef := by simpa [hn] using hv.symm
          subst hu
          simp [undef] at h
          subst h
          simp [yielded, hd, hn]
      · cases h

theorem evOp_sound {h0 : Nat → Obj → Prop} {w0 : World} {F : Frm} {ρ : Nat → Nat → Value} {st st' : St} {a : Act} {w : World} {K : Act → World → Prop} (S : Sim F h0 w0 nt ρ st a w) (hcall : CallOk P call) {i : Nat} {o : Oper}
    (hi : ops[i]? = some o) (hd : ∀ d, o.dst = some d → d < nt) (h : evOp P call ops o st = some st')
    (hK : ∀ ρ' a' w', Sim F h0 w0 nt ρ' st' a' w' → K a' w') : wpOp P ops Q i K a w := by
  unfold wpOp
  simp only [hi]
  unfold evOp at h
  cases hg : gv ops st o.guard with
  | none => simp [hg] at h
  | some b =>
    rw [gv_sound S hg]
    simp only [hg] at h
    cases b with
    | true =>
      simp only [if_true] at h ⊢
      cases he : opEff P call o st with
      | none => simp [he] at h
      | some e =>
        simp only [he, Option.map_some, Option.some.injEq] at h
        subst h
        exact .inl (opEff_sound S hcall he hd hK)
    | false =>
      simp only [Bool.false_eq_true, if_false, Option.some.injEq] at h ⊢
      subst h
      exact hK ρ _ w (S.put o.dst hd (.v _))

theorem exists_of_wp {o : Oper} {a : Act} {w : World} {K : Act → World → Prop} (h : o.wp P a w K fun _ _ _ => False) : ∃ a' w', K a' w' := by
  unfold Oper.wp at h
  generalize (execOp a.eval o).run P w = r at h
  have hlet : ¬ LetsOut (fun _ _ _ => False) := by rintro ⟨_, _, h⟩; exact h
  cases r with
  | ok n w' =>
    cases n <;> simp only [Oper.upon] at h <;> (try exact ⟨_, _, h⟩) <;> (try exact h.elim)
    · obtain ⟨e, w2, fr, hR, _⟩ := h []
      cases e with
      | returned v => exact ⟨_, _, hR⟩
      | panicked c => exact hR.elim
      | outgrown => exact absurd hR hlet
    · obtain ⟨v, w2, hR, _⟩ := h default []
      exact ⟨_, _, hR⟩
  | halt x w' => cases x <;> simp only [Oper.upon] at h

def Valid (nt : Nat) (st : St) : Prop := ∃ (F : Frm) (h0 : Nat → Obj → Prop) (w0 : World) (ρ : Nat → Nat → Value) (a : Act) (w : World), Sim F h0 w0 nt ρ st a w

theorem Valid.ids {st : St} (h : Valid nt st) : ∀ t, IdOk st.cnt (st.env t) := by
  obtain ⟨F, h0, w0, ρ, a, w, S⟩ := h
  exact fun t => ⟨ctx h0 w0 ρ st w, _, rfl, S.env t⟩

theorem Valid.hp {st : St} (h : Valid nt st) : HpOk st := by
  obtain ⟨F, h0, w0, ρ, a, w, S⟩ := h
  intro s g cs he c hc
  obtain ⟨_, _, b, arr, T, _, _, _, hcl⟩ := S.ent s g _ he
  obtain ⟨i, hi, rfl⟩ := List.getElem_of_mem hc
  have hl := hcl.len
  exact ⟨ctx h0 w0 ρ st w, arr.toList[i]'(by omega), rfl, hcl.rel i _ _ (by simp [hi]) (by simp)⟩

theorem Valid.step {st st' : St} (h : Valid nt st) (hcall : CallOk P call) {o : Oper} (hd : ∀ d, o.dst = some d → d < nt) (he : evOp P call ops o st = some st') : Valid nt st' := by
  obtain ⟨F, h0, w0, ρ, a, w, S⟩ := h
  unfold evOp at he
  cases hg : gv ops st o.guard with
  | none => simp [hg] at he
  | some b =>
    simp only [hg] at he
    cases b with
    | true =>
      simp only [if_true] at he
      cases hee : opEff P call o st with
      | none => simp [hee] at he
      | some e =>
        simp only [hee, Option.map_some, Option.some.injEq] at he
        subst he
        obtain ⟨a', w', ρ', S'⟩ := exists_of_wp (opEff_sound (Q := fun _ _ _ => False) (K := fun a' w' => ∃ ρ', Sim F h0 w0 nt ρ' (e.apply st) a' w') S hcall hee hd (fun ρ' a' w' h => ⟨ρ', h⟩))
        exact ⟨F, h0, w0, ρ', a', w', S'⟩
    | false =>
      simp only [Bool.false_eq_true, if_false, Option.some.injEq] at he
      subst he
      exact ⟨F, h0, w0, ρ, _, w, S.put o.dst hd (.v _)⟩

theorem wroteBefore_spec {b : Array Nat} {i a : Nat} {as : List Nat} (ha : a ∈ as) : ∀ (l : List Oper) (m0 : Nat), wroteBefore b i as l m0 = true → ∀ m o, l[m]? = some o → o.dst = some a → (b.getD i 0).testBit (m0 + m) = true
  | [], _, _, m, o, h, _ => by simp at h
  | o' :: l, m0, h, m, o, ho, hd => by
    unfold wroteBefore at h
    simp only [Bool.and_eq_true, Bool.or_eq_true] at h
    cases m with
    | zero =>
      simp at ho
      subst ho
      rcases h.1 with h | h
      · rw [hd] at h; simp [ha] at h
      · simpa using h
    | succ m =>
      have := wroteBefore_spec ha l (m0 + 1) h.2 m o (by simpa using ho) hd
      rw [show m0 + (m + 1) = m0 + 1 + m by omega]
      exact this
theorem SwapsOk.mem {s : St} : ∀ {l : List (Nat × Nat)}, SwapsOk ops s l → ∀ p ∈ l, SwapAt ops s p
  | p :: l, h, q, hq => by
    rcases List.mem_cons.1 hq with rfl | hq
    · exact h.1
    · exact h.2.mem q hq

structure Left (ops : Array Oper) (listed : Array Bool) (l : List Nat) : Prop where
  size : listed.size = ops.size
  mem : ∀ j, j ∈ l ↔ j < ops.size ∧ listed.getD j true = false
  sorted : l.Pairwise (· < ·)
  closed : ∀ j o, ops[j]? = some o → listed.getD j false = true → ∀ e ∈ o.after, Region.binds .any e = true → listed.getD e.on false = true

theorem DrawFacts.bit_lt {dy : List (Nat × Nat)} {b : Array Nat} (D : DrawFacts ops dy b) : ∀ (j : Nat) o, ops[j]? = some o → ∀ k, (b.getD j 0).testBit k = true → k < j := by
  intro j
  induction j using Nat.strongRecOn with
  | _ j ih =>
    intro o ho k hk
    have hj : j < ops.size := (Array.getElem?_eq_some_iff.1 ho).1
    obtain ⟨e, he, hb, hor⟩ := D.good j o (by rw [D.size]; exact hj) ho k hk
    have hlt := D.lt j o ho e he hb
    rcases hor with rfl | hk'
    · exact hlt
    · have hes : e.on < ops.size := by omega
      have := ih e.on hlt _ (Array.getElem?_eq_getElem hes) k hk'
      omega
theorem getD_flip {listed : Array Bool} {j : Nat} (hj : j < listed.size) : listed.getD j true = listed.getD j false := by simp [hj]

theorem bits_listed {dy : List (Nat × Nat)} {b : Array Nat} (D : DrawFacts ops dy b) {listed : Array Bool} {l : List Nat} (L : Left ops listed l) : ∀ (j : Nat) o, ops[j]? = some o → (∀ e ∈ o.after, Region.binds .any e = true → listed.getD e.on false = true) →
    ∀ k, (b.getD j 0).testBit k = true → listed.getD k false = true := by
  intro j
  induction j using Nat.strongRecOn with
  | _ j ih =>
    intro o ho hall k hk
    have hj : j < ops.size := (Array.getElem?_eq_some_iff.1 ho).1
    obtain ⟨e, he, hb, hor⟩ := D.good j o (by rw [D.size]; exact hj) ho k hk
    have hle := hall e he hb
    rcases hor with rfl | hk'
    · exact hle
    · have hlt := D.lt j o ho e he hb
      have hes : e.on < ops.size := by omega
      exact ih e.on hlt _ (Array.getElem?_eq_getElem hes) (L.closed e.on _ (Array.getElem?_eq_getElem hes) hle) k hk'

end
end Go.Ab
