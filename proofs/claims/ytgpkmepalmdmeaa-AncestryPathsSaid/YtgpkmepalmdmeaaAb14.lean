/-
  Part Ab14 of the proof: an evaluator of the programs written in Lean once, and its soundness.
-/
import Derived.Test.YtgpkmepalmdmeaaAb13
set_option linter.all false
namespace Go.Ab
open Classical
variable [Ext]

section
variable {P : Program} {call : Nat → List AV → Option AV} {nt : Nat} {h0 : Nat → Obj → Prop} {w0 : World}

theorem codeOk_region {ops : Array Oper} {id : Nat} {draw : Bool} (h : codeOk nt (.region id ops draw) = true) : (∀ (j : Nat) o, ops[j]? = some o → ∀ d, o.dst = some d → d < nt) ∧ (draw = true → drawOk ops = true) := by
  simp only [codeOk, Bool.and_eq_true, Bool.or_eq_true, Bool.not_eq_true'] at h
  refine ⟨fun j o ho d hd => ?_, fun hdr => h.2.resolve_left (by rw [hdr]; simp)⟩
  have := Array.all_eq_true_iff_forall_mem.1 h.1 o (Array.mem_of_getElem? ho)
  simpa [hd] using this

theorem evIx_ops {ops : Array Oper} (hcall : CallOk P call) (hdst : ∀ (j : Nat) o, ops[j]? = some o → ∀ d, o.dst = some d → d < nt) {Q : Exit → Act → World → Prop} {sf : St}
    (hQ : ∀ ρ' a' w', Sim h0 w0 nt ρ' sf a' w' → Q .normal a' w') : ∀ (l : List Nat) (st : St) (ρ : Nat → Nat → Value) (a : Act) (w : World), Sim h0 w0 nt ρ st a w → evIx P call ops l st = some sf → wpOps P ops Q l a w
  | [], st, ρ, a, w, S, h => by
    simp only [evIx, Option.some.injEq] at h
    subst h
    exact hQ ρ a w S
  | i :: l, st, ρ, a, w, S, h => by
    rw [wpOps_cons]
    unfold evIx at h
    cases hi : ops[i]? with
    | none =>
      simp only [hi] at h
      unfold wpOp
      simp only [hi]
      exact evIx_ops hcall hdst hQ l st ρ a w S h
    | some o =>
      simp only [hi] at h
      cases h1 : evOp P call ops o st with
      | none => simp [h1, bnd] at h
      | some s1 =>
        simp only [h1, bnd] at h
        exact evOp_sound S hcall hi (hdst i o hi) h1 fun ρ' a' w' S' => evIx_ops hcall hdst hQ l s1 ρ' a' w' S' h

theorem region_sound (hm : P.follows .mixedOrders = true) (hcall : CallOk P call) {ops : Array Oper} {id : Nat} {draw : Bool} (hok : codeOk nt (.region id ops draw) = true) {Q : Exit → Act → World → Prop} {st sf : St} {ρ : Nat → Nat → Value} {a : Act} {w : World}
    (S : Sim h0 w0 nt ρ st a w) (h : evOps P call ops ops.toList st = some sf) (hQ : ∀ ρ' a' w', Sim h0 w0 nt ρ' sf a' w' → Q .normal a' w') : (Code.region id ops draw).wp P Q a w := by
  obtain ⟨hdst, hdraw⟩ := codeOk_region hok
  rw [evOps_evIx ops.toList 0 st (fun j => .inl (by simp))] at h
  cases draw with
  | false =>
    refine wp_region ?_
    rw [List.range_eq_range']
    exact evIx_ops hcall hdst hQ _ st ρ a w S (by simpa using h)
  | true =>
    obtain ⟨b, D⟩ := drawOk_spec (hdraw rfl)
    refine wp_region_any hm ?_
    have hg : w.grownBy { w with drawn := w.drawn + 1 } none := ⟨rfl, rfl, rfl, Nat.le_refl _, fun _ _ _ => rfl⟩
    refine region_any hcall hdst D hQ ops.size (List.range' 0 ops.size) _ st ρ a _ (by simp) ⟨by simp, fun j => ?_, ?_, fun j o ho hl => ?_⟩ (S.grow hg).1 (by simpa using h)
    · rw [← List.range_eq_range', List.mem_range]
      constructor
      · intro hj; exact ⟨hj, by simp [hj]⟩
      · exact fun h => h.1
    · rw [← List.range_eq_range']
      exact List.pairwise_lt_range
    · simp [Array.getD_eq_getD_getElem?, Array.getElem?_replicate] at hl
      split at hl <;> simp at hl

theorem exists_least {p : Nat → Prop} (h : ∃ n, p n) : ∃ n, p n ∧ ∀ m, p m → n ≤ m := by
  obtain ⟨n, hn⟩ := h
  induction n using Nat.strongRecOn with
  | _ n ih =>
    by_cases hl : ∃ m, m < n ∧ p m
    · obtain ⟨m, hm, hp⟩ := hl
      exact ih m hm hp
    · exact ⟨n, hn, fun m hm => by
        rcases Nat.lt_or_ge m n with h | h
        · exact absurd ⟨m, h, hm⟩ hl
        · exact h⟩

noncomputable def leastN (p : Nat → Prop) : Nat := if h : ∃ n, p n then Classical.choose (exists_least h) else 0
theorem leastN_spec {p : Nat → Prop} (h : ∃ n, p n) : p (leastN p) ∧ ∀ m, p m → leastN p ≤ m := by
  unfold leastN
  rw [dif_pos h]
  exact Classical.choose_spec (exists_least h)

def Ex.to : Ex → Exit
  | .normal => .normal
  | .exit id => .exit id
  | .ret => .ret

theorem evC_sound (hm : P.follows .mixedOrders = true) (hcall : CallOk P call) (n : Nat) : ∀ (c : Code) (st sf : St) (ex : Ex) (ρ : Nat → Nat → Value) (a : Act) (w : World) (Q : Exit → Act → World → Prop), codeOk nt c = true →
    Sim h0 w0 nt ρ st a w → evC P call n c st = some (ex, sf) → (∀ ρ' a' w', Sim h0 w0 nt ρ' sf a' w' → Q ex.to a' w') → c.wp P Q a w := by
  induction n using Nat.strongRecOn with
  | _ n ih =>
  have evC_sound : ∀ m, m < n → ∀ (c : Code) (st sf : St) (ex : Ex) (ρ : Nat → Nat → Value) (a : Act) (w : World) (Q : Exit → Act → World → Prop), codeOk nt c = true →
    Sim h0 w0 nt ρ st a w → evC P call m c st = some (ex, sf) → (∀ ρ' a' w', Sim h0 w0 nt ρ' sf a' w' → Q ex.to a' w') → c.wp P Q a w := ih
  clear ih
  intro c st sf ex ρ a w Q hok S h hQ
  cases n with
  | zero => simp [evC] at h
  | succ n =>
    cases c <;> simp only [evC] at h
    case skip =>
      simp only [Option.some.injEq, Prod.mk.injEq] at h
      obtain ⟨rfl, rfl⟩ := h
      exact wp_skip (hQ ρ a w S)
    case region id ops draw =>
      cases h1 : evOps P call ops ops.toList st with
      | none => simp [h1, bnd] at h
      | some s1 =>
        simp only [h1, bnd, Option.some.injEq, Prod.mk.injEq] at h
        obtain ⟨rfl, rfl⟩ := h
        exact region_sound hm hcall hok S h1 hQ
    case seq x y =>
      simp only [codeOk, Bool.and_eq_true] at hok
      cases h1 : evC P call n x st with
      | none => simp [h1, bnd] at h
      | some r =>
        obtain ⟨e1, s1⟩ := r
        simp only [h1, bnd] at h
        refine wp_seq (evC_sound n (by omega) x st s1 e1 ρ a w _ hok.1 S h1 fun ρ' a' w' S' => ?_)
        cases e1 with
        | normal => exact evC_sound n (by omega) y s1 sf ex ρ' a' w' Q hok.2 S' h hQ
        | exit id =>
          simp only [Option.some.injEq, Prod.mk.injEq] at h
          obtain ⟨rfl, rfl⟩ := h
          exact hQ ρ' a' w' S'
        | ret =>
          simp only [Option.some.injEq, Prod.mk.injEq] at h
          obtain ⟨rfl, rfl⟩ := h
          exact hQ ρ' a' w' S'
    case cond c x y =>
      simp only [codeOk, Bool.and_eq_true] at hok
      split at h
      · rename_i t ht
        have hr := S.ev c
        rw [ht] at hr
        have hv := relV_v hr
        refine wp_cond (t := t) hv ?_
        cases t with
        | true => exact evC_sound n (by omega) x st sf ex ρ a w Q hok.1 S (by simpa using h) hQ
        | false => exact evC_sound n (by omega) y st sf ex ρ a w Q hok.2 S (by simpa using h) hQ
      · cases h
    case block id b =>
      simp only [codeOk] at hok
      cases h1 : evC P call n b st with
      | none => simp [h1, bnd] at h
      | some r =>
        obtain ⟨e1, s1⟩ := r
        simp only [h1, bnd, Option.some.injEq, Prod.mk.injEq] at h
        obtain ⟨rfl, rfl⟩ := h
        refine wp_block (evC_sound n (by omega) b st s1 e1 ρ a w _ hok S h1 fun ρ' a' w' S' => ?_)
        have := hQ ρ' a' w' S'
        cases e1 with
        | normal => exact this
        | exit i =>
          simp only [Ex.inBlock] at this
          simp only [Ex.to, Exit.inBlock]
          by_cases hi : i = id
          · rw [if_pos hi] at this ⊢; exact this
          · rw [if_neg hi] at this ⊢; exact this
        | ret => exact this
    case loop b =>
      have hok' := hok
      simp only [codeOk] at hok
      let p : Act → World → Nat → Prop := fun a w m => m ≤ n + 1 ∧ ∃ st ρ, Sim h0 w0 nt ρ st a w ∧ evC P call m (.loop b) st = some (ex, sf)
      refine wp_loop (fun a w => ∃ m, p a w m) (fun a w => leastN (p a w)) ⟨n + 1, Nat.le_refl _, st, ρ, S, h⟩ fun a w hI => ?_
      obtain ⟨⟨hle, st1, ρ1, S1, h1⟩, _⟩ := leastN_spec hI
      generalize leastN (p a w) = m at h1 hle
      cases m with
      | zero => simp [evC] at h1
      | succ m =>
        simp only [evC] at h1
        cases h2 : evC P call m b st1 with
        | none => simp [h2, bnd] at h1
        | some r =>
          obtain ⟨e1, s1⟩ := r
          simp only [h2, bnd] at h1
          have hmn : m ≤ n := by omega
          refine evC_sound m (by omega) b st1 s1 e1 ρ1 a w _ hok S1 h2 fun ρ' a' w' S' => ?_
          cases e1 with
          | normal =>
            have hp : p a' w' m := ⟨by omega, s1, ρ', S', h1⟩
            exact ⟨⟨m, hp⟩, Nat.lt_succ_of_le ((leastN_spec ⟨m, hp⟩).2 m hp)⟩
          | exit id =>
            simp only [Option.some.injEq, Prod.mk.injEq] at h1
            obtain ⟨rfl, rfl⟩ := h1
            exact hQ ρ' a' w' S'
          | ret =>
            simp only [Option.some.injEq, Prod.mk.injEq] at h1
            obtain ⟨rfl, rfl⟩ := h1
            exact hQ ρ' a' w' S'
    case exit id =>
      simp only [Option.some.injEq, Prod.mk.injEq] at h
      obtain ⟨rfl, rfl⟩ := h
      exact wp_exit (hQ ρ a w S)
    case ret =>
      simp only [Option.some.injEq, Prod.mk.injEq] at h
      obtain ⟨rfl, rfl⟩ := h
      exact wp_ret (hQ ρ a w S)
    all_goals cases h
end
end Go.Ab
