/-
  Part Ab16 of the proof: an evaluator of the programs written in Lean once, and its soundness.
-/
import Derived.Test.YtmcjkemalibacaaAb15
set_option linter.all false
set_option linter.unusedVariables false
set_option linter.unusedSimpArgs false
namespace Go.Ab
open Classical
variable [Ext]

noncomputable def lim {α : Type} (g : Nat → Option α) : Option α := if h : ∃ n r, g n = some r then some (Classical.choose (Classical.choose_spec h)) else none

theorem mono_le {α : Type} {g : Nat → Option α} (hm : ∀ n r, g n = some r → g (n + 1) = some r) {n m : Nat} (h : n ≤ m) {r : α} (hr : g n = some r) : g m = some r := by
  induction m with
  | zero => have : n = 0 := by omega
            subst this; exact hr
  | succ m ih =>
    rcases Nat.lt_or_ge m n with h' | h'
    · have : n = m + 1 := by omega
      subst this; exact hr
    · exact hm m r (ih h')

theorem lim_iff {α : Type} {g : Nat → Option α} (hm : ∀ n r, g n = some r → g (n + 1) = some r) (r : α) : lim g = some r ↔ ∃ n, g n = some r := by
  unfold lim
  constructor
  · intro h
    split at h
    · rename_i hh
      simp only [Option.some.injEq] at h
      exact ⟨Classical.choose hh, by rw [← h]; exact Classical.choose_spec (Classical.choose_spec hh)⟩
    · cases h
  · rintro ⟨n, hn⟩
    have hh : ∃ n r, g n = some r := ⟨n, r, hn⟩
    rw [dif_pos hh]
    have h2 := Classical.choose_spec (Classical.choose_spec hh)
    congr 1
    rcases Nat.le_total n (Classical.choose hh) with hle | hle
    · have := mono_le hm hle hn
      rw [h2] at this
      exact Option.some.inj this
    · have := mono_le hm hle h2
      rw [hn] at this
      exact (Option.some.inj this).symm

theorem bnd_eq {α β : Type} {x : Option α} {f : α → Option β} {r : β} : bnd x f = some r ↔ ∃ a, x = some a ∧ f a = some r := by
  cases x <;> simp [bnd]

def InlLe (i i' : Nat → List AV → St → Option (AV × St)) : Prop := ∀ g xs st r, i g xs st = some r → i' g xs st = some r

def CallLe (c c' : Nat → List AV → Option AV) : Prop := ∀ g xs r, c g xs = some r → c' g xs = some r

section
variable (P : Program) {c c' : Nat → List AV → Option AV} {i i' : Nat → List AV → St → Option (AV × St)} {bi : Bool}

theorem bnd_mono {α β : Type} {x y : Option α} {f : α → Option β} {r : β} (h : ∀ a, x = some a → y = some a) (hx : bnd x f = some r) : bnd y f = some r := by
  cases hx' : x with
  | none => simp [hx', bnd] at hx
  | some a => rw [h a hx']; rw [hx'] at hx; exact hx

theorem callFn_mono (h : CallLe c c') {g : Nat} {args : List AV} {st : St} {dst : Option Nat} {e : Eff} (he : callFn c g args st dst = some e) : callFn c' g args st dst = some e := by
  unfold callFn at *
  split at he
  · rename_i hf
    rw [if_pos hf]
    exact bnd_mono (h g args) he
  · rename_i hf
    rw [if_neg hf]
    split at he
    · rename_i xs hxs
      exact bnd_mono (h g xs) he
    · cases he

theorem callMv_mono (h : CallLe c c') {g : Nat} {args : List AV} {st : St} {dst : Option Nat} {e : Eff} (he : callMv c g args st dst = some e) : callMv c' g args st dst = some e := by
  unfold callMv at *
  split at he
  · split at he
    · rename_i e0 sz n cs hh
      split at he
      · rename_i hc
        rename_i rest _
        simp only [hh, if_pos hc]
        cases hr : c g (.uniq e0 sz n cs :: rest) with
        | none => simp [hr] at he
        | some r => rw [h _ _ _ hr]; rw [hr] at he; exact he
      · cases he
    · cases he
  · split at he
    · rename_i hc
      rw [if_pos hc]
      exact callFn_mono h he
    · cases he

theorem callEat_mono (h : CallLe c c') {g : Nat} {args : List AV} {st : St} {dst : Option Nat} {e : Eff} (he : callEat c g args st dst = some e) : callEat c' g args st dst = some e := by
  unfold callEat at *
  split at he
  · rename_i s k hk
    split at he
    · rename_i hok
      rw [if_pos hok]
      split at he
      · rename_i xs hxs
        exact bnd_mono (h g xs) he
      · cases he
    · cases he
  · rename_i hk
    exact callFn_mono h he

theorem callVal_mono (h : CallLe c c') {f : Operand} {args : List AV} {st : St} {dst : Option Nat} {e : Eff} (he : callVal c f args st dst = some e) : callVal c' f args st dst = some e := by
  cases f
  case func g =>
    simp only [callVal] at *
    by_cases hm : Ext.mv g = true
    · rw [if_pos hm] at *
      exact callMv_mono h he
    · rw [if_neg hm] at *
      by_cases hm2 : Ext.eat g dst = true
      · rw [if_pos hm2] at *
        exact callEat_mono h he
      · rw [if_neg hm2] at *
        exact callFn_mono h he
  all_goals
    simp only [callVal] at *
    split at he
    · exact callFn_mono h he
    · cases he

theorem opEff_mono (h : CallLe c c') {o : Oper} {st : St} {e : Eff} (he : opEff P c o st = some e) : opEff P c' o st = some e := by
  obtain ⟨dst, op, type, pos, after, guard⟩ := o
  cases op
  case call cl =>
    simp only [opEff] at *
    unfold callEff at *
    split at he
    · exact callVal_mono h he
    all_goals exact he
  case makeMap T r => cases r <;> exact he
  all_goals exact he

theorem evOp_mono (h : CallLe c c') {ops : Array Oper} {o : Oper} {st s : St} (he : evOp P c ops o st = some s) : evOp P c' ops o st = some s := by
  unfold evOp at *
  split at he
  · split at he
    · rename_i b hg hb
      rw [if_pos hb]
      cases h1 : opEff P c o st with
      | none => simp [h1] at he
      | some e => rw [opEff_mono P h h1]; rw [h1] at he; exact he
    · rename_i b hg hb
      rw [if_neg hb]; exact he
  · cases he

theorem evOps_mono (h : CallLe c c') {ops : Array Oper} : ∀ (l : List Oper) {st s : St}, evOps P c ops l st = some s → evOps P c' ops l st = some s
  | [], st, s, he => he
  | o :: l, st, s, he => by
    simp only [evOps] at *
    obtain ⟨s1, h1, h2⟩ := bnd_eq.1 he
    exact bnd_eq.2 ⟨s1, evOp_mono P h h1, evOps_mono h l h2⟩

theorem evOpI_mono (h : CallLe c c') (hi : InlLe i i') {ops : Array Oper} {o : Oper} {st s : St} (he : evOpI P bi c i ops o st = some s) : evOpI P bi c' i' ops o st = some s := by
  unfold evOpI at he ⊢
  cases hg : (if bi = true then isInl o else none) with
  | none =>
    simp only [hg] at he ⊢
    exact evOp_mono P h he
  | some ga =>
    obtain ⟨g, args⟩ := ga
    simp only [hg] at he ⊢
    cases hgv : gv ops st o.guard with
    | none => simp [hgv] at he
    | some t =>
      simp only [hgv] at he ⊢
      cases t with
      | false => exact he
      | true =>
        simp only [if_true] at he ⊢
        cases h1 : i g (args.map st.ev) st with
        | none => simp [h1] at he
        | some r => rw [hi _ _ _ _ h1]; rw [h1] at he; exact he

theorem evOpsI_mono (h : CallLe c c') (hi : InlLe i i') {ops : Array Oper} : ∀ (l : List Oper) {st s : St}, evOpsI P bi c i ops l st = some s → evOpsI P bi c' i' ops l st = some s
  | [], st, s, he => he
  | o :: l, st, s, he => by
    simp only [evOpsI] at *
    obtain ⟨s1, h1, h2⟩ := bnd_eq.1 he
    exact bnd_eq.2 ⟨s1, evOpI_mono P h hi h1, evOpsI_mono h hi l h2⟩

theorem evC_mono (h : CallLe c c') (hi : InlLe i i') : ∀ (n m : Nat), n ≤ m → ∀ (x : Code) (st : St) (r : Ex × St), evC P bi c i n x st = some r → evC P bi c' i' m x st = some r
  | 0, _, _, _, _, _, he => by simp [evC] at he
  | n + 1, 0, hle, _, _, _, _ => by omega
  | n + 1, m + 1, hle, x, st, r, he => by
    have ih := evC_mono h hi n m (by omega)
    cases x <;> simp only [evC] at he ⊢ <;> (try exact he)
    case region id ops draw =>
      obtain ⟨s1, h1, h2⟩ := bnd_eq.1 he
      exact bnd_eq.2 ⟨s1, evOpsI_mono P h hi _ h1, h2⟩
    case seq a b =>
      obtain ⟨⟨e1, s1⟩, h1, h2⟩ := bnd_eq.1 he
      refine bnd_eq.2 ⟨(e1, s1), ih _ _ _ h1, ?_⟩
      cases e1 with
      | normal => exact ih _ _ _ h2
      | _ => exact h2
    case cond cc a b =>
      split at he
      · split at he
        · rename_i hb; rw [if_pos hb]; exact ih _ _ _ he
        · rename_i hb; rw [if_neg hb]; exact ih _ _ _ he
      · cases he
    case block id b =>
      obtain ⟨r1, h1, h2⟩ := bnd_eq.1 he
      exact bnd_eq.2 ⟨r1, ih _ _ _ h1, h2⟩
    case loop b =>
      obtain ⟨⟨e1, s1⟩, h1, h2⟩ := bnd_eq.1 he
      refine bnd_eq.2 ⟨(e1, s1), ih _ _ _ h1, ?_⟩
      cases e1 with
      | normal => exact ih _ _ _ h2
      | _ => exact h2

theorem evFI_mono : ∀ n, CallLe (evF P n) (evF P (n + 1)) ∧ InlLe (evI P n) (evI P (n + 1))
  | 0 => ⟨fun g xs r h => by
      rw [evF_zero] at h
      rw [evF_succ, h], fun g xs st r h => by cases h⟩
  | n + 1 => by
    obtain ⟨ih, ii⟩ := evFI_mono n
    refine ⟨fun g xs r h => ?_, fun g xs st r h => ?_⟩
    · rw [evF_succ] at h ⊢
      cases he : Ext.ext g xs with
      | some r' => rw [he] at h; exact h
      | none =>
        simp only [he] at h
        simp only
        cases hq : headUniq xs with
        | some u =>
          simp only [hq] at h
          simp only
          unfold runM at h ⊢
          split at h
          · split at h
            · rename_i hok
              rw [if_pos hok]
              split at h
              · obtain ⟨r1, h1, h2⟩ := bnd_eq.1 h
                exact bnd_eq.2 ⟨r1, evC_mono P ih ii n (n + 1) (by omega) _ _ _ h1, h2⟩
              · cases h
            · cases h
          · cases h
        | none =>
          simp only [hq] at h
          simp only
          by_cases hu : xs.any isUniq = true
          · rw [if_pos hu] at h; cases h
          · rw [if_neg hu] at h ⊢
            unfold runF at h ⊢
            split at h
            · split at h
              · rename_i hok
                rw [if_pos hok]
                split at h
                · obtain ⟨r1, h1, h2⟩ := bnd_eq.1 h
                  exact bnd_eq.2 ⟨r1, evC_mono P ih ii n (n + 1) (by omega) _ _ _ h1, h2⟩
                · cases h
              · cases h
            · cases h
    · rw [evI_succ] at h ⊢
      unfold runI at h ⊢
      split at h
      · split at h
        · rename_i hok
          rw [if_pos hok]
          split at h
          · obtain ⟨r1, h1, h2⟩ := bnd_eq.1 h
            exact bnd_eq.2 ⟨r1, evC_mono P ih ii n (n + 1) (by omega) _ _ _ h1, h2⟩
          · cases h
        · cases h
      · cases h
theorem evF_mono (n : Nat) : CallLe (evF P n) (evF P (n + 1)) := (evFI_mono P n).1
theorem evI_mono (n : Nat) : InlLe (evI P n) (evI P (n + 1)) := (evFI_mono P n).2

theorem evF_le {n m : Nat} (h : n ≤ m) : CallLe (evF P n) (evF P m) := fun g xs r hr =>
  mono_le (g := fun n => evF P n g xs) (fun n r => evF_mono P n g xs r) h hr
theorem evI_le {n m : Nat} (h : n ≤ m) : InlLe (evI P n) (evI P m) := fun g xs st r hr =>
  mono_le (g := fun n => evI P n g xs st) (fun n r => evI_mono P n g xs st r) h hr

/-- A call, with as much fuel as it takes. -/
noncomputable def callL (f : Nat) (xs : List AV) : Option AV := lim fun n => evF P n f xs
noncomputable def inlL (f : Nat) (xs : List AV) (st : St) : Option (AV × St) := lim fun n => evI P n f xs st

/-- Code, with as much fuel as it takes. -/
noncomputable def evG (bi : Bool) (x : Code) (st : St) : Option (Ex × St) := lim fun n => evC P bi (evF P n) (evI P n) n x st

theorem callL_iff {f : Nat} {xs : List AV} {r : AV} : callL P f xs = some r ↔ ∃ n, evF P n f xs = some r := lim_iff (fun n r => evF_mono P n f xs r) r
theorem inlL_iff {f : Nat} {xs : List AV} {st : St} {r : AV × St} : inlL P f xs st = some r ↔ ∃ n, evI P n f xs st = some r := lim_iff (fun n r => evI_mono P n f xs st r) r

theorem evG_iff {x : Code} {st : St} {r : Ex × St} : evG P bi x st = some r ↔ ∃ n m, evC P bi (evF P n) (evI P n) m x st = some r := by
  unfold evG
  rw [lim_iff (fun n r => evC_mono P (evF_mono P n) (evI_mono P n) n (n + 1) (by omega) x st r)]
  constructor
  · rintro ⟨n, h⟩; exact ⟨n, n, h⟩
  · rintro ⟨n, m, h⟩
    exact ⟨max n m, evC_mono P (evF_le P (Nat.le_max_left n m)) (evI_le P (Nat.le_max_left n m)) m _ (Nat.le_max_right n m) x st r h⟩

theorem call_sound (hm : P.follows .mixedOrders = true) (hx : ExtOk P) {f : Nat} {xs : List AV} {r : AV} (h : callL P f xs = some r) : SoundX P f xs r := by
  obtain ⟨n, hn⟩ := (callL_iff P).1 h
  exact (evF_ok hm hx n f xs r hn).2

theorem inlL_le (n : Nat) : InlLe (evI P n) (inlL P) := fun g xs st r h => (inlL_iff P).2 ⟨n, h⟩
theorem callL_le (n : Nat) : CallLe (evF P n) (callL P) := fun g xs r h => (callL_iff P).2 ⟨n, h⟩

theorem bnd_lim {β : Type} {g : Nat} {xs : List AV} {f : AV → Option β} {r : β} (h : bnd (callL P g xs) f = some r) : ∃ n, bnd (evF P n g xs) f = some r := by
  obtain ⟨a, h1, h2⟩ := bnd_eq.1 h
  obtain ⟨n, hn⟩ := (callL_iff P).1 h1
  exact ⟨n, bnd_eq.2 ⟨a, hn, h2⟩⟩

theorem callFn_lim {g : Nat} {args : List AV} {st : St} {dst : Option Nat} {e : Eff} (h : callFn (callL P) g args st dst = some e) : ∃ n, callFn (evF P n) g args st dst = some e := by
  unfold callFn at h ⊢
  split at h
  · rename_i hf
    obtain ⟨n, hn⟩ := bnd_lim P h
    exact ⟨n, by rw [if_pos hf]; exact hn⟩
  · rename_i hf
    split at h
    · rename_i xs hxs
      obtain ⟨n, hn⟩ := bnd_lim P h
      exact ⟨n, by rw [if_neg hf]; exact hn⟩
    · cases h

theorem callMv_lim {g : Nat} {args : List AV} {st : St} {dst : Option Nat} {e : Eff} (h : callMv (callL P) g args st dst = some e) : ∃ n, callMv (evF P n) g args st dst = some e := by
  unfold callMv at h ⊢
  split at h
  · rename_i s k rest
    split at h
    · rename_i e0 sz n cs hh
      split at h
      · rename_i hc
        simp only [hh, if_pos hc]
        cases hr : callL P g (.uniq e0 sz n cs :: rest) with
        | none => simp [hr] at h
        | some r =>
          obtain ⟨m, hm⟩ := (callL_iff P).1 hr
          exact ⟨m, by rw [hm]; rw [hr] at h; exact h⟩
      · cases h
    · cases h
  · split at h
    · rename_i hc
      simp only [if_pos hc]
      exact callFn_lim P h
    · cases h

theorem callEat_lim {g : Nat} {args : List AV} {st : St} {dst : Option Nat} {e : Eff} (h : callEat (callL P) g args st dst = some e) : ∃ n, callEat (evF P n) g args st dst = some e := by
  unfold callEat at h ⊢
  split at h
  · rename_i s k hk
    split at h
    · rename_i hok
      simp only [if_pos hok]
      split at h
      · rename_i xs hxs
        exact bnd_lim P h
      · cases h
    · cases h
  · rename_i hk
    obtain ⟨n, hn⟩ := callFn_lim P h
    exact ⟨n, hn⟩

theorem opEff_lim {o : Oper} {st : St} {e : Eff} (h : opEff P (callL P) o st = some e) : ∃ n, opEff P (evF P n) o st = some e := by
  obtain ⟨dst, op, type, pos, after, guard⟩ := o
  cases op
  case call cl =>
    simp only [opEff] at *
    unfold callEff at *
    split at h
    · unfold callVal at h ⊢
      split at h
      · split at h
        · rename_i hm
          obtain ⟨n, hn⟩ := callMv_lim P h
          exact ⟨n, by simp only [hm, if_true]; exact hn⟩
        · rename_i hm
          split at h
          · rename_i hm2
            obtain ⟨n, hn⟩ := callEat_lim P h
            exact ⟨n, by rw [if_neg hm, if_pos hm2]; exact hn⟩
          · rename_i hm2
            obtain ⟨n, hn⟩ := callFn_lim P h
            exact ⟨n, by rw [if_neg hm, if_neg hm2]; exact hn⟩
      · split at h
        · exact callFn_lim P h
        · cases h
    all_goals exact ⟨0, h⟩
  case makeMap T r => cases r <;> exact ⟨0, h⟩
  all_goals exact ⟨0, h⟩

theorem evOp_lim {ops : Array Oper} {o : Oper} {st s : St} (h : evOp P (callL P) ops o st = some s) : ∃ n, evOp P (evF P n) ops o st = some s := by
  unfold evOp at *
  split at h
  · split at h
    · rename_i b hg hb
      cases h1 : opEff P (callL P) o st with
      | none => simp [h1] at h
      | some e =>
        obtain ⟨n, hn⟩ := opEff_lim P h1
        refine ⟨n, ?_⟩
        rw [if_pos hb, hn]
        rw [h1] at h
        exact h
    · rename_i b hg hb
      exact ⟨0, by rw [if_neg hb]; exact h⟩
  · cases h

theorem evOps_lim {ops : Array Oper} : ∀ (l : List Oper) {st s : St}, evOps P (callL P) ops l st = some s → ∃ n, evOps P (evF P n) ops l st = some s
  | [], st, s, h => ⟨0, h⟩
  | o :: l, st, s, h => by
    simp only [evOps] at *
    obtain ⟨s1, h1, h2⟩ := bnd_eq.1 h
    obtain ⟨n, hn⟩ := evOp_lim P h1
    obtain ⟨m, hm⟩ := evOps_lim l h2
    exact ⟨max n m, bnd_eq.2 ⟨s1, evOp_mono P (evF_le P (Nat.le_max_left n m)) hn, evOps_mono P (evF_le P (Nat.le_max_right n m)) l hm⟩⟩

theorem evOpI_lim {ops : Array Oper} {o : Oper} {st s : St} (h : evOpI P bi (callL P) (inlL P) ops o st = some s) : ∃ n, evOpI P bi (evF P n) (evI P n) ops o st = some s := by
  unfold evOpI at h ⊢
  cases hg : (if bi = true then isInl o else none) with
  | none =>
    simp only [hg] at h ⊢
    exact evOp_lim P h
  | some ga =>
    obtain ⟨g, args⟩ := ga
    simp only [hg] at h ⊢
    cases hgv : gv ops st o.guard with
    | none => simp [hgv] at h
    | some t =>
      simp only [hgv] at h ⊢
      cases t with
      | false => exact ⟨0, h⟩
      | true =>
        simp only [if_true] at h ⊢
        cases h1 : inlL P g (args.map st.ev) st with
        | none => simp [h1] at h
        | some r =>
          obtain ⟨n, hn⟩ := (inlL_iff P).1 h1
          refine ⟨n, ?_⟩
          rw [h1] at h
          rw [hn]
          exact h

theorem evOpsI_lim {ops : Array Oper} : ∀ (l : List Oper) {st s : St}, evOpsI P bi (callL P) (inlL P) ops l st = some s → ∃ n, evOpsI P bi (evF P n) (evI P n) ops l st = some s
  | [], st, s, h => ⟨0, h⟩
  | o :: l, st, s, h => by
    simp only [evOpsI] at *
    obtain ⟨s1, h1, h2⟩ := bnd_eq.1 h
    obtain ⟨n, hn⟩ := evOpI_lim P h1
    obtain ⟨m, hm⟩ := evOpsI_lim l h2
    exact ⟨max n m, bnd_eq.2 ⟨s1, evOpI_mono P (evF_le P (Nat.le_max_left n m)) (evI_le P (Nat.le_max_left n m)) hn, evOpsI_mono P (evF_le P (Nat.le_max_right n m)) (evI_le P (Nat.le_max_right n m)) l hm⟩⟩

theorem evOpsI_false {cc : Nat → List AV → Option AV} {ii : Nat → List AV → St → Option (AV × St)} {ops : Array Oper} : ∀ (l : List Oper) (st : St), evOpsI P false cc ii ops l st = evOps P cc ops l st
  | [], st => rfl
  | o :: l, st => by
    have e : ∀ s, evOpI P false cc ii ops o s = evOp P cc ops o s := fun s => rfl
    unfold evOpsI evOps
    rw [e]
    congr 1
    funext s
    exact evOpsI_false l s

/-- The equations. -/
theorem evG_skip (st : St) : evG P bi .skip st = some (.normal, st) := (evG_iff P).2 ⟨0, 1, rfl⟩
theorem evG_exit (id : Nat) (st : St) : evG P bi (.exit id) st = some (.exit id, st) := (evG_iff P).2 ⟨0, 1, rfl⟩
theorem evG_ret (st : St) : evG P bi .ret st = some (.ret, st) := (evG_iff P).2 ⟨0, 1, rfl⟩

theorem evG_region (id : Nat) (ops : Array Oper) (d : Bool) (st : St) : evG P bi (.region id ops d) st = bnd (evOpsI P bi (callL P) (inlL P) ops ops.toList st) fun s => if bi = true ∧ ¬ SwapsOk ops s (Ext.dyn id ops.size (firstDst ops)) then none else some (.normal, s) := by
  apply Option.ext
  intro r
  rw [evG_iff, bnd_eq]
  constructor
  · rintro ⟨n, m, h⟩
    cases m with
    | zero => simp [evC] at h
    | succ m =>
      simp only [evC] at h
      obtain ⟨s1, h1, h2⟩ := bnd_eq.1 h
      exact ⟨s1, evOpsI_mono P (callL_le P n) (inlL_le P n) _ h1, h2⟩
  · rintro ⟨s1, h1, h2⟩
    obtain ⟨n, hn⟩ := evOpsI_lim P _ h1
    exact ⟨n, 1, by simp only [evC]; exact bnd_eq.2 ⟨s1, hn, h2⟩⟩

def thenL (r : Ex × St) (k : St → Option (Ex × St)) : Option (Ex × St) :=
  match r.1 with
  | .normal => k r.2
  | e => some (e, r.2)

theorem evG_seq (a b : Code) (st : St) : evG P bi (.seq a b) st = bnd (evG P bi a st) fun r => thenL r (evG P bi b) := by
  apply Option.ext
  intro r
  rw [evG_iff, bnd_eq]
  constructor
  · rintro ⟨n, m, h⟩
    cases m with
    | zero => simp [evC] at h
    | succ m =>
      simp only [evC] at h
      obtain ⟨⟨e1, s1⟩, h1, h2⟩ := bnd_eq.1 h
      refine ⟨(e1, s1), (evG_iff P).2 ⟨n, m, h1⟩, ?_⟩
      cases e1 with
      | normal => exact (evG_iff P).2 ⟨n, m, h2⟩
      | _ => exact h2
  · rintro ⟨⟨e1, s1⟩, h1, h2⟩
    obtain ⟨n1, m1, h1⟩ := (evG_iff P).1 h1
    cases e1 with
    | normal =>
      obtain ⟨n2, m2, h2⟩ := (evG_iff P).1 h2
      refine ⟨max n1 n2, max m1 m2 + 1, ?_⟩
      simp only [evC]
      exact bnd_eq.2 ⟨(.normal, s1), evC_mono P (evF_le P (Nat.le_max_left _ _)) (evI_le P (Nat.le_max_left _ _)) _ _ (Nat.le_max_left _ _) _ _ _ h1, evC_mono P (evF_le P (Nat.le_max_right _ _)) (evI_le P (Nat.le_max_right _ _)) _ _ (Nat.le_max_right _ _) _ _ _ h2⟩
    | exit id => exact ⟨n1, m1 + 1, by simp only [evC]; exact bnd_eq.2 ⟨(.exit id, s1), h1, h2⟩⟩
    | ret => exact ⟨n1, m1 + 1, by simp only [evC]; exact bnd_eq.2 ⟨(.ret, s1), h1, h2⟩⟩

theorem evG_loop (b : Code) (st : St) : evG P bi (.loop b) st = bnd (evG P bi b st) fun r => thenL r (evG P bi (.loop b)) := by
  apply Option.ext
  intro r
  rw [evG_iff, bnd_eq]
  constructor
  · rintro ⟨n, m, h⟩
    cases m with
    | zero => simp [evC] at h
    | succ m =>
      simp only [evC] at h
      obtain ⟨⟨e1, s1⟩, h1, h2⟩ := bnd_eq.1 h
      refine ⟨(e1, s1), (evG_iff P).2 ⟨n, m, h1⟩, ?_⟩
      cases e1 with
      | normal => exact (evG_iff P).2 ⟨n, m, h2⟩
      | _ => exact h2
  · rintro ⟨⟨e1, s1⟩, h1, h2⟩
    obtain ⟨n1, m1, h1⟩ := (evG_iff P).1 h1
    cases e1 with
    | normal =>
      obtain ⟨n2, m2, h2⟩ := (evG_iff P).1 h2
      refine ⟨max n1 n2, max m1 m2 + 1, ?_⟩
      simp only [evC]
      exact bnd_eq.2 ⟨(.normal, s1), evC_mono P (evF_le P (Nat.le_max_left _ _)) (evI_le P (Nat.le_max_left _ _)) _ _ (Nat.le_max_left _ _) _ _ _ h1, evC_mono P (evF_le P (Nat.le_max_right _ _)) (evI_le P (Nat.le_max_right _ _)) _ _ (Nat.le_max_right _ _) _ _ _ h2⟩
    | exit id => exact ⟨n1, m1 + 1, by simp only [evC]; exact bnd_eq.2 ⟨(.exit id, s1), h1, h2⟩⟩
    | ret => exact ⟨n1, m1 + 1, by simp only [evC]; exact bnd_eq.2 ⟨(.ret, s1), h1, h2⟩⟩

theorem evG_block (id : Nat) (b : Code) (st : St) : evG P bi (.block id b) st = bnd (evG P bi b st) fun r => some (r.1.inBlock id, r.2) := by
  apply Option.ext
  intro r
  rw [evG_iff, bnd_eq]
  constructor
  · rintro ⟨n, m, h⟩
    cases m with
    | zero => simp [evC] at h
    | succ m =>
      simp only [evC] at h
      obtain ⟨r1, h1, h2⟩ := bnd_eq.1 h
      exact ⟨r1, (evG_iff P).2 ⟨n, m, h1⟩, h2⟩
  · rintro ⟨r1, h1, h2⟩
    obtain ⟨n1, m1, h1⟩ := (evG_iff P).1 h1
    exact ⟨n1, m1 + 1, by simp only [evC]; exact bnd_eq.2 ⟨r1, h1, h2⟩⟩

theorem evG_cond (c : Operand) (a b : Code) (st : St) {t : Bool} (hc : st.ev c = .v (.bool t)) : evG P bi (.cond c a b) st = if t = true then evG P bi a st else evG P bi b st := by
  apply Option.ext
  intro r
  rw [evG_iff]
  constructor
  · rintro ⟨n, m, h⟩
    cases m with
    | zero => simp [evC] at h
    | succ m =>
      simp only [evC, hc] at h
      split at h
      · rename_i hb; rw [if_pos hb]; exact (evG_iff P).2 ⟨n, m, h⟩
      · rename_i hb; rw [if_neg hb]; exact (evG_iff P).2 ⟨n, m, h⟩
  · intro h
    split at h
    · rename_i hb
      obtain ⟨n, m, h⟩ := (evG_iff P).1 h
      exact ⟨n, m + 1, by simp only [evC, hc]; rw [if_pos hb]; exact h⟩
    · rename_i hb
      obtain ⟨n, m, h⟩ := (evG_iff P).1 h
      exact ⟨n, m + 1, by simp only [evC, hc]; rw [if_neg hb]; exact h⟩

/-- Code without calls in its own memory. -/
noncomputable def evL (x : Code) (st : St) : Option (Ex × St) := evG P false x st
theorem evL_iff {x : Code} {st : St} {r : Ex × St} : evL P x st = some r ↔ ∃ n m, evC P false (evF P n) (evI P n) m x st = some r := evG_iff P
theorem evL_skip (st : St) : evL P .skip st = some (.normal, st) := evG_skip P st
theorem evL_exit (id : Nat) (st : St) : evL P (.exit id) st = some (.exit id, st) := evG_exit P id st
theorem evL_ret (st : St) : evL P .ret st = some (.ret, st) := evG_ret P st
theorem evL_region (id : Nat) (ops : Array Oper) (d : Bool) (st : St) : evL P (.region id ops d) st = bnd (evOps P (callL P) ops ops.toList st) fun s => some (.normal, s) := by
  rw [← evOpsI_false P (ii := inlL P)]
  have h := evG_region P (bi := false) id ops d st
  simp only [Bool.false_eq_true, false_and, if_false] at h
  exact h
theorem evL_seq (a b : Code) (st : St) : evL P (.seq a b) st = bnd (evL P a st) fun r => thenL r (evL P b) := evG_seq P a b st
theorem evL_loop (b : Code) (st : St) : evL P (.loop b) st = bnd (evL P b st) fun r => thenL r (evL P (.loop b)) := evG_loop P b st
theorem evL_block (id : Nat) (b : Code) (st : St) : evL P (.block id b) st = bnd (evL P b st) fun r => some (r.1.inBlock id, r.2) := evG_block P id b st
theorem evL_cond (c : Operand) (a b : Code) (st : St) {t : Bool} (hc : st.ev c = .v (.bool t)) : evL P (.cond c a b) st = if t = true then evL P a st else evL P b st := evG_cond P c a b st hc

noncomputable def endL (f : Nat) (fn : Func) (r : Ex × St) : Option AV :=
  match r.1 with
  | .exit _ => none
  | _ => finishF P f fn r.2

/-- May a function be evaluated that has no calls in its own memory? -/
def fnOkN (fn : Func) : Bool := fnOk fn && (match fn.body with | some c => !codeInl c | none => true)

theorem headUniq_none {xs : List AV} (h : xs.any isUniq = false) : headUniq xs = none := by
  cases xs with
  | nil => rfl
  | cons x xs =>
    cases x <;> first | rfl | simp [isUniq] at h
/-- The end of a call to which a row was handed over. -/
noncomputable def endM (fn : Func) (r : Ex × St) : Option AV :=
  match r.1 with
  | .exit _ => none
  | _ => finishM P fn r.2
theorem callM_eq {f : Nat} {fn : Func} {c : Code} (hf : P.funcs[f]? = some fn) (hb : fn.body = some c) (hok : fnOk fn = true) (e sz m : Nat) (cs xs : List AV) (hx : Ext.ext f (.uniq e sz m cs :: xs) = none) :
    callL P f (.uniq e sz m cs :: xs) = bnd (evG P (codeInl c) c (St.initM e sz m cs xs)) (endM P fn) := by
  apply Option.ext
  intro r
  rw [callL_iff, bnd_eq]
  have hq : headUniq (.uniq e sz m cs :: xs) = some (e, sz, m, cs, xs) := rfl
  constructor
  · rintro ⟨n, h⟩
    cases n with
    | zero => rw [evF_zero, hx] at h; cases h
    | succ n =>
      simp only [evF_succ, hx, hq, runM, hf, hok, hb, if_true] at h
      obtain ⟨r1, h1, h2⟩ := bnd_eq.1 h
      exact ⟨r1, (evG_iff P).2 ⟨n, n, h1⟩, h2⟩
  · rintro ⟨r1, h1, h2⟩
    obtain ⟨n, m', h1⟩ := (evG_iff P).1 h1
    refine ⟨max n m' + 1, ?_⟩
    simp only [evF_succ, hx, hq, runM, hf, hok, hb, if_true]
    exact bnd_eq.2 ⟨r1, evC_mono P (evF_le P (Nat.le_max_left _ _)) (evI_le P (Nat.le_max_left _ _)) _ _ (Nat.le_max_right _ _) _ _ _ h1, h2⟩
theorem callG_eq {f : Nat} {fn : Func} {c : Code} (hf : P.funcs[f]? = some fn) (hb : fn.body = some c) (hok : fnOk fn = true) (xs : List AV) (hx : Ext.ext f xs = none) (hu : xs.any isUniq = false) : callL P f xs = bnd (evG P (codeInl c) c (St.init xs)) (endL P f fn) := by
  apply Option.ext
  intro r
  rw [callL_iff, bnd_eq]
  constructor
  · rintro ⟨n, h⟩
    cases n with
    | zero => rw [evF_zero, hx] at h; cases h
    | succ n =>
      simp only [evF_succ, hx, headUniq_none hu, hu, runF, hf, hok, hb, if_true] at h
      obtain ⟨r1, h1, h2⟩ := bnd_eq.1 h
      exact ⟨r1, (evG_iff P).2 ⟨n, n, h1⟩, h2⟩
  · rintro ⟨r1, h1, h2⟩
    obtain ⟨n, m, h1⟩ := (evG_iff P).1 h1
    refine ⟨max n m + 1, ?_⟩
    simp only [evF_succ, hx, headUniq_none hu, hu, runF, hf, hok, hb, if_true]
    exact bnd_eq.2 ⟨r1, evC_mono P (evF_le P (Nat.le_max_left _ _)) (evI_le P (Nat.le_max_left _ _)) _ _ (Nat.le_max_right _ _) _ _ _ h1, h2⟩

theorem callL_eq {f : Nat} {fn : Func} {c : Code} (hf : P.funcs[f]? = some fn) (hb : fn.body = some c) (hok : fnOkN fn = true) (xs : List AV) (hx : Ext.ext f xs = none) (hu : xs.any isUniq = false) : callL P f xs = bnd (evL P c (St.init xs)) (endL P f fn) := by
  simp only [fnOkN, hb, Bool.and_eq_true, Bool.not_eq_true'] at hok
  rw [callG_eq P hf hb hok.1 xs hx hu, hok.2]
  rfl

/-- The end of a callee that runs in its caller's memory. -/
noncomputable def endI (fn : Func) (r : Ex × St) : Option (AV × St) :=
  match r.1 with
  | .exit _ => none
  | _ => (finishI P fn r.2).map fun x => (x, r.2)

theorem inlL_eq {f : Nat} {fn : Func} {c : Code} (hf : P.funcs[f]? = some fn) (hb : fn.body = some c) (hok : fnOkB true fn = true) (xs : List AV) (st : St) : inlL P f xs st = bnd (evG P true c ((St.init xs).back st)) (endI P fn) := by
  apply Option.ext
  intro r
  rw [inlL_iff, bnd_eq]
  constructor
  · rintro ⟨n, h⟩
    cases n with
    | zero => rw [evI_zero] at h; cases h
    | succ n =>
      simp only [evI_succ, runI, hf, hok, hb, if_true] at h
      obtain ⟨r1, h1, h2⟩ := bnd_eq.1 h
      exact ⟨r1, (evG_iff P).2 ⟨n, n, h1⟩, h2⟩
  · rintro ⟨r1, h1, h2⟩
    obtain ⟨n, m, h1⟩ := (evG_iff P).1 h1
    refine ⟨max n m + 1, ?_⟩
    simp only [evI_succ, runI, hf, hok, hb, if_true]
    exact bnd_eq.2 ⟨r1, evC_mono P (evF_le P (Nat.le_max_left _ _)) (evI_le P (Nat.le_max_left _ _)) _ _ (Nat.le_max_right _ _) _ _ _ h1, h2⟩

theorem callL_ext {f : Nat} {xs : List AV} {r : AV} (h : Ext.ext f xs = some r) : callL P f xs = some r := (callL_iff P).2 ⟨0, h⟩
end
end Go.Ab
