/-
  Part Ab31 of the proof: an evaluator of the programs written in Lean once, and its soundness.
-/
import Derived.Test.YtmcjkemalibacaaAb18
set_option linter.all false
set_option linter.all false
/-! The evaluator for calls without arguments that are not known, in a form that the kernel runs. -/
namespace Go.Ab
open Classical

/-! ### A state as lists -/
structure QS where
  e : List (Nat × AV)
  h : List (Nat × Nat × Option Ent)
  c : List (Nat × Nat)
def qE : List (Nat × AV) → Nat → AV
  | [], _ => .v undef
  | (k, x) :: r, t => bif Nat.beq t k then x else qE r t
def qH : List (Nat × Nat × Option Ent) → Nat → Nat → Option Ent
  | [], _, _ => none
  | (a, b, x) :: r, s, g => bif Nat.beq s a && Nat.beq g b then x else qH r s g
def qC : List (Nat × Nat) → Nat → Nat
  | [], _ => 0
  | (k, n) :: r, t => bif Nat.beq t k then n else qC r t
def QS.abs (q : QS) : St := ⟨qE q.e, qH q.h, qC q.c⟩
def sE (d : Nat) (x : AV) : List (Nat × AV) → List (Nat × AV)
  | [] => [(d, x)]
  | (k, y) :: r => bif Nat.beq d k then (k, x) :: r else (k, y) :: sE d x r
def sH (a b : Nat) (x : Option Ent) : List (Nat × Nat × Option Ent) → List (Nat × Nat × Option Ent)
  | [] => [(a, b, x)]
  | (s, g, y) :: r => bif Nat.beq a s && Nat.beq b g then (s, g, x) :: r else (s, g, y) :: sH a b x r
def sC (d n : Nat) : List (Nat × Nat) → List (Nat × Nat)
  | [] => [(d, n)]
  | (k, y) :: r => bif Nat.beq d k then (k, n) :: r else (k, y) :: sC d n r
theorem beq_if (a b : Nat) : Nat.beq a b = decide (a = b) := by
  by_cases h : a = b
  · subst h; simp
  · rw [decide_eq_false h]
    cases e : Nat.beq a b with
    | false => rfl
    | true => exact absurd (Nat.eq_of_beq_eq_true e) h
theorem qE_s (d : Nat) (x : AV) (t : Nat) : ∀ l, qE (sE d x l) t = if t = d then x else qE l t
  | [] => by simp [sE, qE, beq_if, Bool.cond_decide]
  | (k, y) :: r => by
    have ih := qE_s d x t r
    by_cases h1 : d = k <;> by_cases h2 : t = k <;> simp_all [sE, qE, beq_if, Bool.cond_decide]
    · intro h; exact absurd h.symm h1
theorem qC_s (d n : Nat) (t : Nat) : ∀ l, qC (sC d n l) t = if t = d then n else qC l t
  | [] => by simp [sC, qC, beq_if, Bool.cond_decide]
  | (k, y) :: r => by
    have ih := qC_s d n t r
    by_cases h1 : d = k <;> by_cases h2 : t = k <;> simp_all [sC, qC, beq_if, Bool.cond_decide]
    · intro h; exact absurd h.symm h1
theorem qH_s (a b : Nat) (x : Option Ent) (s g : Nat) : ∀ l, qH (sH a b x l) s g = if s = a ∧ g = b then x else qH l s g
  | [] => by simp [sH, qH, beq_if, Bool.cond_decide, ← Bool.decide_and]
  | (s', g', y) :: r => by
    have ih := qH_s a b x s g r
    by_cases h1 : a = s' ∧ b = g'
    · obtain ⟨rfl, rfl⟩ := h1
      simp [sH, qH, beq_if, Bool.cond_decide, ← Bool.decide_and]
      by_cases h2 : s = a ∧ g = b <;> simp [h2]
    · have e1 : (Nat.beq a s' && Nat.beq b g') = false := by simp [beq_if]; intro h; exact fun h' => h1 ⟨h, h'⟩
      simp only [sH, e1, cond_false, qH, ih]
      by_cases h2 : s = s' ∧ g = g'
      · obtain ⟨rfl, rfl⟩ := h2
        have : ¬ (s = a ∧ g = b) := fun h => h1 ⟨h.1.symm, h.2.symm⟩
        simp [this, beq_if]
      · have e2 : (Nat.beq s s' && Nat.beq g g') = false := by simp [beq_if]; intro h; exact fun h' => h2 ⟨h, h'⟩
        simp only [e2, cond_false]
def QS.put (q : QS) (d : Option Nat) (x : AV) : QS :=
  match d with
  | none => q
  | some d => { q with e := sE d x q.e }
theorem abs_put (q : QS) (d : Option Nat) (x : AV) : (q.put d x).abs = q.abs.put d x := by
  cases d with
  | none => rfl
  | some d =>
    unfold QS.put QS.abs St.put
    simp only
    congr 1
    funext t
    exact qE_s d x t q.e
def QS.setH (q : QS) (s g : Nat) (e : Option Ent) : QS := { q with h := sH s g e q.h }
theorem abs_setH (q : QS) (s g : Nat) (e : Option Ent) : (q.setH s g e).abs = q.abs.setH s g e := by
  unfold QS.setH QS.abs St.setH
  simp only
  congr 1
  funext s' g'
  exact qH_s s g e s' g' q.h
/-- Several pieces, from the last to the first. -/
def putN (d : Nat) : Nat → List Ent → List (Nat × Nat × Option Ent) → List (Nat × Nat × Option Ent)
  | _, [], h => h
  | c, e :: r, h => sH d c (some e) (putN d (c + 1) r h)
def QS.news (q : QS) (d : Nat) (es : List Ent) : QS :=
  { q with h := putN d (qC q.c d) es q.h, c := sC d (qC q.c d + es.length) q.c }
theorem putN_eq (d : Nat) (s g : Nat) (h : List (Nat × Nat × Option Ent)) : ∀ (es : List Ent) (c : Nat), qH (putN d c es h) s g = if s = d ∧ c ≤ g ∧ g - c < es.length then es[g - c]? else qH h s g
  | [], c => by simp [putN]
  | e :: r, c => by
    rw [putN, qH_s, putN_eq d s g h r (c + 1)]
    by_cases h1 : s = d
    · subst h1
      by_cases h2 : g = c
      · subst h2; simp
      · by_cases h3 : c ≤ g
        · have h4 : c + 1 ≤ g := by omega
          have h5 : g - c = (g - (c + 1)) + 1 := by omega
          simp only [true_and, h2, if_false, h3, h4, h5, List.length_cons, List.getElem?_cons_succ, Nat.add_lt_add_iff_right]
        · have h4 : ¬ c + 1 ≤ g := by omega
          simp [h2, h3, h4]
    · simp [h1]
theorem abs_news (q : QS) (d : Nat) (es : List Ent) : (q.news d es).abs = q.abs.news d es := by
  unfold QS.news QS.abs St.news
  simp only
  congr 1
  · funext s' g'
    exact putN_eq d s' g' q.h es (qC q.c d)
  · funext s
    exact qC_s d _ s q.c
def QS.app (e : Eff) (q : QS) : QS :=
  let s1 := match e.upd with
    | some (s, g, x) => q.setH s g x
    | none => q
  let s2 := match e.new with
    | some (d, x) => s1.news d x
    | none => s1
  s2.put e.dst e.val
theorem abs_app (e : Eff) (q : QS) : (q.app e).abs = e.apply q.abs := by
  obtain ⟨d, v, u, n⟩ := e
  unfold QS.app Eff.apply
  simp only [abs_put]
  cases u with
  | none => cases n with
    | none => rfl
    | some n => obtain ⟨a, b⟩ := n; simp only [abs_news]
  | some u => obtain ⟨s, g, x⟩ := u; cases n with
    | none => simp only [abs_setH]
    | some n => obtain ⟨a, b⟩ := n; simp only [abs_news, abs_setH]
def QS.back (q s : QS) : QS := ⟨q.e, s.h, s.c⟩
theorem abs_back (q s : QS) : (q.back s).abs = q.abs.back s.abs := rfl
def idx : Nat → List AV → List (Nat × AV)
  | _, [] => []
  | n, x :: r => (n, x) :: idx (n + 1) r
theorem qE_idx : ∀ (xs : List AV) (n t : Nat), qE (idx n xs) t = if t < n then .v undef else (xs[t - n]?).getD (.v undef)
  | [], n, t => by simp [idx, qE]
  | x :: r, n, t => by
    rw [idx, qE, qE_idx r (n + 1) t, beq_if, Bool.cond_decide]
    by_cases h : t = n
    · subst h; simp
    · by_cases h2 : t < n
      · have : t < n + 1 := by omega
        simp [h, h2, this]
      · have h3 : ¬ t < n + 1 := by omega
        have h4 : t - n = (t - (n + 1)) + 1 := by omega
        simp [h, h2, h3, h4]
def QS.init (xs : List AV) : QS := ⟨idx 0 xs, [], []⟩
theorem abs_init (xs : List AV) : (QS.init xs).abs = St.init xs := by
  unfold QS.init QS.abs St.init
  simp only
  congr 1
  funext t
  rw [qE_idx]
  simp
def QS.initM (e sz n : Nat) (cs rest : List AV) : QS := ⟨(0, .own 0 0) :: idx 1 rest, [(0, 0, some (.row e sz n cs))], [(0, 1)]⟩
theorem abs_initM (e sz n : Nat) (cs rest : List AV) : (QS.initM e sz n cs rest).abs = St.initM e sz n cs rest := by
  unfold QS.initM QS.abs St.initM
  simp only
  congr 1
  · funext t
    cases t with
    | zero => rfl
    | succ t =>
      show qE (idx 1 rest) (t + 1) = _
      rw [qE_idx]
      simp
  · funext s g
    simp [qH, beq_if, Bool.cond_decide, ← Bool.decide_and]
  · funext s
    simp [qC, beq_if, Bool.cond_decide]

/-! ### Forcing -/
variable {β : Type}
def nfN (n : Nat) (k : Nat → β) : β :=
  match n with
  | 0 => k 0
  | m + 1 => k (m + 1)
theorem nfN_eq (n : Nat) (k : Nat → β) : nfN n k = k n := by cases n <;> rfl
def nfI (n : Int) (k : Int → β) : β :=
  match n with
  | .ofNat m => nfN m fun m => k (.ofNat m)
  | .negSucc m => nfN m fun m => k (.negSucc m)
theorem nfI_eq (n : Int) (k : Int → β) : nfI n k = k n := by cases n <;> simp [nfI, nfN_eq]
def nfV (x : Value) (k : Value → β) : β :=
  match x with
  | .int t n => nfI n fun n => k (.int t n)
  | .bool true => k (.bool true)
  | .bool false => k (.bool false)
  | x => k x
theorem nfV_eq (x : Value) (k : Value → β) : nfV x k = k x := by
  unfold nfV
  split <;> simp [nfI_eq]
def spL : List AV → (List AV → β) → β
  | [], k => k []
  | x :: r, k => spL r fun r => k (x :: r)
theorem spL_eq : ∀ (l : List AV) (k : List AV → β), spL l k = k l
  | [], k => rfl
  | x :: r, k => by rw [spL, spL_eq r]
def nfA (x : AV) (k : AV → β) : β :=
  match x with
  | .v y => nfV y fun y => k (.v y)
  | .agg cs => spL cs fun cs => k (.agg cs)
  | .sl m cs => nfN m fun m => spL cs fun cs => k (.sl m cs)
  | .cl m cs => nfN m fun m => spL cs fun cs => k (.cl m cs)
  | .ip cs o => nfN o fun o => spL cs fun cs => k (.ip cs o)
  | .ptr s g o => nfN s fun s => nfN g fun g => nfN o fun o => k (.ptr s g o)
  | .own s g => nfN s fun s => nfN g fun g => k (.own s g)
  | .vw s g o m => nfN s fun s => nfN g fun g => nfN o fun o => nfN m fun m => k (.vw s g o m)
  | .tup cs => spL cs fun cs => k (.tup cs)
  | .uniq e sz m cs => nfN m fun m => spL cs fun cs => k (.uniq e sz m cs)
  | x => k x
theorem nfA_eq (x : AV) (k : AV → β) : nfA x k = k x := by
  unfold nfA
  split <;> simp only [nfV_eq, nfN_eq, spL_eq]
def nfLA : List AV → (List AV → β) → β
  | [], k => k []
  | x :: r, k => nfA x fun x => nfLA r fun r => k (x :: r)
theorem nfLA_eq : ∀ (l : List AV) (k : List AV → β), nfLA l k = k l
  | [], k => rfl
  | x :: r, k => by rw [nfLA, nfA_eq, nfLA_eq r]
def nfE (e : Ent) (k : Ent → β) : β :=
  match e with
  | .cells cs => spL cs fun cs => k (.cells cs)
  | .row a b n cs => nfN a fun a => nfN b fun b => nfN n fun n => spL cs fun cs => k (.row a b n cs)
  | .map es => k (.map es)
theorem nfE_eq (e : Ent) (k : Ent → β) : nfE e k = k e := by
  cases e <;> simp only [nfE, nfN_eq, spL_eq]
def nfEs : List Ent → (List Ent → β) → β
  | [], k => k []
  | x :: r, k => nfE x fun x => nfEs r fun r => k (x :: r)
theorem nfEs_eq : ∀ (l : List Ent) (k : List Ent → β), nfEs l k = k l
  | [], k => rfl
  | x :: r, k => by rw [nfEs, nfE_eq, nfEs_eq r]
def nfU (u : Option (Nat × Nat × Option Ent)) (k : Option (Nat × Nat × Option Ent) → β) : β :=
  match u with
  | none => k none
  | some (s, g, none) => nfN s fun s => nfN g fun g => k (some (s, g, none))
  | some (s, g, some e) => nfN s fun s => nfN g fun g => nfE e fun e => k (some (s, g, some e))
theorem nfU_eq (u : Option (Nat × Nat × Option Ent)) (k : Option (Nat × Nat × Option Ent) → β) : nfU u k = k u := by
  unfold nfU
  split <;> simp only [nfN_eq, nfE_eq]
def nfW (u : Option (Nat × List Ent)) (k : Option (Nat × List Ent) → β) : β :=
  match u with
  | none => k none
  | some (d, es) => nfN d fun d => nfEs es fun es => k (some (d, es))
theorem nfW_eq (u : Option (Nat × List Ent)) (k : Option (Nat × List Ent) → β) : nfW u k = k u := by
  unfold nfW
  split <;> simp only [nfN_eq, nfEs_eq]
def nfEff (e : Eff) (k : Eff → β) : β :=
  match e with
  | ⟨d, v, u, n⟩ => nfA v fun v => nfU u fun u => nfW n fun n => k ⟨d, v, u, n⟩
theorem nfEff_eq (e : Eff) (k : Eff → β) : nfEff e k = k e := by
  obtain ⟨d, v, u, n⟩ := e
  simp only [nfEff, nfA_eq, nfU_eq, nfW_eq]
def spE : List (Nat × AV) → (List (Nat × AV) → β) → β
  | [], k => k []
  | (a, x) :: r, k => spE r fun r => k ((a, x) :: r)
theorem spE_eq : ∀ (l : List (Nat × AV)) (k : List (Nat × AV) → β), spE l k = k l
  | [], k => rfl
  | (a, x) :: r, k => by rw [spE, spE_eq r]
def spH : List (Nat × Nat × Option Ent) → (List (Nat × Nat × Option Ent) → β) → β
  | [], k => k []
  | (a, b, x) :: r, k => spH r fun r => k ((a, b, x) :: r)
theorem spH_eq : ∀ (l : List (Nat × Nat × Option Ent)) (k : List (Nat × Nat × Option Ent) → β), spH l k = k l
  | [], k => rfl
  | (a, b, x) :: r, k => by rw [spH, spH_eq r]
def spC : List (Nat × Nat) → (List (Nat × Nat) → β) → β
  | [], k => k []
  | (a, x) :: r, k => nfN x fun x => spC r fun r => k ((a, x) :: r)
theorem spC_eq : ∀ (l : List (Nat × Nat)) (k : List (Nat × Nat) → β), spC l k = k l
  | [], k => rfl
  | (a, x) :: r, k => by rw [spC, nfN_eq, spC_eq r]
def nfQ (q : QS) (k : QS → β) : β :=
  match q with
  | ⟨e, h, c⟩ => spE e fun e => spH h fun h => spC c fun c => k ⟨e, h, c⟩
theorem nfQ_eq (q : QS) (k : QS → β) : nfQ q k = k q := by
  obtain ⟨e, h, c⟩ := q
  simp only [nfQ, spE_eq, spH_eq, spC_eq]

/-! ### What is flat -/
def flL (f : AV → Option Bool) : List AV → Option Bool
  | [] => some true
  | x :: r => match f x with
    | some true => flL f r
    | some false => some false
    | none => none
def fl : Nat → AV → Option Bool
  | 0, _ => none
  | n + 1, x =>
    match x with
    | .v _ => some true
    | .agg cs => flL (fl n) cs
    | .sl _ cs => flL (fl n) cs
    | .cl _ cs => flL (fl n) cs
    | .ip cs _ => flL (fl n) cs
    | .clo _ cs => flL (fl n) cs
    | .tup cs => flL (fl n) cs
    | _ => some false
theorem flL_ok {f : AV → Option Bool} {p : AV → Prop} (hf : ∀ x b, f x = some b → (b = true ↔ p x)) : ∀ (l : List AV) (b : Bool), flL f l = some b → (b = true ↔ ∀ x ∈ l, p x)
  | [], b, h => by cases h; simp
  | x :: r, b, h => by
    rw [flL] at h
    cases e : f x with
    | none => rw [e] at h; cases h
    | some c =>
      rw [e] at h
      have h1 := hf x c e
      cases c with
      | true =>
        have h2 := flL_ok hf r b h
        rw [h2]
        simp only [List.mem_cons, forall_eq_or_imp]
        exact ⟨fun h => ⟨h1.1 rfl, h⟩, fun h => h.2⟩
      | false =>
        cases h
        simp only [List.mem_cons, forall_eq_or_imp]
        exact ⟨fun h => absurd h (by simp), fun h => absurd (h1.2 h.1) (by simp)⟩
theorem fl_ok : ∀ (n : Nat) (x : AV) (b : Bool), fl n x = some b → (b = true ↔ Flat x)
  | 0, _, _, h => by cases h
  | n + 1, x, b, h => by
    have ih := flL_ok (fl_ok n)
    cases x with
    | v y => cases h; exact ⟨fun _ => .v y, fun _ => rfl⟩
    | agg cs => exact (ih cs b h).trans ⟨fun h => .agg _ h, fun h => by cases h; assumption⟩
    | sl m cs => exact (ih cs b h).trans ⟨fun h => .sl _ _ h, fun h => by cases h; assumption⟩
    | cl m cs => exact (ih cs b h).trans ⟨fun h => .cl _ _ h, fun h => by cases h; assumption⟩
    | ip cs o => exact (ih cs b h).trans ⟨fun h => .ip _ _ h, fun h => by cases h; assumption⟩
    | clo f cs => exact (ih cs b h).trans ⟨fun h => .clo _ _ h, fun h => by cases h; assumption⟩
    | tup cs => exact (ih cs b h).trans ⟨fun h => .tup _ h, fun h => by cases h; assumption⟩
    | ptr s g o => cases h; exact ⟨fun h => (by cases h), fun h => by cases h⟩
    | own s g => cases h; exact ⟨fun h => (by cases h), fun h => by cases h⟩
    | mp s g => cases h; exact ⟨fun h => (by cases h), fun h => by cases h⟩
    | uniq e sz m cs => cases h; exact ⟨fun h => (by cases h), fun h => by cases h⟩
    | vw s g o m => cases h; exact ⟨fun h => (by cases h), fun h => by cases h⟩
abbrev F9 : AV → Option Bool := fl 9
theorem f9t {x : AV} (h : F9 x = some true) : Flat x := (fl_ok 9 x true h).1 rfl
theorem f9f {x : AV} (h : F9 x = some false) : ¬ Flat x := fun hf => by have := (fl_ok 9 x false h).2 hf; cases this
theorem fLt {l : List AV} (h : flL F9 l = some true) : ∀ x ∈ l, Flat x := (flL_ok (fl_ok 9) l true h).1 rfl
theorem fLf {l : List AV} (h : flL F9 l = some false) : ¬ ∀ x ∈ l, Flat x := fun hf => by have := (flL_ok (fl_ok 9) l false h).2 hf; cases this
def mfr : Nat → AV → Bool
  | 0, _ => false
  | n + 1, x =>
    match x with
    | .v _ => true
    | .agg cs => cs.all (mfr n)
    | .tup cs => cs.all (mfr n)
    | _ => false
theorem mfr_ok : ∀ (n : Nat) (x : AV), mfr n x = true → MemFree x
  | 0, _, h => by cases h
  | n + 1, x, h => by
    have ih := mfr_ok n
    cases x with
    | v y => exact .v y
    | agg cs => exact .agg _ fun x hx => ih x (List.all_eq_true.1 h x hx)
    | tup cs => exact .tup _ fun x hx => ih x (List.all_eq_true.1 h x hx)
    | _ => cases h

/-! ### What is handed on -/
def qX0 (st : St) (x : AV) : Option AV :=
  match F9 x with
  | some true => some x
  | some false =>
    match x with
    | .own s g =>
      match st.heap s g with
      | some (.row _ _ n cs) => match flL F9 cs with
        | some true => some (.sl n cs)
        | _ => none
      | _ => none
    | .vw s g o n =>
      match st.heap s g with
      | some (.row _ sz _ cs) => match flL F9 cs with
        | some true => if o + n * sz ≤ cs.length then some (.sl n ((cs.drop o).take (n * sz))) else none
        | _ => none
      | _ => none
    | _ => none
  | none => none
theorem qX0_ok {st : St} {x y : AV} (h : qX0 st x = some y) : expo0 st x = some y := by
  unfold qX0 at h
  split at h
  · rename_i e; cases h; unfold expo0; rw [if_pos (f9t e)]
  · rename_i e
    unfold expo0; rw [if_neg (f9f e)]
    split at h
    · rename_i s g
      split at h
      · rename_i hh
        split at h
        · rename_i e2; cases h; simp only [hh]; rw [if_pos (fLt e2)]
        · cases h
      · cases h
    · rename_i s g o n
      split at h
      · rename_i hh
        split at h
        · rename_i e2
          split at h
          · rename_i e3; cases h; simp only [hh]; rw [if_pos ⟨fLt e2, e3⟩]
          · cases h
        · cases h
      · cases h
    · cases h
  · cases h
theorem qAll {f g : AV → Option AV} (hf : ∀ x y, f x = some y → g x = some y) : ∀ (l : List AV) (r : List AV), optAll (l.map f) = some r → optAll (l.map g) = some r
  | [], r, h => h
  | x :: l, r, h => by
    rw [List.map_cons] at h ⊢
    cases e : f x with
    | none => rw [e] at h; cases h
    | some y =>
      rw [e] at h
      rw [hf x y e]
      simp only [optAll] at h ⊢
      cases e2 : optAll (l.map f) with
      | none => rw [e2] at h; cases h
      | some ys => rw [e2] at h; rw [qAll hf l ys e2]; exact h
def qX1 (st : St) (x : AV) : Option AV :=
  match F9 x with
  | some true => some x
  | some false =>
    match x with
    | .ptr s g o =>
      match st.heap s g with
      | some (.cells cs) => (optAll (cs.map (qX0 st))).map fun ds => .ip ds o
      | _ => none
    | x => qX0 st x
  | none => none
theorem qX1_ok {st : St} {x y : AV} (h : qX1 st x = some y) : expo1 st x = some y := by
  unfold qX1 at h
  split at h
  · rename_i e; cases h; unfold expo1; rw [if_pos (f9t e)]
  · rename_i e
    have hn := f9f e
    split at h
    · rename_i s g o
      unfold expo1; rw [if_neg hn]
      split at h
      · rename_i hh
        simp only [hh]
        cases e2 : optAll (List.map (qX0 st) _) with
        | none => rw [e2] at h; cases h
        | some ds => rw [e2] at h; rw [qAll (fun x y => qX0_ok) _ _ e2]; exact h
      · cases h
    · have h2 := qX0_ok h
      unfold expo0 at h2; rw [if_neg hn] at h2
      unfold expo1; rw [if_neg hn]
      cases x with
      | ptr s g o => cases h2
      | _ => first | exact h2 | cases h2
  · cases h
def qX (st : St) (x : AV) : Option AV :=
  match F9 x with
  | some true => some x
  | some false =>
    match x with
    | .agg cs => (optAll (cs.map (qX1 st))).map .agg
    | .clo f caps => (optAll (caps.map (qX1 st))).map (.clo f)
    | x => qX1 st x
  | none => none
theorem qX_ok {st : St} {x y : AV} (h : qX st x = some y) : expo st x = some y := by
  unfold qX at h
  split at h
  · rename_i e; cases h; unfold expo; rw [if_pos (f9t e)]
  · rename_i e
    have hn := f9f e
    unfold expo; rw [if_neg hn]
    cases x with
    | agg cs =>
      simp only at h ⊢
      cases e2 : optAll (cs.map (qX1 st)) with
      | none => rw [e2] at h; cases h
      | some ds => rw [e2] at h; rw [qAll (fun x y => qX1_ok) _ _ e2]; exact h
    | clo f cs =>
      simp only at h ⊢
      cases e2 : optAll (cs.map (qX1 st)) with
      | none => rw [e2] at h; cases h
      | some ds => rw [e2] at h; rw [qAll (fun x y => qX1_ok) _ _ e2]; exact h
    | _ => exact qX1_ok h
  · cases h

/-! ### Calls -/
def frC : AV → Bool
  | .uniq _ _ _ cs => cs.all (mfr 9)
  | x => mfr 9 x
def fr1 : AV → Bool
  | .agg cs => cs.all frC
  | x => frC x
def fr : AV → Bool
  | .tup vs => vs.all fr1
  | x => fr1 x
theorem frC_ok {x : AV} (h : frC x = true) : FreshC x := by
  cases x with
  | uniq e sz n cs => exact fun c hc => mfr_ok 9 c (List.all_eq_true.1 h c hc)
  | _ => exact mfr_ok 9 _ h
theorem fr1_ok {x : AV} (h : fr1 x = true) : Fresh1 x := by
  cases x with
  | agg cs => exact fun c hc => frC_ok (List.all_eq_true.1 h c hc)
  | uniq e sz n cs => exact frC_ok (x := .uniq e sz n cs) h
  | _ => first | exact frC_ok (x := AV.v _) h | exact frC_ok (x := AV.sl _ _) h | exact frC_ok (x := AV.cl _ _) h | exact frC_ok (x := AV.ip _ _) h | exact frC_ok (x := AV.ptr _ _ _) h | exact frC_ok (x := AV.own _ _) h | exact frC_ok (x := AV.mp _ _) h | exact frC_ok (x := AV.clo _ _) h | exact frC_ok (x := AV.tup _) h | exact frC_ok (x := AV.uniq _ _ _ _) h | exact frC_ok (x := AV.vw _ _ _ _) h
theorem fr_ok {x : AV} (h : fr x = true) : Fresh x := by
  cases x with
  | tup cs => exact fun c hc => fr1_ok (List.all_eq_true.1 h c hc)
  | uniq e sz n cs => exact fr1_ok (x := .uniq e sz n cs) h
  | _ => first | exact fr1_ok (x := AV.v _) h | exact fr1_ok (x := AV.agg _) h | exact fr1_ok (x := AV.sl _ _) h | exact fr1_ok (x := AV.cl _ _) h | exact fr1_ok (x := AV.ip _ _) h | exact fr1_ok (x := AV.ptr _ _ _) h | exact fr1_ok (x := AV.own _ _) h | exact fr1_ok (x := AV.mp _ _) h | exact fr1_ok (x := AV.clo _ _) h | exact fr1_ok (x := AV.uniq _ _ _ _) h | exact fr1_ok (x := AV.vw _ _ _ _) h
def qPut (r : AV) (st : St) (dst : Option Nat) : Option Eff :=
  match F9 r with
  | some true => some { dst := dst, val := r }
  | some false =>
    match dst with
    | some d => some { dst := some d, val := (opn d (st.cnt d) r).1, new := some (d, (opn d (st.cnt d) r).2) }
    | none => none
  | none => none
theorem qPut_ok {r : AV} {st : St} {dst : Option Nat} {e : Eff} (h : qPut r st dst = some e) : putRes r st dst = some e := by
  unfold qPut at h
  unfold putRes
  split at h
  · rename_i e; rw [if_pos (f9t e)]; exact h
  · rename_i e; rw [if_neg (f9f e)]; exact h
  · cases h
noncomputable def qFn (call : Nat → List AV → Option AV) (g : Nat) (args : List AV) (st : St) (dst : Option Nat) : Option Eff :=
  match flL F9 args with
  | some true => bnd (call g args) fun r => qPut r st dst
  | some false =>
    match optAll (args.map (qX st)) with
    | some xs => bnd (call g xs) fun r => bif fr r then qPut r st dst else none
    | none => none
  | none => none
abbrev CallQ (c c' : Nat → List AV → Option AV) : Prop := ∀ g xs r, c g xs = some r → c' g xs = some r
theorem bnd_ok {α γ : Type} {x y : Option α} {f g : α → Option γ} {r : γ} (h : bnd x f = some r) (hx : ∀ a, x = some a → y = some a) (hf : ∀ a, f a = some r → g a = some r) : bnd y g = some r := by
  cases e : x with
  | none => rw [e] at h; cases h
  | some a => rw [e] at h; rw [hx a e]; exact hf a h
theorem qFn_ok {call call' : Nat → List AV → Option AV} (hc : CallQ call call') {g : Nat} {args : List AV} {st : St} {dst : Option Nat} {e : Eff} (h : qFn call g args st dst = some e) : callFn call' g args st dst = some e := by
  unfold qFn at h
  unfold callFn
  split at h
  · rename_i e; rw [if_pos (fLt e)]
    exact bnd_ok h (hc _ _) fun a h => qPut_ok h
  · rename_i e; rw [if_neg (fLf e)]
    split at h
    · rename_i e2
      rw [qAll (fun x y => qX_ok) _ _ e2]
      refine bnd_ok h (hc _ _) fun a h => ?_
      cases e3 : fr a with
      | false => rw [e3] at h; cases h
      | true => rw [e3] at h; rw [if_pos (fr_ok e3)]; exact qPut_ok h
    · cases h
  · cases h
noncomputable def qMv (call : Nat → List AV → Option AV) (g : Nat) (args : List AV) (st : St) (dst : Option Nat) : Option Eff :=
  match args with
  | .own s k :: rest =>
    match st.heap s k with
    | some (.row e sz n cs) =>
      match flL F9 cs, flL F9 rest with
      | some true, some true =>
        match call g (.uniq e sz n cs :: rest) with
        | some (.uniq e' sz' n' cs') =>
          match dst with
          | some d => some { dst := some d, val := .own d (st.cnt d), upd := some (s, k, none), new := some (d, [.row e' sz' n' cs']) }
          | none => none
        | some (.tup [.uniq e' sz' n' cs']) => some { dst := dst, val := .tup [], upd := some (s, k, some (.row e' sz' n' cs')) }
        | _ => none
      | _, _ => none
    | _ => none
  | args => match flL F9 args with
    | some true => qFn call g args st dst
    | _ => none
theorem qMv_ok {call call' : Nat → List AV → Option AV} (hc : CallQ call call') {g : Nat} {args : List AV} {st : St} {dst : Option Nat} {e : Eff} (h : qMv call g args st dst = some e) : callMv call' g args st dst = some e := by
  unfold qMv at h
  unfold callMv
  split at h
  · rename_i s k rest
    simp only
    split at h
    · rename_i e sz n cs hh
      simp only [hh]
      split at h
      · rename_i e1 e2
        rw [if_pos ⟨fLt e1, fLt e2⟩]
        cases e3 : call g (.uniq e sz n cs :: rest) with
        | none => rw [e3] at h; cases h
        | some r => rw [e3] at h; rw [hc _ _ _ e3]; exact h
      · cases h
    · cases h
  · rename_i hn
    split at h
    · rename_i e
      split
      · rename_i s k rest; exact absurd rfl (hn s k rest)
      · rw [if_pos (fLt e)]; exact qFn_ok hc h
    · cases h
def eatC (c : AV) : Bool :=
  match F9 c with
  | some true => true
  | some false => match c with
    | .own _ _ => true
    | _ => false
  | none => false
def eatB (x : AV) : Bool :=
  match F9 x with
  | some true => true
  | some false => match x with
    | .own _ _ => true
    | .agg cs => cs.all eatC
    | _ => false
  | none => false
theorem eatC_ok {c : AV} (h : eatC c = true) : Flat c ∨ ∃ s k, c = .own s k := by
  unfold eatC at h
  split at h
  · rename_i e; exact .inl (f9t e)
  · split at h
    · exact .inr ⟨_, _, rfl⟩
    · cases h
  · cases h
theorem eatB_ok {x : AV} (h : eatB x = true) : EatOk x := by
  unfold eatB at h
  split at h
  · rename_i e; exact .inl (f9t e)
  · split at h
    · exact .inr (.inl ⟨_, _, rfl⟩)
    · exact .inr (.inr ⟨_, rfl, fun c hc => eatC_ok (List.all_eq_true.1 h c hc)⟩)
    · cases h
  · cases h
def qEatR (r : AV) (st : St) (dst : Option Nat) (s k : Nat) : Option Eff :=
  match F9 r with
  | some true => some { dst := dst, val := r, upd := some (s, k, none) }
  | some false =>
    match r, dst with
    | .uniq e sz n cs, some d => bif cs.all (mfr 9) then some { dst := some d, val := .own d (st.cnt d), upd := some (s, k, none), new := some (d, [.row e sz n cs]) } else none
    | _, _ => none
  | none => none
theorem qEatR_ok {r : AV} {st : St} {dst : Option Nat} {s k : Nat} {e : Eff} (h : qEatR r st dst s k = some e) : eatRes r st dst s k = some e := by
  unfold qEatR at h
  unfold eatRes
  split at h
  · rename_i e; rw [if_pos (f9t e)]; exact h
  · rename_i e; rw [if_neg (f9f e)]
    split at h
    · rename_i cs d
      cases e3 : cs.all (mfr 9) with
      | false => rw [e3] at h; cases h
      | true => rw [e3] at h; simp only; rw [if_pos fun c hc => mfr_ok 9 c (List.all_eq_true.1 e3 c hc)]; exact h
    · cases h
  · cases h
noncomputable def qEat (call : Nat → List AV → Option AV) (g : Nat) (args : List AV) (st : St) (dst : Option Nat) : Option Eff :=
  match args.flatMap ownKeys1 with
  | [(s, k)] =>
    bif args.all eatB then
      match optAll (args.map (qX st)) with
      | some xs => bnd (call g xs) fun r => qEatR r st dst s k
      | none => none
    else none
  | _ => qFn call g args st dst
theorem qEat_ok {call call' : Nat → List AV → Option AV} (hc : CallQ call call') {g : Nat} {args : List AV} {st : St} {dst : Option Nat} {e : Eff} (h : qEat call g args st dst = some e) : callEat call' g args st dst = some e := by
  unfold qEat at h
  unfold callEat
  split at h
  · rename_i s k ek
    simp only [ek]
    cases e3 : args.all eatB with
    | false => rw [e3] at h; cases h
    | true =>
      rw [e3] at h
      rw [if_pos fun x hx => eatB_ok (List.all_eq_true.1 e3 x hx)]
      simp only [cond_true] at h
      split at h
      · rename_i e2
        rw [qAll (fun x y => qX_ok) _ _ e2]
        exact bnd_ok h (hc _ _) fun a h => qEatR_ok h
      · cases h
  · rename_i hn
    split
    · rename_i s k ek; exact absurd ek (hn s k)
    · exact qFn_ok hc h

section ext
variable [Ext] (P : Program)
noncomputable def qVal (call : Nat → List AV → Option AV) (f : Operand) (args : List AV) (st : St) (dst : Option Nat) : Option Eff :=
  match f with
  | .func g => if Ext.mv g = true then qMv call g args st dst else if Ext.eat g dst = true then qEat call g args st dst else qFn call g args st dst
  | f =>
    match asFn (st.ev f) with
    | some (g, caps) => qFn call g (args ++ caps) st dst
    | none => none
theorem qVal_ok {call call' : Nat → List AV → Option AV} (hc : CallQ call call') {f : Operand} {args : List AV} {st : St} {dst : Option Nat} {e : Eff} (h : qVal call f args st dst = some e) : callVal call' f args st dst = some e := by
  unfold qVal at h
  unfold callVal
  split at h
  · rename_i g
    simp only
    by_cases h1 : Ext.mv g = true
    · rw [if_pos h1] at h ⊢; exact qMv_ok hc h
    · rw [if_neg h1] at h ⊢
      by_cases h2 : Ext.eat g dst = true
      · rw [if_pos h2] at h ⊢; exact qEat_ok hc h
      · rw [if_neg h2] at h ⊢; exact qFn_ok hc h
  · rename_i hn
    split
    · rename_i g; exact absurd rfl (hn g)
    · split at h
      · rename_i e; simp only [e]; exact qFn_ok hc h
      · cases h
def isNil : AV → Bool
  | .v (.slice none 0 0) => true
  | _ => false
theorem isNil_ok {x : AV} : isNil x = true ↔ x = .v (.slice none 0 0) := by
  constructor
  · intro h
    unfold isNil at h
    split at h
    · rfl
    · cases h
  · rintro rfl; rfl
def qNilApp (st : St) (T : Nat) (s x : AV) : Bool := isNil s && ((slInfo P T).isSome && (match sliceView st x with | some (0, _) => true | _ => false))
theorem qNilApp_ok {st : St} {T : Nat} {s x : AV} : qNilApp P st T s x = true ↔ nilApp P st T s x := by
  unfold qNilApp nilApp
  rw [Bool.and_eq_true, Bool.and_eq_true, isNil_ok]
  have : (match sliceView st x with | some (0, _) => true | _ => false) = true ↔ (sliceView st x).map Prod.fst = some 0 := by
    cases e : sliceView st x with
    | none => simp
    | some p =>
      obtain ⟨n, cs⟩ := p
      cases n <;> simp
  rw [this]
noncomputable def qEff (call : Nat → List AV → Option AV) (c : Call) (dst : Option Nat) (st : St) : Option Eff :=
  match c.callee with
  | .value f => qVal call f (c.args.toList.map st.ev) st dst
  | .builtin .append =>
    bnd dst fun d =>
      match c.args.toList, c.argTypes.toList with
      | [s, x], [T, T'] =>
        if T = T' then
          if Ext.va T d = true then (appendV P st T (st.ev s) (st.ev x)).map fun u => { dst := some d, val := .vw u.1 u.2.1 0 u.2.2.2, upd := some (u.1, u.2.1, some u.2.2.1) } else
          bif Ext.pa T d && qNilApp P st T (st.ev s) (st.ev x) then some { dst := some d, val := .v (.slice none 0 0) } else
          bnd (appendA P st T (st.ev s) (st.ev x)) fun ur => some { dst := some d, val := .own d (st.cnt d), upd := ur.1.map fun p => (p.1, p.2, none), new := some (d, [ur.2]) }
        else none
      | _, _ => none
  | _ => callEff P call c dst st
theorem qEff_ok {call call' : Nat → List AV → Option AV} (hc : CallQ call call') {c : Call} {dst : Option Nat} {st : St} {e : Eff} (h : qEff P call c dst st = some e) : callEff P call' c dst st = some e := by
  obtain ⟨callee, args, ats⟩ := c
  cases callee with
  | value f => exact qVal_ok hc h
  | builtin b =>
    cases b with
    | append =>
      unfold qEff at h
      unfold callEff
      simp only at h ⊢
      refine bnd_ok h (fun _ h => h) fun d h => ?_
      split at h
      · rename_i s x T T' ha hb
        simp only [ha, hb]
        split at h
        · rename_i hT
          rw [if_pos hT]
          split at h
          · rename_i hv; rw [if_pos hv]; exact h
          · rename_i hv; rw [if_neg hv]
            cases e3 : (Ext.pa _ d && qNilApp P st _ (st.ev _) (st.ev _)) with
            | false =>
              rw [e3] at h
              rw [if_neg]
              · exact h
              · rintro ⟨h1, h2⟩
                rw [h1, (qNilApp_ok P).2 h2] at e3
                cases e3
            | true =>
              rw [e3] at h
              rw [Bool.and_eq_true] at e3
              rw [if_pos ⟨e3.1, (qNilApp_ok P).1 e3.2⟩]
              exact h
        · cases h
      · cases h
    | _ => exact h
  | _ => exact h

/-! ### Operations -/
def leafB : List Bool → List AV → List AV → Option Bool
  | [], [], [] => some true
  | true :: l, .v (.int k a) :: xs, .v (.int k' b) :: ys => if k = k' then (leafB l xs ys).map fun r => decide (a = b) && r else none
  | false :: l, .v (.bool a) :: xs, .v (.bool b) :: ys => (leafB l xs ys).map fun r => (a == b) && r
  | _, _, _ => none
theorem leafB_ok : ∀ (l : List Bool) (xs ys : List AV) (b : Bool), leafB l xs ys = some b → Leafy l xs ys ∧ (b = true ↔ xs = ys) := by
  intro l xs ys
  induction l generalizing xs ys with
  | nil =>
    intro b h
    unfold leafB at h
    split at h <;> first | (cases h; done) | skip
    · cases h; exact ⟨by unfold Leafy; trivial, by simp⟩
    · rename_i h1 _ _ _; simp at *
    · simp at *
  | cons t l ih =>
    intro b h
    unfold leafB at h
    split at h
    · rename_i e; cases e
    · rename_i l' k a xs' k' b' ys' e
      cases e
      split at h
      · rename_i hk
        cases e2 : leafB l xs' ys' with
        | none => rw [e2] at h; cases h
        | some r =>
          rw [e2] at h; cases h
          obtain ⟨h1, h2⟩ := ih _ _ _ e2
          refine ⟨⟨hk, h1⟩, ?_⟩
          subst hk
          simp [h2]
      · cases h
    · rename_i l' a xs' b' ys' e
      cases e
      cases e2 : leafB l xs' ys' with
      | none => rw [e2] at h; cases h
      | some r =>
        rw [e2] at h; cases h
        obtain ⟨h1, h2⟩ := ih _ _ _ e2
        refine ⟨h1, ?_⟩
        simp [h2]
    · cases h
def qAgg (T : Nat) (xs ys : List AV) : Option Bool :=
  match eqLeaves P 20 T with
  | some l => bif isAggT P T && !P.eqGuardType P.depth T then leafB l xs ys else none
  | none => none
theorem qAgg_ok {T : Nat} {xs ys : List AV} {b : Bool} (h : qAgg P T xs ys = some b) : eqAgg P T xs ys = some b := by
  unfold qAgg at h
  unfold eqAgg
  split at h
  · rename_i l e
    simp only [e]
    cases e3 : (isAggT P T && !P.eqGuardType P.depth T) with
    | false => rw [e3] at h; cases h
    | true =>
      rw [e3] at h
      rw [Bool.and_eq_true, Bool.not_eq_true'] at e3
      obtain ⟨h1, h2⟩ := leafB_ok _ _ _ _ h
      rw [if_pos ⟨e3.1, e3.2, h1⟩]
      congr 1
      cases b with
      | true => exact decide_eq_true (h2.1 rfl)
      | false => exact decide_eq_false fun e => by have := h2.2 e; cases this
  · cases h
noncomputable def qBin (op : BinOp) (T : Nat) (x y : AV) : Option AV :=
  match x, y with
  | .agg xs, .agg ys =>
    match op with
    | .eql => (qAgg P T xs ys).map fun b => .v (.bool b)
    | .neq => (qAgg P T xs ys).map fun b => .v (.bool (!b))
    | _ => none
  | x, y => binA P op T x y
theorem qBin_ok {op : BinOp} {T : Nat} {x y z : AV} (h : qBin P op T x y = some z) : binA P op T x y = some z := by
  unfold qBin at h
  split at h
  · rename_i xs ys
    unfold binA
    simp only
    split at h
    · simp only
      cases e : qAgg P T xs ys with
      | none => rw [e] at h; cases h
      | some b => rw [e] at h; rw [qAgg_ok P e]; exact h
    · simp only
      cases e : qAgg P T xs ys with
      | none => rw [e] at h; cases h
      | some b => rw [e] at h; rw [qAgg_ok P e]; exact h
    · cases h
  · exact h
noncomputable def qOp (call : Nat → List AV → Option AV) (o : Oper) (st : St) : Option Eff :=
  match o.op with
  | .call c => qEff P call c o.dst st
  | .binOp op T x y _ => (qBin P op T (st.ev x) (st.ev y)).map fun v => { dst := o.dst, val := v }
  | _ => opEff P call o st
theorem opEff_call {call call' : Nat → List AV → Option AV} {o : Oper} {st : St} (h : ∀ c, o.op ≠ .call c) : opEff P call o st = opEff P call' o st := by
  unfold opEff
  split <;> first | rfl | skip
  rename_i c e
  exact absurd e (h c)
theorem qOp_ok {call call' : Nat → List AV → Option AV} (hc : CallQ call call') {o : Oper} {st : St} {e : Eff} (h : qOp P call o st = some e) : opEff P call' o st = some e := by
  unfold qOp at h
  split at h
  · rename_i c ec
    unfold opEff
    simp only [ec]
    exact qEff_ok P hc h
  · rename_i op T x y z ec
    unfold opEff
    simp only [ec, opVal]
    cases e2 : qBin P op T (st.ev x) (st.ev y) with
    | none => rw [e2] at h; cases h
    | some v => rw [e2] at h; rw [qBin_ok P e2]; exact h
  · rename_i h1 h2
    rw [← opEff_call P (call := call) (call' := call') h1]
    exact h

/-! ### Code -/
abbrev InlQ (q : Nat → List AV → QS → Option (AV × QS)) (i : Nat → List AV → St → Option (AV × St)) : Prop := ∀ g xs s r, q g xs s = some r → i g xs s.abs = some (r.1, r.2.abs)
noncomputable def qOpI (b : Bool) (call : Nat → List AV → Option AV) (inl : Nat → List AV → QS → Option (AV × QS)) (ops : Array Oper) (o : Oper) (q : QS) : Option QS :=
  match (if b = true then isInl o else none) with
  | some (g, args) =>
    match gv ops q.abs o.guard with
    | some t => if t = true then bnd (inl g (args.map q.abs.ev) q) fun r => nfA r.1 fun x => some ((q.back r.2).put o.dst x) else some (q.put o.dst (.v undef))
    | none => none
  | none =>
    match gv ops q.abs o.guard with
    | some t => if t = true then bnd (qOp P call o q.abs) fun e => nfEff e fun e => some (q.app e) else some (q.put o.dst (.v undef))
    | none => none
theorem qOpI_ok {b : Bool} {call call' : Nat → List AV → Option AV} {inl : Nat → List AV → QS → Option (AV × QS)} {inl' : Nat → List AV → St → Option (AV × St)} (hc : CallQ call call') (hi : InlQ inl inl') {ops : Array Oper} {o : Oper} {q q' : QS} (h : qOpI P b call inl ops o q = some q') : evOpI P b call' inl' ops o q.abs = some q'.abs := by
  unfold qOpI at h
  unfold evOpI
  split at h
  · rename_i g args e
    simp only [e]
    split at h
    · rename_i t e2
      simp only [e2]
      split at h
      · rename_i ht
        rw [if_pos ht]
        cases e3 : inl g (args.map q.abs.ev) q with
        | none => rw [e3] at h; cases h
        | some r =>
          rw [e3] at h
          simp only [bnd, nfA_eq] at h
          cases h
          rw [hi _ _ _ _ e3, abs_put, abs_back]
          rfl
      · rename_i ht; rw [if_neg ht]; cases h; rw [abs_put]
    · cases h
  · rename_i e
    simp only [e]
    unfold evOp
    split at h
    · rename_i t e2
      simp only [e2]
      split at h
      · rename_i ht
        rw [if_pos ht]
        cases e3 : qOp P call o q.abs with
        | none => rw [e3] at h; cases h
        | some r =>
          rw [e3] at h
          simp only [bnd, nfEff_eq] at h
          cases h
          rw [qOp_ok P hc e3, abs_app]
          rfl
      · rename_i ht; rw [if_neg ht]; cases h; rw [abs_put]
    · cases h
noncomputable def qOpsI (b : Bool) (call : Nat → List AV → Option AV) (inl : Nat → List AV → QS → Option (AV × QS)) (ops : Array Oper) : List Oper → QS → Option QS
  | [], q => nfQ q some
  | o :: r, q => bnd (qOpI P b call inl ops o q) (qOpsI b call inl ops r)
theorem qOpsI_ok {b : Bool} {call call' : Nat → List AV → Option AV} {inl : Nat → List AV → QS → Option (AV × QS)} {inl' : Nat → List AV → St → Option (AV × St)} (hc : CallQ call call') (hi : InlQ inl inl') {ops : Array Oper} : ∀ (l : List Oper) (q q' : QS), qOpsI P b call inl ops l q = some q' → evOpsI P b call' inl' ops l q.abs = some q'.abs
  | [], q, q', h => by
    simp only [qOpsI, nfQ_eq] at h
    cases h; rfl
  | o :: r, q, q', h => by
    rw [qOpsI] at h
    rw [evOpsI]
    cases e : qOpI P b call inl ops o q with
    | none => rw [e] at h; cases h
    | some s =>
      rw [e] at h
      rw [qOpI_ok P hc hi e]
      exact qOpsI_ok hc hi r s q' h
def farB (x y : AV) : Bool :=
  match keyOf x, keyOf y with
  | some (some k), some (some k') => !(k.1 == k'.1 && k.2 == k'.2)
  | some _, some _ => true
  | _, _ => false
theorem farB_ok {x y : AV} (h : farB x y = true) : farApart x y := by
  unfold farB at h
  unfold farApart
  cases e1 : keyOf x with
  | none => simp [e1] at h
  | some a =>
    cases e2 : keyOf y with
    | none => cases a <;> simp [e1, e2] at h
    | some b =>
      cases a with
      | none => cases b <;> trivial
      | some a =>
        cases b with
        | none => trivial
        | some b =>
          rw [e1, e2] at h
          show a ≠ b
          rintro rfl
          simp at h
def swB (ops : Array Oper) (s : St) (p : Nat × Nat) : Bool :=
  match (ops[p.1]?).bind keyRegs, (ops[p.2]?).bind keyRegs with
  | some as, some bs => as.all fun a => bs.all fun b => farB (s.env a) (s.env b)
  | _, _ => false
theorem swB_ok {ops : Array Oper} {s : St} {p : Nat × Nat} (h : swB ops s p = true) : SwapAt ops s p := by
  unfold swB at h
  unfold SwapAt
  split at h
  · rename_i e1 e2
    simp only [e1, e2]
    exact fun a ha b hb => farB_ok (List.all_eq_true.1 (List.all_eq_true.1 h a ha) b hb)
  · cases h
theorem swL_ok {ops : Array Oper} {s : St} : ∀ (l : List (Nat × Nat)), l.all (swB ops s) = true → SwapsOk ops s l
  | [], _ => trivial
  | p :: l, h => by
    rw [List.all_cons, Bool.and_eq_true] at h
    exact ⟨swB_ok h.1, swL_ok l h.2⟩
noncomputable def qCd (bi : Bool) (call : Nat → List AV → Option AV) (inl : Nat → List AV → QS → Option (AV × QS)) : Nat → Code → QS → Option (Ex × QS)
  | 0, _, _ => none
  | n + 1, c, q =>
    match c with
    | .skip => some (.normal, q)
    | .region id ops _ => bnd (qOpsI P bi call inl ops ops.toList q) fun s => bif bi && !(Ext.dyn id ops.size (firstDst ops)).all (swB ops s.abs) then none else some (.normal, s)
    | .seq a b => bnd (qCd bi call inl n a q) fun r => match r.1 with
      | .normal => qCd bi call inl n b r.2
      | e => some (e, r.2)
    | .cond c a b =>
      match q.abs.ev c with
      | .v (.bool t) => if t = true then qCd bi call inl n a q else qCd bi call inl n b q
      | _ => none
    | .block id b => bnd (qCd bi call inl n b q) fun r => some (r.1.inBlock id, r.2)
    | .loop b => bnd (qCd bi call inl n b q) fun r => match r.1 with
      | .normal => qCd bi call inl n (.loop b) r.2
      | e => some (e, r.2)
    | .exit id => some (.exit id, q)
    | .ret => some (.ret, q)
    | _ => none
theorem qCd_ok {bi : Bool} {call : Nat → List AV → Option AV} {inl : Nat → List AV → QS → Option (AV × QS)} (hc : CallQ call (callL P)) (hi : InlQ inl (inlL P)) : ∀ (n : Nat) (c : Code) (q : QS) (r : Ex × QS), qCd P bi call inl n c q = some r → evG P bi c q.abs = some (r.1, r.2.abs)
  | 0, _, _, _, h => by cases h
  | n + 1, c, q, r, h => by
    have ih := qCd_ok (bi := bi) hc hi n
    cases c with
    | skip => cases h; exact evG_skip P _
    | region id ops dr =>
      simp only [qCd] at h
      rw [evG_region]
      cases e : qOpsI P bi call inl ops ops.toList q with
      | none => rw [e] at h; cases h
      | some s =>
        rw [e] at h
        rw [qOpsI_ok P hc hi _ _ _ e]
        simp only [bnd] at h ⊢
        cases e2 : (bi && !(Ext.dyn id ops.size (firstDst ops)).all (swB ops s.abs)) with
        | true => rw [e2] at h; cases h
        | false =>
          rw [e2] at h; cases h
          rw [if_neg]
          rintro ⟨h1, h2⟩
          subst h1
          rw [Bool.true_and, Bool.not_eq_false'] at e2
          exact h2 (swL_ok _ e2)
    | seq a b =>
      simp only [qCd] at h
      rw [evG_seq]
      cases e : qCd P bi call inl n a q with
      | none => rw [e] at h; cases h
      | some s =>
        rw [e] at h
        rw [ih _ _ _ e]
        obtain ⟨x, s⟩ := s
        simp only [bnd, thenL] at h ⊢
        cases x with
        | normal => exact ih _ _ _ h
        | exit i => cases h; rfl
        | ret => cases h; rfl
    | cond c a b =>
      simp only [qCd] at h
      split at h
      · rename_i t e
        rw [evG_cond P c a b _ e]
        split at h
        · rename_i ht; rw [if_pos ht]; exact ih _ _ _ h
        · rename_i ht; rw [if_neg ht]; exact ih _ _ _ h
      · cases h
    | block id b =>
      simp only [qCd] at h
      rw [evG_block]
      cases e : qCd P bi call inl n b q with
      | none => rw [e] at h; cases h
      | some s => rw [e] at h; rw [ih _ _ _ e]; cases h; rfl
    | loop b =>
      simp only [qCd] at h
      rw [evG_loop]
      cases e : qCd P bi call inl n b q with
      | none => rw [e] at h; cases h
      | some s =>
        rw [e] at h
        rw [ih _ _ _ e]
        obtain ⟨x, s⟩ := s
        simp only [bnd, thenL] at h ⊢
        cases x with
        | normal => exact ih _ _ _ h
        | exit i => cases h; rfl
        | ret => cases h; rfl
    | exit id => cases h; exact evG_exit P _ _
    | ret => cases h; exact evG_ret P _
    | _ => cases h

/-! ### Ends -/
def qR (st : St) (x : AV) : Option AV :=
  match x with
  | .own s g =>
    match st.heap s g with
    | some (.row e sz n cs) => match flL F9 cs with
      | some true => some (.uniq e sz n cs)
      | _ => none
    | _ => none
  | x => qX st x
theorem qR_ok {st : St} {x y : AV} (h : qR st x = some y) : expoR st x = some y := by
  unfold qR at h
  split at h
  · unfold expoR
    simp only
    split at h
    · rename_i hh
      simp only [hh]
      split at h
      · rename_i e; rw [if_pos (fLt e)]; exact h
      · cases h
    · cases h
  · rename_i hn
    unfold expoR
    split
    · rename_i s g; exact absurd rfl (hn s g)
    · exact qX_ok h
theorem qS_ok {st : St} {x y : AV} (h : qX st x = some y) : expoS st x = some y := by
  unfold expoS
  rw [qX_ok h]
noncomputable def qFinA (fn : Func) (st : St) : Option AV :=
  match fn.results.toList with
  | [r] => bnd (resVal P st r) (qR st)
  | rs => (optAll (rs.map fun r => bnd (resVal P st r) (qX st))).map .tup
theorem qAll2 {α : Type} {f g : α → Option AV} (hf : ∀ x y, f x = some y → g x = some y) : ∀ (l : List α) (r : List AV), optAll (l.map f) = some r → optAll (l.map g) = some r
  | [], r, h => h
  | x :: l, r, h => by
    rw [List.map_cons] at h ⊢
    cases e : f x with
    | none => rw [e] at h; cases h
    | some y =>
      rw [e] at h
      rw [hf x y e]
      simp only [optAll] at h ⊢
      cases e2 : optAll (l.map f) with
      | none => rw [e2] at h; cases h
      | some ys => rw [e2] at h; rw [qAll2 hf l ys e2]; exact h
theorem qFinA_ok {fn : Func} {st : St} {y : AV} (h : qFinA P fn st = some y) : finishA P fn st = some y := by
  unfold qFinA at h
  unfold finishA
  split at h
  · rename_i r e
    simp only [e]
    exact bnd_ok h (fun _ h => h) fun a h => qR_ok h
  · rename_i rs hn
    split
    · rename_i r e; exact absurd e (hn r)
    · cases e : optAll (fn.results.toList.map fun r => bnd (resVal P st r) (qX st)) with
      | none => rw [e] at h; cases h
      | some ys =>
        rw [e] at h
        rw [qAll2 (fun x y hxy => bnd_ok hxy (fun _ h => h) fun a h => qS_ok h) _ _ e]
        exact h
def qUC (st : St) (x : AV) : Option AV :=
  match F9 x with
  | some true => some x
  | some false =>
    match x with
    | .own s g =>
      match st.heap s g with
      | some (.row e sz n cs) => match flL F9 cs with
        | some true => some (.uniq e sz n cs)
        | _ => none
      | _ => none
    | _ => none
  | none => none
theorem qUC_ok {st : St} {x y : AV} (h : qUC st x = some y) : expoUC st x = some y := by
  unfold qUC at h
  unfold expoUC
  split at h
  · rename_i e; rw [if_pos (f9t e)]; exact h
  · rename_i e
    rw [if_neg (f9f e)]
    split at h
    · simp only
      split at h
      · rename_i hh
        simp only [hh]
        split at h
        · rename_i e2; rw [if_pos (fLt e2)]; exact h
        · cases h
      · cases h
    · cases h
  · cases h
def qU1 (st : St) : AV → Option AV
  | .agg cs => (optAll (cs.map (qUC st))).map .agg
  | x => qUC st x
theorem qU1_ok {st : St} {x y : AV} (h : qU1 st x = some y) : expoU1 st x = some y := by
  unfold qU1 at h
  unfold expoU1
  split at h
  · rename_i cs
    simp only
    cases e : optAll (cs.map (qUC st)) with
    | none => rw [e] at h; cases h
    | some ys => rw [e] at h; rw [qAll (fun x y => qUC_ok) _ _ e]; exact h
  · rename_i hn
    split
    · rename_i cs; exact absurd rfl (hn cs)
    · exact qUC_ok h
def qU (st : St) : AV → Option AV
  | .tup vs => (optAll (vs.map (qU1 st))).map .tup
  | x => qU1 st x
theorem qU_ok {st : St} {x y : AV} (h : qU st x = some y) : expoU st x = some y := by
  unfold qU at h
  unfold expoU
  split at h
  · rename_i cs
    simp only
    cases e : optAll (cs.map (qU1 st)) with
    | none => rw [e] at h; cases h
    | some ys => rw [e] at h; rw [qAll (fun x y => qU1_ok) _ _ e]; exact h
  · rename_i hn
    split
    · rename_i cs; exact absurd rfl (hn cs)
    · exact qU1_ok h
def ndB : List (Nat × Nat) → Bool
  | [] => true
  | p :: r => (r.all fun x => !(Nat.beq p.1 x.1 && Nat.beq p.2 x.2)) && ndB r
theorem ndB_ok : ∀ (l : List (Nat × Nat)), ndB l = true → l.Nodup
  | [], _ => List.nodup_nil
  | p :: r, h => by
    rw [ndB, Bool.and_eq_true] at h
    refine List.nodup_cons.2 ⟨fun hm => ?_, ndB_ok r h.2⟩
    have := List.all_eq_true.1 h.1 p hm
    simp at this
noncomputable def qFinK (fn : Func) (st : St) : Option AV :=
  match fn.results.toList with
  | [r] => bnd (resVal P st r) fun x => bif ndB (ownKeys x) then qU st x else none
  | rs => bnd (optAll (rs.map fun r => resVal P st r)) fun xs => bif ndB (ownKeys (.tup xs)) then qU st (.tup xs) else none
theorem qFinK_ok {fn : Func} {st : St} {y : AV} (h : qFinK P fn st = some y) : finishK P fn st = some y := by
  have key : ∀ x, (bif ndB (ownKeys x) then qU st x else none) = some y → (if (ownKeys x).Nodup then expoU st x else none) = some y := fun x h => by
    cases e : ndB (ownKeys x) with
    | false => rw [e] at h; cases h
    | true => rw [e] at h; rw [if_pos (ndB_ok _ e)]; exact qU_ok h
  unfold qFinK at h
  unfold finishK
  split at h
  · rename_i r e
    simp only [e]
    exact bnd_ok h (fun _ h => h) fun a h => key a h
  · rename_i rs hn
    split
    · rename_i r e; exact absurd e (hn r)
    · exact bnd_ok h (fun _ h => h) fun a h => key _ h
noncomputable def qFin (f : Nat) (fn : Func) (st : St) : Option AV := if Ext.keep f = true then qFinK P fn st else qFinA P fn st
theorem qFin_ok {f : Nat} {fn : Func} {st : St} {y : AV} (h : qFin P f fn st = some y) : finishF P f fn st = some y := by
  unfold qFin at h
  unfold finishF
  split at h
  · rename_i e; rw [if_pos e]; exact qFinK_ok P h
  · rename_i e; rw [if_neg e]; exact qFinA_ok P h
/-- A table of functions that may be run. -/
def OkT (P : Program) (ok : Nat → Bool) : Prop := ∀ f fn, ok f = true → P.funcs[f]? = some fn → fnOk fn = true
noncomputable def qRunF (ok : Nat → Bool) (call : Nat → List AV → Option AV) (inl : Nat → List AV → QS → Option (AV × QS)) (n f : Nat) (xs : List AV) : Option AV :=
  match P.funcs[f]? with
  | some fn =>
    bif ok f then
      match fn.body with
      | some c => bnd (qCd P (codeInl c) call inl n c (QS.init xs)) fun r => match r.1 with
        | .exit _ => none
        | _ => qFin P f fn r.2.abs
      | none => none
    else none
  | none => none
theorem qRunF_ok {ok : Nat → Bool} (hk : OkT P ok) (hx : ∀ f xs, Ext.ext f xs = none) {call : Nat → List AV → Option AV} {inl : Nat → List AV → QS → Option (AV × QS)} (hc : CallQ call (callL P)) (hi : InlQ inl (inlL P)) {n f : Nat} {xs : List AV} (hu : xs.any isUniq = false) {y : AV} (h : qRunF P ok call inl n f xs = some y) : callL P f xs = some y := by
  unfold qRunF at h
  split at h
  · rename_i fn e
    cases e3 : ok f with
    | false => rw [e3] at h; cases h
    | true =>
      rw [e3] at h
      simp only [cond_true] at h
      split at h
      · rename_i c eb
        rw [callG_eq P e eb (hk f fn e3 e) xs (hx _ _) hu, ← abs_init]
        cases e2 : qCd P (codeInl c) call inl n c (QS.init xs) with
        | none => rw [e2] at h; cases h
        | some r =>
          rw [e2] at h
          rw [qCd_ok P hc hi _ _ _ _ e2]
          obtain ⟨x, s⟩ := r
          cases x with
          | exit i => cases h
          | normal => exact qFin_ok P h
          | ret => exact qFin_ok P h
      · cases h
  · cases h
def qFinM (fn : Func) (st : St) : Option AV :=
  match fn.results.toList with
  | [r] =>
    match resVal P st r with
    | some (.own s g) =>
      match st.heap s g with
      | some (.row e sz n cs) => bif cs.all (mfr 9) then some (.uniq e sz n cs) else none
      | _ => none
    | some (.vw s g 0 k) =>
      match st.heap s g with
      | some (.row e sz n cs) => bif (Nat.ble k n && Nat.beq cs.length (n * sz)) && cs.all (mfr 9) then some (.uniq e sz k (cs.take (k * sz))) else none
      | _ => none
    | _ => none
  | _ => none
theorem qFinM_ok {fn : Func} {st : St} {y : AV} (h : qFinM P fn st = some y) : finishM P fn st = some y := by
  unfold qFinM at h
  unfold finishM
  split at h
  · rename_i r e
    simp only [e]
    split at h
    · rename_i s g er
      simp only [er]
      split at h
      · rename_i a b n cs hh
        simp only [hh]
        cases e3 : cs.all (mfr 9) with
        | false => rw [e3] at h; cases h
        | true => rw [e3] at h; rw [if_pos fun c hc => mfr_ok 9 c (List.all_eq_true.1 e3 c hc)]; exact h
      · cases h
    · rename_i s g k er
      simp only [er]
      split at h
      · rename_i a b n cs hh
        simp only [hh]
        cases e3 : ((Nat.ble k n && Nat.beq cs.length (n * b)) && cs.all (mfr 9)) with
        | false => rw [e3] at h; cases h
        | true =>
          rw [e3] at h
          rw [Bool.and_eq_true, Bool.and_eq_true] at e3
          rw [if_pos ⟨Nat.le_of_ble_eq_true e3.1.1, Nat.eq_of_beq_eq_true e3.1.2, fun c hc => mfr_ok 9 c (List.all_eq_true.1 e3.2 c hc)⟩]
          exact h
      · cases h
    · cases h
  · cases h
noncomputable def qRunM (ok : Nat → Bool) (call : Nat → List AV → Option AV) (inl : Nat → List AV → QS → Option (AV × QS)) (n f e sz m : Nat) (cs rest : List AV) : Option AV :=
  match P.funcs[f]? with
  | some fn =>
    bif ok f then
      match fn.body with
      | some c => bnd (qCd P (codeInl c) call inl n c (QS.initM e sz m cs rest)) fun r => match r.1 with
        | .exit _ => none
        | _ => qFinM P fn r.2.abs
      | none => none
    else none
  | none => none
theorem qRunM_ok {ok : Nat → Bool} (hk : OkT P ok) (hx : ∀ f xs, Ext.ext f xs = none) {call : Nat → List AV → Option AV} {inl : Nat → List AV → QS → Option (AV × QS)} (hc : CallQ call (callL P)) (hi : InlQ inl (inlL P)) {n f e sz m : Nat} {cs rest : List AV} {y : AV} (h : qRunM P ok call inl n f e sz m cs rest = some y) : callL P f (.uniq e sz m cs :: rest) = some y := by
  unfold qRunM at h
  split at h
  · rename_i fn ef
    cases e3 : ok f with
    | false => rw [e3] at h; cases h
    | true =>
      rw [e3] at h
      simp only [cond_true] at h
      split at h
      · rename_i c eb
        rw [callM_eq P ef eb (hk f fn e3 ef) _ _ _ _ _ (hx _ _), ← abs_initM]
        cases e2 : qCd P (codeInl c) call inl n c (QS.initM e sz m cs rest) with
        | none => rw [e2] at h; cases h
        | some r =>
          rw [e2] at h
          rw [qCd_ok P hc hi _ _ _ _ e2]
          obtain ⟨x, s⟩ := r
          cases x with
          | exit i => cases h
          | normal => exact qFinM_ok P h
          | ret => exact qFinM_ok P h
      · cases h
  · cases h
noncomputable def qRunI (call : Nat → List AV → Option AV) (inl : Nat → List AV → QS → Option (AV × QS)) (n f : Nat) (xs : List AV) (q : QS) : Option (AV × QS) :=
  match P.funcs[f]? with
  | some fn =>
    if fnOkB true fn = true then
      match fn.body with
      | some c => bnd (qCd P true call inl n c ((QS.init xs).back q)) fun r => match r.1 with
        | .exit _ => none
        | _ => (finishI P fn r.2.abs).map fun x => (x, r.2)
      | none => none
    else none
  | none => none
theorem qRunI_ok {call : Nat → List AV → Option AV} {inl : Nat → List AV → QS → Option (AV × QS)} (hc : CallQ call (callL P)) (hi : InlQ inl (inlL P)) {n f : Nat} {xs : List AV} {q : QS} {r : AV × QS} (h : qRunI P call inl n f xs q = some r) : inlL P f xs q.abs = some (r.1, r.2.abs) := by
  unfold qRunI at h
  split at h
  · rename_i fn ef
    split at h
    · rename_i ok
      split at h
      · rename_i c eb
        rw [inlL_eq P ef eb ok]
        cases e2 : qCd P true call inl n c ((QS.init xs).back q) with
        | none => rw [e2] at h; cases h
        | some u =>
          rw [e2] at h
          have e3 := qCd_ok P hc hi _ _ _ _ e2
          rw [abs_back, abs_init] at e3
          rw [e3]
          obtain ⟨x, s⟩ := u
          have key : ((finishI P fn s.abs).map fun x => (x, s)) = some r → ((finishI P fn s.abs).map fun x => (x, s.abs)) = some (r.1, r.2.abs) := fun h => by
            cases e4 : finishI P fn s.abs with
            | none => rw [e4] at h; cases h
            | some z => rw [e4] at h; cases h; rfl
          cases x with
          | exit i => cases h
          | normal => exact key h
          | ret => exact key h
      · cases h
    · cases h
  · cases h
noncomputable def qFI (ok : Nat → Bool) (K : Nat → List AV → Option AV) : Nat → (Nat → List AV → Option AV) × (Nat → List AV → QS → Option (AV × QS))
  | 0 => (fun _ _ => none, fun _ _ _ => none)
  | n + 1 => (fun f xs => nfLA xs fun xs =>
        match K f xs with
        | some r => some r
        | none => match headUniq xs with
        | some u => qRunM P ok (qFI ok K n).1 (qFI ok K n).2 n f u.1 u.2.1 u.2.2.1 u.2.2.2.1 u.2.2.2.2
        | none => if xs.any isUniq = true then none else qRunF P ok (qFI ok K n).1 (qFI ok K n).2 n f xs,
    fun f xs q => nfLA xs fun xs => qRunI P (qFI ok K n).1 (qFI ok K n).2 n f xs q)
theorem headUniq_some {xs : List AV} {u : Nat × Nat × Nat × List AV × List AV} (h : headUniq xs = some u) : xs = .uniq u.1 u.2.1 u.2.2.1 u.2.2.2.1 :: u.2.2.2.2 := by
  unfold headUniq at h
  split at h
  · cases h; rfl
  · cases h
theorem qFI_ok {ok : Nat → Bool} (hk : OkT P ok) (hx : ∀ f xs, Ext.ext f xs = none) {K : Nat → List AV → Option AV} (hK : CallQ K (callL P)) : ∀ n, CallQ (qFI P ok K n).1 (callL P) ∧ InlQ (qFI P ok K n).2 (inlL P)
  | 0 => ⟨fun g xs r h => (by cases h), fun g xs s r h => by cases h⟩
  | n + 1 => by
    obtain ⟨ih1, ih2⟩ := qFI_ok hk hx hK n
    refine ⟨fun g xs r h => ?_, fun g xs s r h => ?_⟩
    · simp only [qFI, nfLA_eq] at h
      split at h
      · rename_i r' e
        rw [← h]
        exact hK _ _ _ e
      · split at h
        · rename_i u e
          rw [headUniq_some e]
          exact qRunM_ok P hk hx ih1 ih2 h
        · rename_i e
          split at h
          · cases h
          · rename_i e2
            exact qRunF_ok P hk hx ih1 ih2 (by simpa using e2) h
    · simp only [qFI, nfLA_eq] at h
      exact qRunI_ok P ih1 ih2 h
def ansTrue : Option AV → Bool
  | some (.v (.bool b)) => b
  | _ => false
def noK : Nat → List AV → Option AV := fun _ _ => none
/-- A call whose run ends at true. -/
theorem callL_run {ok : Nat → Bool} (hk : OkT P ok) (hx : ∀ f xs, Ext.ext f xs = none) {K : Nat → List AV → Option AV} (hK : CallQ K (callL P)) (n : Nat) {f : Nat} {xs : List AV} (h : ansTrue ((qFI P ok K n).1 f xs) = true) : callL P f xs = some (.v (.bool true)) := by
  refine (qFI_ok P hk hx hK n).1 _ _ _ ?_
  unfold ansTrue at h
  split at h
  · rename_i b e; rw [e, h]
  · cases h
end ext
end Go.Ab
