/-
  Part Ab12 of the proof: an evaluator of the programs written in Lean once, and its soundness.
-/
import Derived.Test.YtmcjkemalibacaaAb11
set_option linter.all false
namespace Go.Ab
open Classical

section
variable {P : Program} {call : Nat → List AV → Option AV} {st st' : St} {ops : Array Oper}

theorem putRes_shape {r : AV} {dst : Option Nat} {e : Eff} (h : putRes r st dst = some e) : e.dst = dst ∧ e.upd = none ∧ ∀ d x, e.new = some (d, x) → dst = some d := by
  unfold putRes at h
  split at h
  · simp only [Option.some.injEq] at h; subst h; exact ⟨rfl, rfl, fun d x h => by simp at h⟩
  · cases dst with
    | none => cases h
    | some d => simp only [Option.some.injEq] at h; subst h; exact ⟨rfl, rfl, fun d x h => by simp at h; rw [h.1]⟩

theorem callFn_shape {g : Nat} {args : List AV} {dst : Option Nat} {e : Eff} (h : callFn call g args st dst = some e) : e.dst = dst ∧ e.upd = none ∧ ∀ d x, e.new = some (d, x) → dst = some d := by
  unfold callFn at h
  split at h
  · cases hc : call g args with
    | none => simp [hc, bnd] at h
    | some r => simp only [hc, bnd] at h; exact putRes_shape h
  · split at h
    · rename_i xs _
      cases hc : call g xs with
      | none => simp [hc, bnd] at h
      | some r =>
        simp only [hc, bnd] at h
        split at h
        · exact putRes_shape h
        · cases h
    · cases h

theorem callMv_shape {g : Nat} {args : List AV} {dst : Option Nat} {e : Eff} (h : callMv call g args st dst = some e) : e.dst = dst ∧ (∀ d x, e.new = some (d, x) → dst = some d) ∧ ∀ s k x, e.upd = some (s, k, x) → args.head? = some (.own s k) := by
  unfold callMv at h
  split at h
  · split at h
    · split at h
      · split at h
        · cases dst with
          | none => cases h
          | some d =>
            simp only [Option.some.injEq] at h; subst h
            exact ⟨rfl, fun d x h => by simp at h; rw [h.1], fun s k x h => by simp at h; simp [h.1, h.2.1]⟩
        · simp only [Option.some.injEq] at h; subst h
          exact ⟨rfl, fun d x h => by simp at h, fun s k x h => by simp at h; simp [h.1, h.2.1]⟩
        · cases h
      · cases h
    · cases h
  · split at h
    · obtain ⟨h1, h2, h3⟩ := callFn_shape h
      exact ⟨h1, h3, fun s k x h => by rw [h2] at h; cases h⟩
    · cases h

theorem callEat_shape {g : Nat} {args : List AV} {dst : Option Nat} {e : Eff} (h : callEat call g args st dst = some e) : e.dst = dst ∧ (∀ d x, e.new = some (d, x) → dst = some d) ∧ ∀ s k x, e.upd = some (s, k, x) → ∃ y ∈ args, y = .own s k ∨ ∃ cs, y = .agg cs ∧ .own s k ∈ cs := by
  unfold callEat at h
  split at h
  · rename_i s k hk
    split at h
    · split at h
      · rename_i xs _
        cases hc : call g xs with
        | none => simp [hc, bnd] at h
        | some r =>
          simp only [hc, bnd] at h
          have hu : e.upd = some (s, k, none) ∧ e.dst = dst ∧ ∀ d x, e.new = some (d, x) → dst = some d := by
            rcases eatRes_cases h with ⟨_, rfl⟩ | ⟨_, e1, sz, n, cs, d, rfl, rfl, _, rfl⟩
            · exact ⟨rfl, rfl, fun d x h => by simp at h⟩
            · exact ⟨rfl, rfl, fun d x h => by simp at h; rw [h.1]⟩
          · refine ⟨hu.2.1, hu.2.2, fun s' k' x h => ?_⟩
            rw [hu.1] at h
            simp only [Option.some.injEq, Prod.mk.injEq] at h
            obtain ⟨rfl, rfl, _⟩ := h
            have hm : (s, k) ∈ args.flatMap ownKeys1 := by rw [hk]; simp
            obtain ⟨y, hy, hyk⟩ := List.mem_flatMap.1 hm
            refine ⟨y, hy, ?_⟩
            have key : ∀ c, (s, k) ∈ ownKey c → c = .own s k := fun c hc => by
              cases c <;> simp [ownKey] at hc
              obtain ⟨rfl, rfl⟩ := hc
              rfl
            cases y with
            | agg cs =>
              obtain ⟨c, hc, hck⟩ := List.mem_flatMap.1 (show (s, k) ∈ cs.flatMap ownKey from hyk)
              exact .inr ⟨cs, rfl, by rw [← key c hck]; exact hc⟩
            | own a b => exact .inl (key _ hyk)
            | _ => simp [ownKeys1, ownKey] at hyk
      · cases h
    · cases h
  · obtain ⟨h1, h2, h3⟩ := callFn_shape h
    exact ⟨h1, h3, fun s k x h => by rw [h2] at h; cases h⟩

theorem apply_env (e : Eff) (t : Nat) : (e.apply st).env t = if e.dst = some t then e.val else st.env t := by
  have h2 : ∀ (s1 : St), (s1.put e.dst e.val).env t = if e.dst = some t then e.val else s1.env t := fun s1 => by
    cases hd : e.dst with
    | none => simp [St.put]
    | some d =>
      simp only [St.put, Option.some.injEq]
      by_cases h : t = d
      · subst h; simp
      · rw [if_neg h, if_neg (fun h' => h h'.symm)]
  unfold Eff.apply
  rw [h2]
  cases e.upd <;> cases e.new <;> rfl

theorem apply_cnt (e : Eff) (s : Nat) : (e.apply st).cnt s = match e.new with
    | some (d, es) => if s = d then st.cnt d + es.length else st.cnt s
    | none => st.cnt s := by
  unfold Eff.apply
  rw [put_cnt]
  cases e.upd <;> cases e.new <;> rfl

theorem apply_heap (e : Eff) (s g : Nat) : (e.apply st).heap s g = match e.new with
    | some (d, es) => if s = d ∧ st.cnt d ≤ g ∧ g - st.cnt d < es.length then es[g - st.cnt d]? else (match e.upd with
      | some (s0, g0, y) => if s = s0 ∧ g = g0 then y else st.heap s g
      | none => st.heap s g)
    | none => (match e.upd with
      | some (s0, g0, y) => if s = s0 ∧ g = g0 then y else st.heap s g
      | none => st.heap s g) := by
  unfold Eff.apply
  rw [put_heap]
  cases e.upd <;> cases e.new <;> rfl

theorem looksAt_spec {o : Oper} {t : Nat} (h : t ∉ o.looksAt ops) : (∀ p ∈ o.op.operands, p ≠ .tmp t) ∧ (∀ j want d, o.guard = some (j, want) → (ops[j]?).bind (·.dst) = some d → d ≠ t) := by
  unfold Oper.looksAt at h
  simp only [List.mem_append, not_or] at h
  refine ⟨fun p hp he => ?_, fun j want d hg hd he => ?_⟩
  · subst he
    exact h.1 (List.mem_filterMap.2 ⟨.tmp t, by simpa using hp, rfl⟩)
  · subst he
    apply h.2
    rw [hg]
    simp [hd]

theorem gv_congr {o : Oper} (h : ∀ j want d, o.guard = some (j, want) → (ops[j]?).bind (·.dst) = some d → st'.env d = st.env d) : gv ops st' o.guard = gv ops st o.guard := by
  unfold gv
  cases hg : o.guard with
  | none => rfl
  | some jw =>
    obtain ⟨j, want⟩ := jw
    simp only
    cases hd : (ops[j]?).bind (·.dst) with
    | none => rfl
    | some d => simp only [h j want d hg hd]

theorem st_ext {a b : St} (h1 : a.env = b.env) (h2 : a.heap = b.heap) (h3 : a.cnt = b.cnt) : a = b := by
  cases a; cases b; simp_all

theorem appendV_at {T : Nat} {p x : AV} {u : Nat × Nat × Ent × Nat} (h : appendV P st T p x = some u) : ∃ n, p = .vw u.1 u.2.1 0 n := by
  unfold appendV at h
  split at h
  · split at h
    · split at h
      · simp only [Option.some.injEq] at h
        subst h
        exact ⟨_, rfl⟩
      · cases h
    · cases h
  · cases h
theorem clearA_at {T : Nat} {p : AV} {u : Nat × Nat × Ent} (h : clearA P st T p = some (some u)) : ∃ o n, p = .vw u.1 u.2.1 o n := by
  unfold clearA at h
  split at h
  · split at h
    · split at h
      · simp only [Option.some.injEq] at h
        subst h
        exact ⟨_, _, rfl⟩
      · cases h
    · cases h
  · simp at h
  · simp at h
  · cases h
variable [Ext]
/-- What an operation's effect looks like. -/
theorem opEff_shape {o : Oper} {e : Eff} (h : opEff P call o st = some e) :
    e.dst = o.dst ∧ (∀ d x, e.new = some (d, x) → o.dst = some d) ∧ (∀ s g x, e.upd = some (s, g, x) → opClass ops o = 3 ∧ ∃ p ∈ o.op.operands, (∃ off, st.ev p = .ptr s g off) ∨ st.ev p = .own s g ∨ st.ev p = .mp s g ∨ (∃ cs, st.ev p = .agg cs ∧ .own s g ∈ cs) ∨ ∃ o n, st.ev p = .vw s g o n) := by
  obtain ⟨dst, op, type, pos, after, guard⟩ := o
  have val : ∀ x : Option AV, (x.map fun y => ({ dst := dst, val := y } : Eff)) = some e → e.dst = dst ∧ (∀ d x, e.new = some (d, x) → dst = some d) ∧ (∀ s g x, e.upd ≠ some (s, g, x)) := fun x h => by
    cases x with
    | none => simp at h
    | some y => simp at h; subst h; exact ⟨rfl, fun d x h => by simp at h, fun s g x h => by simp at h⟩
  cases op
  case call c =>
    simp only [opEff] at h
    unfold callEff at h
    split at h
    · rename_i f hc
      unfold callVal at h
      split at h
      · rename_i g
        split at h
        · rename_i hmv
          obtain ⟨h1, h2, h3⟩ := callMv_shape h
          refine ⟨h1, h2, fun s k x hu => ?_⟩
          have hh := h3 s k x hu
          obtain ⟨callee, args, ats⟩ := c
          simp only at hc hh
          subst hc
          cases hl : args.toList with
          | nil => rw [hl] at hh; simp at hh
          | cons p ps =>
            rw [hl] at hh
            simp only [List.map_cons, List.head?_cons, Option.some.injEq] at hh
            refine ⟨?_, p, ?_, .inr (.inl hh)⟩
            · simp only [opClass, hl, hmv]
              cases p with
              | const v => simp [St.ev] at hh
              | _ => simp
            simp only [Op.operands, Call.operands]
            simp
            right
            rw [← Array.mem_toList_iff, hl]
            simp
        · split at h
          · rename_i heat
            obtain ⟨h1, h2, h3⟩ := callEat_shape h
            refine ⟨h1, h2, fun s k x hu => ?_⟩
            obtain ⟨y, hy, hyo⟩ := h3 s k x hu
            obtain ⟨callee, args, ats⟩ := c
            simp only at hc hy
            subst hc
            refine ⟨by simp [opClass, heat], ?_⟩
            obtain ⟨p, hp, rfl⟩ := List.mem_map.1 hy
            refine ⟨p, ?_, ?_⟩
            · simp only [Op.operands, Call.operands]
              simp
              right
              simpa using hp
            · rcases hyo with h | ⟨cs, h, hm⟩
              · exact .inr (.inl h)
              · exact .inr (.inr (.inr (.inl ⟨cs, h, hm⟩)))
          · obtain ⟨h1, h2, h3⟩ := callFn_shape h
            exact ⟨h1, h3, fun s g x h => by rw [h2] at h; cases h⟩
      · split at h
        · obtain ⟨h1, h2, h3⟩ := callFn_shape h
          exact ⟨h1, h3, fun s g x h => by rw [h2] at h; cases h⟩
        · cases h
    · split at h
      · split at h
        · simp only [Option.some.injEq] at h; subst h; exact ⟨rfl, fun d x h => by simp at h, fun s g x h => by simp at h⟩
        · cases h
      · cases h
    · split at h
      · split at h
        · simp only [Option.some.injEq] at h; subst h; exact ⟨rfl, fun d x h => by simp at h, fun s g x h => by simp at h⟩
        · cases h
      · cases h
    · split at h
      · split at h
        · simp only [Option.some.injEq] at h; subst h; exact ⟨rfl, fun d x h => by simp at h, fun s g x h => by simp at h⟩
        · cases h
      · cases h
    · rename_i hc
      cases dst with
      | none => simp [bnd] at h
      | some d =>
        simp only [bnd] at h
        split at h
        · rename_i s x T T' hx hT
          split at h
          · split at h
            · cases hap : appendV P st T (st.ev s) (st.ev x) with
              | none => simp [hap] at h
              | some u =>
              simp only [hap, Option.map_some, Option.some.injEq] at h
              subst h
              refine ⟨rfl, nofun, fun s' g' x' hu => ?_⟩
              simp only [Option.some.injEq, Prod.mk.injEq] at hu
              obtain ⟨rfl, rfl, rfl⟩ := hu
              obtain ⟨n0, hown⟩ := appendV_at hap
              refine ⟨?_, s, ?_, .inr (.inr (.inr (.inr ⟨0, n0, hown⟩)))⟩
              · obtain ⟨callee, args, ats⟩ := c
                simp only at hc hx
                subst hc
                simp only [opClass, hx]
                cases s with
                | const v =>
                  simp [St.ev] at hown
                | _ => rfl
              · simp only [Op.operands, Call.operands, hc]
                simp
                rw [← Array.mem_toList_iff, hx]
                simp
            split at h
            · simp only [Option.some.injEq] at h
              subst h
              exact ⟨rfl, nofun, nofun⟩
            cases hap : appendA P st T (st.ev s) (st.ev x) with
            | none => simp [hap] at h
            | some ur =>
              obtain ⟨u, r⟩ := ur
              simp only [hap, Option.some.injEq] at h
              subst h
              refine ⟨rfl, fun d x h => by simp at h; rw [h.1], fun s' g' x' hu => ?_⟩
              simp only [Option.map_eq_some_iff] at hu
              obtain ⟨⟨s2, g2⟩, hu1, hu2⟩ := hu
              simp only [Prod.mk.injEq] at hu2
              obtain ⟨rfl, rfl, rfl⟩ := hu2
              subst hu1
              have hown : st.ev s = .own s2 g2 := by
                unfold appendA at hap
                split at hap
                · split at hap
                  · split at hap
                    · split at hap
                      · split at hap <;> simp at hap
                      · rename_i s3 g3 hs3
                        split at hap
                        · split at hap
                          · simp only [Option.some.injEq, Prod.mk.injEq] at hap
                            obtain ⟨⟨rfl, rfl⟩, _⟩ := hap
                            exact hs3
                          · cases hap
                        · cases hap
                      · split at hap <;> simp at hap
                      · cases hap
                    · cases hap
                  · cases hap
                · cases hap
              refine ⟨?_, s, ?_, .inr (.inl hown)⟩
              · obtain ⟨callee, args, ats⟩ := c
                simp only at hc hx
                subst hc
                simp only [opClass, hx]
                cases s with
                | const v =>
                  simp [St.ev] at hown
                | _ => rfl
              · simp only [Op.operands, Call.operands, hc]
                simp
                rw [← Array.mem_toList_iff, hx]
                simp
          · cases h
        · cases h
    · rename_i hc
      split at h
      · rename_i x T hx hT
        cases hap : clearA P st T (st.ev x) with
        | none => simp [hap] at h
        | some u =>
          simp only [hap, Option.map_some, Option.some.injEq] at h
          subst h
          refine ⟨rfl, nofun, fun s' g' x' hu => ?_⟩
          simp only [Option.map_eq_some_iff, Prod.mk.injEq] at hu
          obtain ⟨p, rfl, rfl, rfl, _⟩ := hu
          obtain ⟨o, n, hown⟩ := clearA_at hap
          refine ⟨?_, x, ?_, .inr (.inr (.inr (.inr ⟨o, n, hown⟩)))⟩
          · obtain ⟨callee, args, ats⟩ := c
            simp only at hc
            subst hc
            rfl
          · simp only [Op.operands, Call.operands, hc]
            simp
            rw [← Array.mem_toList_iff, hx]
            simp
      · cases h
    · cases h
  case store T x y =>
    simp only [opEff] at h
    cases hs : storeA P st T (st.ev x) (st.ev y) with
    | none => simp [hs] at h
    | some u =>
      obtain ⟨s, g, e'⟩ := u
      simp only [hs, Option.map_some, Option.some.injEq] at h
      subst h
      refine ⟨rfl, fun d x h => by simp at h, fun s' g' x' hu => ⟨rfl, x, by simp [Op.operands], .inl ?_⟩⟩
      simp only [Option.some.injEq, Prod.mk.injEq] at hu
      obtain ⟨rfl, rfl, _⟩ := hu
      unfold storeA at hs
      split at hs
      · rename_i s1 g1 o1 hp
        refine ⟨o1, ?_⟩
        rw [hp]
        split at hs
        · split at hs
          · split at hs
            · split at hs
              · simp only [Option.some.injEq, Prod.mk.injEq] at hs; rw [hs.1, hs.2.1]
              · cases hs
            · split at hs
              · simp only [Option.some.injEq, Prod.mk.injEq] at hs; rw [hs.1, hs.2.1]
              · cases hs
            · cases hs
          · cases hs
        · cases hs
      · cases hs
  case alloc T =>
    simp only [opEff] at h
    cases dst with
    | none => simp [bnd] at h
    | some d => cases hz : zeroL P T with
      | none => simp [hz, bnd] at h
      | some z => simp only [hz, bnd, Option.some.injEq] at h; subst h; exact ⟨rfl, fun d x h => by simp at h; rw [h.1], fun s g x h => by simp at h⟩
  case box T x =>
    simp only [opEff] at h
    cases dst with
    | none => simp [bnd] at h
    | some d =>
      simp only [bnd] at h
      split at h
      · simp only [Option.some.injEq] at h; subst h; exact ⟨rfl, fun d x h => by simp at h; rw [h.1], fun s g x h => by simp at h⟩
      · cases h
  case buildSlice T n parts =>
    simp only [opEff] at h
    cases dst with
    | none => simp [bnd] at h
    | some d => cases hs : slInfo P T with
      | none => simp [hs, bnd] at h
      | some t => cases hz : zeroL P t.1 with
        | none => simp [hs, hz, bnd] at h
        | some z =>
          simp only [hs, hz, bnd] at h
          split at h
          · cases hf : fillA (fun i => some (i * t.2.1, t.2.1)) ((List.range n).flatMap fun _ => z.map .v) (parts.toList.map fun p => (p.1, st.ev p.2)) with
            | none => simp [hf] at h
            | some cs => simp only [hf, Option.some.injEq] at h; subst h; exact ⟨rfl, fun d x h => by simp at h; rw [h.1], fun s g x h => by simp at h⟩
          · cases h
  case makeSlice T l c =>
    simp only [opEff] at h
    cases dst with
    | none => simp [bnd] at h
    | some d => cases hs : slInfo P T with
      | none => simp [hs, bnd] at h
      | some t => cases hz : zeroL P t.1 with
        | none => simp [hs, hz, bnd] at h
        | some z =>
          simp only [hs, hz, bnd] at h
          split at h
          · split at h
            · simp only [Option.some.injEq] at h; subst h; exact ⟨rfl, fun d x h => by simp at h; rw [h.1], fun s g x h => by simp at h⟩
            · cases h
          · cases h
  case makeMap T r =>
    cases r with
    | none =>
      simp only [opEff] at h
      cases dst with
      | none => simp [bnd] at h
      | some d => simp only [bnd, Option.some.injEq] at h; subst h; exact ⟨rfl, fun d x h => by simp at h; rw [h.1], fun s g x h => by simp at h⟩
    | some r =>
      simp only [opEff] at h
      obtain ⟨h1, h2, h3⟩ := val _ h
      exact ⟨h1, h2, fun s g x hu => absurd hu (h3 s g x)⟩
  case mapUpdate T m x y =>
    simp only [opEff] at h
    cases hs : mapSetA P st T (st.ev m) (st.ev x) (st.ev y) with
    | none => simp [hs] at h
    | some u =>
      obtain ⟨s, g, e'⟩ := u
      simp only [hs, Option.map_some, Option.some.injEq] at h
      subst h
      refine ⟨rfl, fun d x h => by simp at h, fun s' g' x' hu => ⟨rfl, m, by simp [Op.operands], .inr (.inr (.inl ?_))⟩⟩
      simp only [Option.some.injEq, Prod.mk.injEq] at hu
      obtain ⟨rfl, rfl, _⟩ := hu
      unfold mapSetA at hs
      split at hs
      · rename_i s1 g1 hp
        rw [hp]
        split at hs
        · split at hs
          · simp only [Option.some.injEq, Prod.mk.injEq] at hs; rw [hs.1, hs.2.1]
          · cases hs
        · cases hs
      · cases hs
  all_goals
    simp only [opEff] at h
    obtain ⟨h1, h2, h3⟩ := val _ h
    exact ⟨h1, h2, fun s g x hu => absurd hu (h3 s g x)⟩

/-- One operation, guard and all, as an effect. -/
noncomputable def evEff (P : Program) (call : Nat → List AV → Option AV) (ops : Array Oper) (o : Oper) (st : St) : Option Eff :=
  match gv ops st o.guard with
  | some b => if b = true then opEff P call o st else some { dst := o.dst, val := .v undef }
  | none => none

theorem evOp_eq (o : Oper) : evOp P call ops o st = (evEff P call ops o st).map fun e => e.apply st := by
  unfold evOp evEff
  cases gv ops st o.guard with
  | none => rfl
  | some b => cases b <;> rfl

theorem evEff_shape {o : Oper} {e : Eff} (h : evEff P call ops o st = some e) :
    e.dst = o.dst ∧ (∀ d x, e.new = some (d, x) → o.dst = some d) ∧ (∀ s g x, e.upd = some (s, g, x) → opClass ops o = 3 ∧ ∃ p ∈ o.op.operands, (∃ off, st.ev p = .ptr s g off) ∨ st.ev p = .own s g ∨ st.ev p = .mp s g ∨ (∃ cs, st.ev p = .agg cs ∧ .own s g ∈ cs) ∨ ∃ o n, st.ev p = .vw s g o n) := by
  unfold evEff at h
  split at h
  · split at h
    · exact opEff_shape h
    · simp only [Option.some.injEq] at h; subst h; exact ⟨rfl, fun d x h => by simp at h, fun s g x h => by simp at h⟩
  · cases h

/-- An operation's effect does not change by what an operation does that stands apart. -/
theorem evEff_other (hp : HpOk st) {x y : Oper} {ex : Eff} (hap : apartOk ops x y = true ∨ apartOk ops y x = true) (hid : ∀ t, IdOk st.cnt (st.env t)) (hx : evEff P call ops x st = some ex) :
    evEff P call ops y (ex.apply st) = evEff P call ops y st := by
  obtain ⟨sd, sn, su⟩ := evEff_shape hx
  have hlook : (∀ d, x.dst = some d → d ∉ y.looksAt ops) ∧ (∀ d, x.dst = some d → y.dst ≠ some d) := by
    rcases hap with h | h
    · simp only [apartOk, Bool.and_eq_true] at h
      obtain ⟨h1, h2, _⟩ := Oper.apart_spec h.1
      exact ⟨h1, h2⟩
    · simp only [apartOk, Bool.and_eq_true] at h
      obtain ⟨_, h2, h3⟩ := Oper.apart_spec h.1
      exact ⟨h3, fun d hd hy => h2 d hy hd⟩
  have henv : ∀ t, t ∈ y.looksAt ops → (ex.apply st).env t = st.env t := fun t ht => by
    rw [apply_env, if_neg]
    intro h
    rw [sd] at h
    exact hlook.1 t h ht
  have hev : ∀ p ∈ y.op.operands, (ex.apply st).ev p = st.ev p := fun p hp => by
    cases p with
    | tmp t => exact henv t (by unfold Oper.looksAt; exact List.mem_append_left _ (List.mem_filterMap.2 ⟨.tmp t, by simpa using hp, rfl⟩))
    | _ => rfl
  have hgv : gv ops (ex.apply st) y.guard = gv ops st y.guard := gv_congr fun j want d hg hd => henv d (by
    unfold Oper.looksAt
    apply List.mem_append_right
    rw [hg]
    simp [hd])
  have hcnt : ∀ d, y.dst = some d → (ex.apply st).cnt d = st.cnt d := fun d hd => by
    rw [apply_cnt]
    split
    · rename_i d' z hn
      have := sn d' z hn
      rw [if_neg]
      rintro rfl
      exact hlook.2 d this hd
    · rfl
  have hidp : ∀ p ∈ y.op.operands, IdOk st.cnt (st.ev p) := fun p hp => by
    cases p with
    | tmp t => exact hid t
    | const v => exact ⟨⟨fun _ _ => False, fun _ _ => undef, st.cnt⟩, v, rfl, .v v⟩
    | global g => exact ⟨⟨fun _ _ => False, fun _ _ => undef, st.cnt⟩, _, rfl, .v _⟩
    | func f => exact ⟨⟨fun _ _ => False, fun _ _ => undef, st.cnt⟩, _, rfl, .v _⟩
  have hop : opEff P call y (ex.apply st) = opEff P call y st := by
    by_cases h3 : opClass ops x = 3
    · refine opEff_congr0 (ops := ops) ?_ hev hcnt
      have hle : opClass ops y = 0 ∨ opClass ops y = 1 ∨ opClass ops y = 2 ∨ opClass ops y = 3 ∨ opClass ops y = 4 := by
        unfold opClass
        split <;> (try split) <;> (try split) <;> (try split) <;> simp
      rcases hap with h | h <;> simp only [apartOk, Bool.and_eq_true, h3] at h <;> rcases hle with e | e | e | e | e <;> simp [e] at h ⊢
    · have hnu : ex.upd = none := by
        cases hu : ex.upd with
        | none => rfl
        | some sgx => exact absurd (su sgx.1 sgx.2.1 sgx.2.2 hu).1 h3
      refine opEff_congr hp hev hidp (fun s g hlt => ?_) hcnt
      rw [apply_heap, hnu]
      split
      · rename_i d z hn
        rw [if_neg]
        rintro ⟨rfl, h, _⟩
        omega
      · rfl
  unfold evEff
  rw [hgv, hop]

theorem upd_id {o : Oper} {e : Eff} {s g : Nat} {z : Option Ent} (hid : ∀ t, IdOk st.cnt (st.env t)) (h : evEff P call ops o st = some e) (hu : e.upd = some (s, g, z)) : g < st.cnt s := by
  obtain ⟨_, _, su⟩ := evEff_shape h
  obtain ⟨_, p, hp, hv⟩ := su s g z hu
  have hidp : IdOk st.cnt (st.ev p) := by
    cases p with
    | tmp t => exact hid t
    | const v => exact ⟨⟨fun _ _ => False, fun _ _ => undef, st.cnt⟩, v, rfl, .v v⟩
    | global g => exact ⟨⟨fun _ _ => False, fun _ _ => undef, st.cnt⟩, _, rfl, .v _⟩
    | func f => exact ⟨⟨fun _ _ => False, fun _ _ => undef, st.cnt⟩, _, rfl, .v _⟩
  rcases hv with ⟨off, hv⟩ | hv | hv | ⟨cs, hv, hm⟩ | ⟨o, n, hv⟩
  · rw [hv] at hidp; exact hidp.ptr
  · rw [hv] at hidp; exact hidp.own
  · rw [hv] at hidp; exact hidp.mp
  · rw [hv] at hidp; exact (hidp.agg _ hm).own
  · rw [hv] at hidp; exact hidp.vw

/-- Two operations that stand apart may change places. -/
theorem ev_comm (hp : HpOk st) {x y : Oper} (hap : apartOk ops x y = true) (hid : ∀ t, IdOk st.cnt (st.env t)) {s1 s2 : St} (hx : evOp P call ops x st = some s1) (hy : evOp P call ops y s1 = some s2) :
    ∃ s3, evOp P call ops y st = some s3 ∧ evOp P call ops x s3 = some s2 := by
  rw [evOp_eq] at hx hy
  cases hex : evEff P call ops x st with
  | none => simp [hex] at hx
  | some ex =>
    simp only [hex, Option.map_some, Option.some.injEq] at hx
    subst hx
    rw [evEff_other hp (.inl hap) hid hex] at hy
    cases hey : evEff P call ops y st with
    | none => simp [hey] at hy
    | some ey =>
      simp only [hey, Option.map_some, Option.some.injEq] at hy
      subst hy
      refine ⟨ey.apply st, by rw [evOp_eq, hey]; rfl, ?_⟩
      rw [evOp_eq, evEff_other hp (.inr hap) hid hey, hex]
      simp only [Option.map_some, Option.some.injEq]
      obtain ⟨dx, nx, ux⟩ := evEff_shape hex
      obtain ⟨dy, ny, uy⟩ := evEff_shape hey
      have hd : ∀ d, x.dst = some d → y.dst ≠ some d := by
        simp only [apartOk, Bool.and_eq_true] at hap
        exact (Oper.apart_spec hap.1).2.1
      have hcl : ¬ (ex.upd ≠ none ∧ ey.upd ≠ none) := by
        rintro ⟨h1, h2⟩
        cases hu : ex.upd with
        | none => exact h1 hu
        | some a => cases hv : ey.upd with
          | none => exact h2 hv
          | some b =>
            have e1 := (ux a.1 a.2.1 a.2.2 hu).1
            have e2 := (uy b.1 b.2.1 b.2.2 hv).1
            simp [apartOk, e1, e2] at hap
      apply st_ext
      · funext t
        rw [apply_env, apply_env, apply_env, apply_env, dx, dy]
        by_cases h1 : x.dst = some t
        · rw [if_pos h1, if_pos h1, if_neg (hd t h1)]
        · rw [if_neg h1, if_neg h1]
      · funext s g
        rw [apply_heap, apply_heap, apply_heap, apply_heap]
        have cx : ∀ d z, ey.new = some (d, z) → (ex.apply st).cnt d = st.cnt d := fun d z hn => by
          rw [apply_cnt]
          split
          · rename_i d' z' hn'
            rw [if_neg]
            rintro rfl
            exact hd _ (nx _ _ hn') (ny _ _ hn)
          · rfl
        have cy : ∀ d z, ex.new = some (d, z) → (ey.apply st).cnt d = st.cnt d := fun d z hn => by
          rw [apply_cnt]
          split
          · rename_i d' z' hn'
            rw [if_neg]
            rintro rfl
            exact hd _ (nx _ _ hn) (ny _ _ hn')
          · rfl
        cases hnx : ex.new with
        | none =>
          cases hny : ey.new with
          | none =>
            cases hux : ex.upd with
            | none => rfl
            | some a => cases huy : ey.upd with
              | none => rfl
              | some b => exact absurd ⟨by rw [hux]; simp, by rw [huy]; simp⟩ hcl
          | some b =>
            obtain ⟨d, z⟩ := b
            simp only [cx d z hny]
            cases hux : ex.upd with
            | none => rfl
            | some a =>
              obtain ⟨s0, g0, e0⟩ := a
              have hlt := upd_id hid hex hux
              cases huy : ey.upd with
              | none =>
                simp only
                by_cases h1 : s = d ∧ st.cnt d ≤ g ∧ g - st.cnt d < z.length
                · rw [if_neg (by obtain ⟨rfl, ha, hb⟩ := h1; rintro ⟨rfl, rfl⟩; omega), if_pos h1, if_pos h1]
                · rw [if_neg h1, if_neg h1]
              | some b => exact absurd ⟨by rw [hux]; simp, by rw [huy]; simp⟩ hcl
        | some a =>
          obtain ⟨d, z⟩ := a
          cases hny : ey.new with
          | none =>
            simp only [cy d z hnx]
            cases huy : ey.upd with
            | none => rfl
            | some a =>
              obtain ⟨s0, g0, e0⟩ := a
              have hlt := upd_id hid hey huy
              cases hux : ex.upd with
              | none =>
                simp only
                by_cases h1 : s = d ∧ st.cnt d ≤ g ∧ g - st.cnt d < z.length
                · rw [if_pos h1, if_neg (by obtain ⟨rfl, ha, hb⟩ := h1; rintro ⟨rfl, rfl⟩; omega), if_pos h1]
                · rw [if_neg h1, if_neg h1]
              | some b => exact absurd ⟨by rw [hux]; simp, by rw [huy]; simp⟩ hcl
          | some b =>
            obtain ⟨d', z'⟩ := b
            simp only [cy d z hnx, cx d' z' hny]
            have hdd : d ≠ d' := by
              rintro rfl
              exact hd _ (nx _ _ hnx) (ny _ _ hny)
            cases hux : ex.upd with
            | none =>
              cases huy : ey.upd with
              | none =>
                simp only
                by_cases h1 : s = d ∧ st.cnt d ≤ g ∧ g - st.cnt d < z.length
                · rw [if_pos h1, if_pos h1, if_neg (fun h => hdd (h1.1.symm.trans h.1))]
                · rw [if_neg h1, if_neg h1]
              | some b =>
                obtain ⟨s0, g0, e0⟩ := b
                have hlt := upd_id hid hey huy
                simp only
                by_cases h1 : s = d ∧ st.cnt d ≤ g ∧ g - st.cnt d < z.length
                · rw [if_pos h1, if_pos h1, if_neg (fun h => hdd (h1.1.symm.trans h.1)), if_neg (by obtain ⟨rfl, ha, hb⟩ := h1; rintro ⟨rfl, rfl⟩; omega)]
                · rw [if_neg h1, if_neg h1]
            | some a =>
              obtain ⟨s0, g0, e0⟩ := a
              have hlt := upd_id hid hex hux
              cases huy : ey.upd with
              | none =>
                simp only
                by_cases h1 : s = d ∧ st.cnt d ≤ g ∧ g - st.cnt d < z.length
                · rw [if_pos h1, if_pos h1, if_neg (fun h => hdd (h1.1.symm.trans h.1))]
                · rw [if_neg h1, if_neg h1]
                  by_cases h2 : s = d' ∧ st.cnt d' ≤ g ∧ g - st.cnt d' < z'.length
                  · rw [if_pos h2, if_neg (by obtain ⟨rfl, ha, hb⟩ := h2; rintro ⟨rfl, rfl⟩; omega), if_pos h2]
                  · rw [if_neg h2, if_neg h2]
              | some b => exact absurd ⟨by rw [hux]; simp, by rw [huy]; simp⟩ hcl
      · funext s
        cases hnx : ex.new with
        | none => cases hny : ey.new <;> simp only [apply_cnt, hnx, hny]
        | some a =>
          obtain ⟨d, z⟩ := a
          cases hny : ey.new with
          | none => simp only [apply_cnt, hnx, hny]
          | some b =>
            obtain ⟨d', z'⟩ := b
            have hdd : d ≠ d' := by
              rintro rfl
              exact hd _ (nx _ _ hnx) (ny _ _ hny)
            simp only [apply_cnt, hnx, hny]
            rw [if_neg hdd, if_neg (Ne.symm hdd)]
            by_cases h1 : s = d
            · subst h1; rw [if_neg hdd, if_pos rfl, if_neg hdd]
            · rw [if_neg h1, if_neg h1]
/-- The heaps agree at what a value names. -/
def KeyEq (st st' : St) (x : AV) : Prop := ∀ s g, keyOf x = some (some (s, g)) → st'.heap s g = st.heap s g
theorem readAt_key {x : AV} (h : KeyEq st st' x) : readAt st' x = readAt st x := by
  cases x <;> simp only [readAt]
  rw [h _ _ rfl]
theorem sliceView_key {x : AV} (h : KeyEq st st' x) : sliceView st' x = sliceView st x := by
  cases x
  case own => simp only [sliceView, h _ _ rfl]
  case vw => simp only [sliceView, h _ _ rfl]
  case v y =>
    cases y
    case slice p n c => cases p <;> cases n <;> cases c <;> rfl
    all_goals rfl
  all_goals rfl
theorem indexAddrA_key {T : Nat} {x i : AV} (h : KeyEq st st' x) : indexAddrA P st' T x i = indexAddrA P st T x i := by
  unfold indexAddrA
  cases x <;> try rfl
  simp only [h _ _ rfl]
theorem storeA_key {T : Nat} {x y : AV} (h : KeyEq st st' x) : storeA P st' T x y = storeA P st T x y := by
  unfold storeA
  cases x <;> try rfl
  simp only [h _ _ rfl]
theorem sliceA_key {T : Nat} {x : AV} {lo hi : Option Operand} (hx : KeyEq st st' x) (hl : ∀ p, lo = some p → st'.ev p = st.ev p) (hi' : ∀ p, hi = some p → st'.ev p = st.ev p) : sliceA P st' T x lo hi = sliceA P st T x lo hi :=
  sliceA_dep (fun s g h => by
    rcases h with ⟨o, rfl⟩ | rfl | ⟨o, n, rfl⟩ <;> exact hx _ _ rfl) hl hi'
theorem appendA_key {T : Nat} {s x : AV} (hs : KeyEq st st' s) (hx : KeyEq st st' x) : appendA P st' T s x = appendA P st T s x := by
  unfold appendA
  rw [sliceView_key hx]
  cases s
  case own => simp only [hs _ _ rfl]
  case v y =>
    cases y
    case slice p n c => cases p <;> cases n <;> cases c <;> rfl
    all_goals rfl
  all_goals rfl
theorem appendV_key {T : Nat} {s x : AV} (hs : KeyEq st st' s) (hx : KeyEq st st' x) : appendV P st' T s x = appendV P st T s x := by
  unfold appendV
  rw [sliceView_key hx]
  cases slInfo P T with
  | none => rfl
  | some t => cases sliceView st x with
    | none => rfl
    | some mn =>
      cases s <;> try rfl
      case vw s g o n =>
        cases o with
        | zero => simp only [hs _ _ rfl]
        | succ o => rfl
theorem putRes_key {r : AV} {dst : Option Nat} (hc : ∀ d, dst = some d → st'.cnt d = st.cnt d) : putRes r st' dst = putRes r st dst := by
  unfold putRes
  cases dst with
  | none => rfl
  | some d => simp only [hc d rfl]
theorem callMv_key {g : Nat} {x : AV} {args : List AV} {dst : Option Nat} (hx : KeyEq st st' x) (hc : ∀ d, dst = some d → st'.cnt d = st.cnt d) : callMv call g (x :: args) st' dst = callMv call g (x :: args) st dst := by
  unfold callMv
  split
  · rename_i s k rest heq
    simp only [List.cons.injEq] at heq
    obtain ⟨rfl, rfl⟩ := heq
    rw [hx _ _ rfl]
    cases dst with
    | none => rfl
    | some d => simp only [hc d rfl]
  · split
    · rename_i hf
      unfold callFn
      rw [if_pos hf, if_pos hf]
      have h2 : ∀ r, putRes r st' dst = putRes r st dst := fun r => putRes_key hc
      simp only [h2]
    · rfl

theorem keyRegs_guard {o : Oper} {as : List Nat} (h : keyRegs o = some as) : o.guard = none := by
  unfold keyRegs at h
  split at h
  · cases h
  · assumption
theorem mem_eff {o : Oper} {as : List Nat} (ha : keyRegs o = some as) : evEff P call ops o st = opEff P call o st := by
  unfold evEff
  rw [keyRegs_guard ha]
  rfl

/-- The operations that touch but what these registers name. -/
inductive KeyOp : Op → List Nat → Prop
  | load (T a : Nat) : KeyOp (.load T (.tmp a)) [a]
  | store (T a : Nat) (x : Operand) : KeyOp (.store T (.tmp a) x) [a]
  | indexAddr (T a : Nat) (x : Operand) : KeyOp (.indexAddr T (.tmp a) x) [a]
  | slice (T a : Nat) (lo hi mx : Option Operand) : KeyOp (.slice T (.tmp a) lo hi mx) [a]
  | len (a : Nat) (args : Array Operand) (ats : Array Nat) (h : args.toList = [.tmp a]) : KeyOp (.call ⟨.builtin .len, args, ats⟩) [a]
  | append (a b : Nat) (args : Array Operand) (ats : Array Nat) (h : args.toList = [.tmp a, .tmp b]) : KeyOp (.call ⟨.builtin .append, args, ats⟩) [a, b]
  | mv (g a : Nat) (r : List Operand) (args : Array Operand) (ats : Array Nat) (h : args.toList = .tmp a :: r) (hg : Ext.mv g = true) : KeyOp (.call ⟨.value (.func g), args, ats⟩) [a]
theorem keyRegs_spec {o : Oper} {as : List Nat} (h : keyRegs o = some as) : KeyOp o.op as := by
  unfold keyRegs at h
  split at h
  · cases h
  · split at h
    · rename_i T a ho; simp only [Option.some.injEq] at h; subst h; rw [ho]; exact .load T a
    · rename_i T a x ho; simp only [Option.some.injEq] at h; subst h; rw [ho]; exact .store T a x
    · rename_i T a x ho; simp only [Option.some.injEq] at h; subst h; rw [ho]; exact .indexAddr T a x
    · rename_i T a lo hi mx ho; simp only [Option.some.injEq] at h; subst h; rw [ho]; exact .slice T a lo hi mx
    · rename_i args ats ho
      split at h
      · rename_i a hl; simp only [Option.some.injEq] at h; subst h; rw [ho]; exact .len a args ats hl
      · cases h
    · rename_i args ats ho
      split at h
      · rename_i a b hl; simp only [Option.some.injEq] at h; subst h; rw [ho]; exact .append a b args ats hl
      · cases h
    · rename_i g args ats ho
      split at h
      · rename_i a r hl
        split at h
        · rename_i hg; simp only [Option.some.injEq] at h; subst h; rw [ho]; exact .mv g a r args ats hl hg
        · cases h
      · cases h
    · cases h

theorem storeA_at {T s g : Nat} {p x : AV} {e' : Ent} (hs : storeA P st T p x = some (s, g, e')) : ∃ o, p = .ptr s g o := by
  unfold storeA at hs
  split at hs
  · rename_i s1 g1 o1
    split at hs
    · split at hs
      · split at hs
        · split at hs
          · simp only [Option.some.injEq, Prod.mk.injEq] at hs; obtain ⟨rfl, rfl, _⟩ := hs; exact ⟨_, rfl⟩
          · cases hs
        · split at hs
          · simp only [Option.some.injEq, Prod.mk.injEq] at hs; obtain ⟨rfl, rfl, _⟩ := hs; exact ⟨_, rfl⟩
          · cases hs
        · cases hs
      · cases hs
    · cases hs
  · cases hs
theorem appendA_at {T s g : Nat} {p x : AV} {r : Ent} (hap : appendA P st T p x = some (some (s, g), r)) : p = .own s g := by
  unfold appendA at hap
  split at hap
  · split at hap
    · split at hap
      · split at hap
        · split at hap <;> simp at hap
        · rename_i s3 g3
          split at hap
          · split at hap
            · simp only [Option.some.injEq, Prod.mk.injEq] at hap
              obtain ⟨⟨rfl, rfl⟩, _⟩ := hap
              rfl
            · cases hap
          · cases hap
        · split at hap <;> simp at hap
        · cases hap
      · cases hap
    · cases hap
  · cases hap
theorem mem_shape {o : Oper} {as : List Nat} {e : Eff} (ha : keyRegs o = some as) (h : evEff P call ops o st = some e) :
    ∀ s g z, e.upd = some (s, g, z) → ∃ a ∈ as, keyOf (st.env a) = some (some (s, g)) := by
  rw [mem_eff ha] at h
  have hk := keyRegs_spec ha
  clear ha
  obtain ⟨dst, op, type, pos, after, guard⟩ := o
  have val : ∀ (v : Option AV), (v.map fun x => ({ dst := dst, val := x } : Eff)) = some e → e.upd = none := fun v hv => by
    cases v with
    | none => cases hv
    | some v => simp only [Option.map_some, Option.some.injEq] at hv; subst hv; rfl
  intro s g z hu
  cases hk
  case load T a => simp only [opEff] at h; rw [val _ h] at hu; cases hu
  case indexAddr T a x => simp only [opEff] at h; rw [val _ h] at hu; cases hu
  case slice T a lo hi mx => simp only [opEff] at h; rw [val _ h] at hu; cases hu
  case len a args ats hl =>
    simp only [opEff, callEff, hl] at h
    split at h
    · split at h
      · simp only [Option.some.injEq] at h; subst h; cases hu
      · cases h
    · cases h
  case store T a x =>
    simp only [opEff] at h
    cases hs : storeA P st T (st.ev (.tmp a)) (st.ev x) with
    | none => simp [hs] at h
    | some u =>
      obtain ⟨s', g', e'⟩ := u
      simp only [hs, Option.map_some, Option.some.injEq] at h
      subst h
      simp only [Option.some.injEq, Prod.mk.injEq] at hu
      obtain ⟨rfl, rfl, _⟩ := hu
      obtain ⟨o1, ho1⟩ := storeA_at hs
      exact ⟨a, by simp, by rw [show st.env a = st.ev (.tmp a) from rfl, ho1]; rfl⟩
  case append a b args ats hl =>
    simp only [opEff, callEff, hl] at h
    cases dst with
    | none => simp [bnd] at h
    | some d =>
      simp only [bnd] at h
      split at h
      · rename_i s0 x0 T T' heq _
        simp only [List.cons.injEq, and_true] at heq
        obtain ⟨rfl, rfl⟩ := heq
        split at h
        · split at h
          · cases hap : appendV P st T (st.ev (.tmp a)) (st.ev (.tmp b)) with
            | none => simp [hap] at h
            | some u =>
            simp only [hap, Option.map_some, Option.some.injEq] at h
            subst h
            simp only [Option.some.injEq, Prod.mk.injEq] at hu
            obtain ⟨rfl, rfl, rfl⟩ := hu
            obtain ⟨n0, hown⟩ := appendV_at hap
            exact ⟨a, by simp, by rw [show st.env a = st.ev (.tmp a) from rfl, hown]; rfl⟩
          split at h
          · simp only [Option.some.injEq] at h
            subst h
            cases hu
          cases hap : appendA P st T (st.ev (.tmp a)) (st.ev (.tmp b)) with
          | none => simp [hap] at h
          | some ur =>
            obtain ⟨u, r⟩ := ur
            simp only [hap, Option.some.injEq] at h
            subst h
            cases u with
            | none => cases hu
            | some p =>
              simp only [Option.map_some, Option.some.injEq, Prod.mk.injEq] at hu
              obtain ⟨rfl, rfl, _⟩ := hu
              exact ⟨a, by simp, by rw [show st.env a = st.ev (.tmp a) from rfl, appendA_at hap]; rfl⟩
        · cases h
      · cases h
  case mv g' a r args ats hl hg =>
    simp only [opEff, callEff, callVal] at h
    rw [if_pos hg] at h
    obtain ⟨_, _, h3⟩ := callMv_shape h
    have := h3 s g z hu
    rw [hl] at this
    simp only [List.map_cons, List.head?_cons, Option.some.injEq, St.ev] at this
    exact ⟨a, by simp, by rw [this]; rfl⟩

theorem mem_congr {o : Oper} {as : List Nat} (ha : keyRegs o = some as) (hev : ∀ p ∈ o.op.operands, st'.ev p = st.ev p) (hh : ∀ a ∈ as, KeyEq st st' (st.env a)) (hc : ∀ d, o.dst = some d → st'.cnt d = st.cnt d) :
    evEff P call ops o st' = evEff P call ops o st := by
  rw [mem_eff ha, mem_eff ha]
  have hk := keyRegs_spec ha
  clear ha
  obtain ⟨dst, op, type, pos, after, guard⟩ := o
  simp only at hk hev hc
  cases hk
  case load T a =>
    have h1 : st'.env a = st.env a := hev (.tmp a) (by simp [Op.operands])
    simp only [opEff, opVal, St.ev, h1, readAt_key (hh a (by simp))]
  case store T a x =>
    have h1 : st'.env a = st.env a := hev (.tmp a) (by simp [Op.operands])
    have h2 := hev x (by simp [Op.operands])
    have h3 : st'.ev (.tmp a) = st.ev (.tmp a) := h1
    simp only [opEff, h2, h3]
    rw [show st.ev (.tmp a) = st.env a from rfl, storeA_key (hh a (by simp))]
  case indexAddr T a x =>
    have h1 : st'.env a = st.env a := hev (.tmp a) (by simp [Op.operands])
    have h2 := hev x (by simp [Op.operands])
    have h3 : st'.ev (.tmp a) = st.ev (.tmp a) := h1
    simp only [opEff, opVal, h2, h3]
    rw [show st.ev (.tmp a) = st.env a from rfl, indexAddrA_key (hh a (by simp))]
  case slice T a lo hi mx =>
    have h1 : st'.env a = st.env a := hev (.tmp a) (by simp [Op.operands])
    have h3 : st'.ev (.tmp a) = st.ev (.tmp a) := h1
    have hl : ∀ p, lo = some p → st'.ev p = st.ev p := fun p hp => hev p (by subst hp; simp [Op.operands])
    have hi' : ∀ p, hi = some p → st'.ev p = st.ev p := fun p hp => hev p (by subst hp; simp [Op.operands])
    have hm : ∀ p, mx = some p → st'.ev p = st.ev p := fun p hp => hev p (by subst hp; simp [Op.operands])
    have hS := sliceA_key (P := P) (T := T) (hh a (by simp)) hl hi'
    cases mx with
    | none =>
      simp only [opEff, opVal, h3]
      rw [show st.ev (.tmp a) = st.env a from rfl, hS]
    | some m =>
      cases hi with
      | none => rfl
      | some h =>
        simp only [opEff, opVal, h3]
        rw [sliceA3_dep (fun s g hx => hh a (by simp) s g (by rw [show st.env a = st.ev (.tmp a) from rfl, hx]; rfl)) hl (hi' h rfl) (hm m rfl)]
  case len a args ats hl =>
    have h1 : st'.env a = st.env a := hev (.tmp a) (by simp [Op.operands, Call.operands, ← Array.mem_toList_iff, hl])
    have h3 : st'.ev (.tmp a) = st.ev (.tmp a) := h1
    have hv : sliceView st' (st'.ev (.tmp a)) = sliceView st (st.ev (.tmp a)) := by rw [h3]; exact sliceView_key (hh a (by simp))
    simp only [opEff, callEff, hl]
    cases ats.toList with
    | nil => rfl
    | cons T r => cases r with
      | nil => simp only [hv]
      | cons _ _ => rfl
  case append a b args ats hl =>
    have h1 : st'.ev (.tmp a) = st.ev (.tmp a) := hev (.tmp a) (by simp [Op.operands, Call.operands, ← Array.mem_toList_iff, hl])
    have h2 : st'.ev (.tmp b) = st.ev (.tmp b) := hev (.tmp b) (by simp [Op.operands, Call.operands, ← Array.mem_toList_iff, hl])
    have hV : ∀ T, appendV P st' T (st.ev (.tmp a)) (st.ev (.tmp b)) = appendV P st T (st.ev (.tmp a)) (st.ev (.tmp b)) := fun T => appendV_key (hh a (by simp)) (hh b (by simp))
    have hA : ∀ T, appendA P st' T (st.ev (.tmp a)) (st.ev (.tmp b)) = appendA P st T (st.ev (.tmp a)) (st.ev (.tmp b)) := fun T => appendA_key (hh a (by simp)) (hh b (by simp))
    simp only [opEff, callEff, hl]
    cases dst with
    | none => rfl
    | some d =>
      simp only [bnd, hc d rfl]
      cases ats.toList with
      | nil => rfl
      | cons T r => cases r with
        | nil => rfl
        | cons T' r' => cases r' with
          | nil =>
            have hn : nilApp P st' T (st'.ev (.tmp a)) (st'.ev (.tmp b)) = nilApp P st T (st.ev (.tmp a)) (st.ev (.tmp b)) := by
              have h3 : sliceView st' (st.ev (.tmp b)) = sliceView st (st.ev (.tmp b)) := sliceView_key (hh b (by simp))
              simp only [nilApp, h1, h2, h3]
            simp only []
            rw [hn, h1, h2, hA, hV]
          | cons _ _ => rfl
  case mv g' a r args ats hl hg =>
    have he : ∀ p ∈ args.toList, st'.ev p = st.ev p := fun p hp => hev p (by simp [Op.operands, Call.operands, ← Array.mem_toList_iff, hp])
    have h1 : args.toList.map st'.ev = args.toList.map st.ev := List.map_congr_left he
    simp only [opEff, callEff, callVal]
    rw [if_pos hg, if_pos hg, h1, hl]
    simp only [List.map_cons]
    exact callMv_key (hh a (by simp)) hc

theorem far_ne {x y : AV} (h : farApart x y ∨ farApart y x) {k k' : Nat × Nat} (hx : keyOf x = some (some k)) (hy : keyOf y = some (some k')) : k ≠ k' := by
  unfold farApart at h
  rw [hx, hy] at h
  rcases h with h | h
  · exact h
  · exact fun e => h e.symm

theorem key_id {cnt : Nat → Nat} {x : AV} {s g : Nat} (h : IdOk cnt x) (hk : keyOf x = some (some (s, g))) : g < cnt s := by
  cases x <;> simp only [keyOf, Option.some.injEq, Prod.mk.injEq, reduceCtorEq] at hk
  · obtain ⟨rfl, rfl⟩ := hk; exact h.ptr
  · obtain ⟨rfl, rfl⟩ := hk; exact h.own
  · obtain ⟨rfl, rfl⟩ := hk; exact h.vw

theorem mem_other {x y : Oper} {as bs : List Nat} {ex : Eff} (hid : ∀ t, IdOk st.cnt (st.env t)) (hax : keyRegs x = some as) (hay : keyRegs y = some bs) (hlook : ∀ d, x.dst = some d → d ∉ y.looksAt ops) (hdst : ∀ d, x.dst = some d → y.dst ≠ some d)
    (hf : ∀ a ∈ as, ∀ b ∈ bs, farApart (st.env a) (st.env b) ∨ farApart (st.env b) (st.env a)) (hx : evEff P call ops x st = some ex) : evEff P call ops y (ex.apply st) = evEff P call ops y st := by
  obtain ⟨sd, sn, _⟩ := evEff_shape hx
  have su := mem_shape hax hx
  refine mem_congr hay (fun p hp => ?_) (fun b hb s g hk => ?_) fun d hd => ?_
  · cases p with
    | tmp t =>
      show (ex.apply st).env t = st.env t
      rw [apply_env, if_neg]
      intro h
      rw [sd] at h
      exact hlook t h (by unfold Oper.looksAt; exact List.mem_append_left _ (List.mem_filterMap.2 ⟨.tmp t, by simpa using hp, rfl⟩))
    | _ => rfl
  · have hlt := key_id (hid b) hk
    have hupd : (match ex.upd with | some (s0, g0, y) => if s = s0 ∧ g = g0 then y else st.heap s g | none => st.heap s g) = st.heap s g := by
      cases hu : ex.upd with
      | none => rfl
      | some u =>
        obtain ⟨s0, g0, z⟩ := u
        obtain ⟨a, ha, hka⟩ := su s0 g0 z hu
        simp only
        rw [if_neg]
        rintro ⟨rfl, rfl⟩
        exact far_ne (hf a ha b hb) hka hk rfl
    rw [apply_heap]
    split
    · rename_i d es hn
      rw [if_neg (by rintro ⟨rfl, h, _⟩; omega)]
      exact hupd
    · exact hupd
  · rw [apply_cnt]
    split
    · rename_i d' z hn
      rw [if_neg]
      rintro rfl
      exact hdst _ (sn _ _ hn) hd
    · rfl

theorem ite_swap {α : Type} {A B C D : Prop} [Decidable A] [Decidable B] [Decidable C] [Decidable D] {na nb uc ud h : α} (h1 : A → ¬ B) (h2 : A → ¬ D) (h3 : C → ¬ B) (h4 : C → ¬ D) :
    (if B then nb else if D then ud else if A then na else if C then uc else h) = (if A then na else if C then uc else if B then nb else if D then ud else h) := by
  by_cases a : A
  · rw [if_neg (h1 a), if_neg (h2 a), if_pos a, if_pos a]
  · rw [if_neg a, if_neg a]
    by_cases c : C
    · rw [if_neg (h3 c), if_neg (h4 c), if_pos c, if_pos c]
    · rw [if_neg c, if_neg c]

def newHit (e : Eff) (cnt : Nat → Nat) (s g : Nat) : Prop := ∃ d es, e.new = some (d, es) ∧ s = d ∧ cnt d ≤ g ∧ g - cnt d < es.length
def updHit (e : Eff) (s g : Nat) : Prop := ∃ z, e.upd = some (s, g, z)
def newVal (e : Eff) (cnt : Nat → Nat) (g : Nat) : Option Ent := match e.new with | some (d, es) => es[g - cnt d]? | none => none
def updVal (e : Eff) : Option Ent := match e.upd with | some (_, _, z) => z | none => none
theorem apply_heapN (e : Eff) (st : St) (s g : Nat) : (e.apply st).heap s g = if newHit e st.cnt s g then newVal e st.cnt g else if updHit e s g then updVal e else st.heap s g := by
  have hu : (match e.upd with | some (s0, g0, y) => if s = s0 ∧ g = g0 then y else st.heap s g | none => st.heap s g) = if updHit e s g then updVal e else st.heap s g := by
    unfold updHit updVal
    cases hu : e.upd with
    | none => simp
    | some u =>
      obtain ⟨s0, g0, z⟩ := u
      simp only
      by_cases h : s = s0 ∧ g = g0
      · obtain ⟨rfl, rfl⟩ := h
        rw [if_pos ⟨rfl, rfl⟩, if_pos ⟨z, rfl⟩]
      · rw [if_neg h, if_neg]
        rintro ⟨z', h'⟩
        simp only [Option.some.injEq, Prod.mk.injEq] at h'
        exact h ⟨h'.1.symm, h'.2.1.symm⟩
  rw [apply_heap]
  unfold newHit newVal
  cases hn : e.new with
  | none => simp only; rw [if_neg (by rintro ⟨d, es, h, _⟩; cases h)]; exact hu
  | some p =>
    obtain ⟨d, es⟩ := p
    simp only
    by_cases h : s = d ∧ st.cnt d ≤ g ∧ g - st.cnt d < es.length
    · rw [if_pos h, if_pos ⟨d, es, rfl, h⟩]
    · rw [if_neg h, if_neg]
      · exact hu
      · rintro ⟨d', es', h', h2⟩
        simp only [Option.some.injEq, Prod.mk.injEq] at h'
        obtain ⟨rfl, rfl⟩ := h'
        exact h h2

/-- Two operations whose registers name different pieces of memory may change places. -/
theorem ev_commD {x y : Oper} {as bs : List Nat} (hid : ∀ t, IdOk st.cnt (st.env t)) (hax : keyRegs x = some as) (hay : keyRegs y = some bs) (hap : Oper.apart ops x y = true) (hf : farAll st as bs) {s1 s2 : St} (hx : evOp P call ops x st = some s1) (hy : evOp P call ops y s1 = some s2) :
    ∃ s3, evOp P call ops y st = some s3 ∧ evOp P call ops x s3 = some s2 := by
  obtain ⟨l1, l2, l3⟩ := Oper.apart_spec hap
  have l2' : ∀ d, y.dst = some d → x.dst ≠ some d := fun d hd hx => l2 d hx hd
  rw [evOp_eq] at hx hy
  cases hex : evEff P call ops x st with
  | none => simp [hex] at hx
  | some ex =>
    simp only [hex, Option.map_some, Option.some.injEq] at hx
    subst hx
    rw [mem_other hid hax hay l1 l2 (fun a ha b hb => .inl (hf a ha b hb)) hex] at hy
    cases hey : evEff P call ops y st with
    | none => simp [hey] at hy
    | some ey =>
      simp only [hey, Option.map_some, Option.some.injEq] at hy
      subst hy
      refine ⟨ey.apply st, by rw [evOp_eq, hey]; rfl, ?_⟩
      rw [evOp_eq, mem_other hid hay hax l3 l2' (fun b hb a ha => .inr (hf a ha b hb)) hey, hex]
      simp only [Option.map_some, Option.some.injEq]
      obtain ⟨dx, nx, _⟩ := evEff_shape hex
      obtain ⟨dy, ny, _⟩ := evEff_shape hey
      have ux := mem_shape hax hex
      have uy := mem_shape hay hey
      have cx : ∀ d z, ey.new = some (d, z) → (ex.apply st).cnt d = st.cnt d := fun d z hn => by
        rw [apply_cnt]
        split
        · rename_i d' z' hn'
          rw [if_neg]
          rintro rfl
          exact l2 _ (nx _ _ hn') (ny _ _ hn)
        · rfl
      have cy : ∀ d z, ex.new = some (d, z) → (ey.apply st).cnt d = st.cnt d := fun d z hn => by
        rw [apply_cnt]
        split
        · rename_i d' z' hn'
          rw [if_neg]
          rintro rfl
          exact l2 _ (nx _ _ hn) (ny _ _ hn')
        · rfl
      apply st_ext
      · funext t
        rw [apply_env, apply_env, apply_env, apply_env, dx, dy]
        by_cases h1 : x.dst = some t
        · rw [if_pos h1, if_pos h1, if_neg (l2 t h1)]
        · rw [if_neg h1, if_neg h1]
      · funext s g
        have nyE : newHit ey (ex.apply st).cnt s g ↔ newHit ey st.cnt s g := by
          constructor
          · rintro ⟨d, es, h, h2⟩; rw [cx d es h] at h2; exact ⟨d, es, h, h2⟩
          · rintro ⟨d, es, h, h2⟩; rw [← cx d es h] at h2; exact ⟨d, es, h, h2⟩
        have nxE : newHit ex (ey.apply st).cnt s g ↔ newHit ex st.cnt s g := by
          constructor
          · rintro ⟨d, es, h, h2⟩; rw [cy d es h] at h2; exact ⟨d, es, h, h2⟩
          · rintro ⟨d, es, h, h2⟩; rw [← cy d es h] at h2; exact ⟨d, es, h, h2⟩
        have vyE : newVal ey (ex.apply st).cnt g = newVal ey st.cnt g := by
          unfold newVal
          cases hn : ey.new with
          | none => rfl
          | some p => simp only [cx p.1 p.2 hn]
        have vxE : newVal ex (ey.apply st).cnt g = newVal ex st.cnt g := by
          unfold newVal
          cases hn : ex.new with
          | none => rfl
          | some p => simp only [cy p.1 p.2 hn]
        rw [apply_heapN, apply_heapN, apply_heapN, apply_heapN]
        simp only [nyE, nxE, vyE, vxE]
        symm
        have idk : ∀ a s g, keyOf (st.env a) = some (some (s, g)) → g < st.cnt s := fun a s g h => key_id (hid a) h
        refine ite_swap ?_ ?_ ?_ ?_
        · rintro ⟨d, es, h, rfl, _⟩ ⟨d', es', h', rfl, _⟩
          exact l2 _ (nx _ _ h) (ny _ _ h')
        · rintro ⟨d, es, h, rfl, h1, _⟩ ⟨z, h'⟩
          obtain ⟨b, _, hb⟩ := uy _ _ _ h'
          have := idk b _ _ hb
          omega
        · rintro ⟨z, h⟩ ⟨d, es, h', rfl, h1, _⟩
          obtain ⟨a, _, ha⟩ := ux _ _ _ h
          have := idk a _ _ ha
          omega
        · rintro ⟨z, h⟩ ⟨z', h'⟩
          obtain ⟨a, ha, hka⟩ := ux _ _ _ h
          obtain ⟨b, hb, hkb⟩ := uy _ _ _ h'
          exact far_ne (.inl (hf a ha b hb)) hka hkb rfl
      · funext s
        rw [apply_cnt, apply_cnt]
        cases hnx : ex.new with
        | none => cases hny : ey.new <;> simp only [apply_cnt, hnx, hny]
        | some a =>
          obtain ⟨d, z⟩ := a
          cases hny : ey.new with
          | none => simp only [apply_cnt, hnx, hny]
          | some b =>
            obtain ⟨d', z'⟩ := b
            have hdd : d ≠ d' := by
              rintro rfl
              exact l2 _ (nx _ _ hnx) (ny _ _ hny)
            simp only [apply_cnt, hnx, hny]
            rw [if_neg hdd, if_neg (Ne.symm hdd)]
            by_cases h1 : s = d
            · subst h1; rw [if_neg hdd, if_pos rfl, if_neg hdd]
            · rw [if_neg h1, if_neg h1]
end
end Go.Ab
