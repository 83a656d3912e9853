/-
  Part Ab12 of the proof: an evaluator of the programs written in Lean once, and its soundness.
-/
import Derived.Test.YtgpkmepalmdmeaaAb11
set_option linter.all false
namespace Go.Ab
open Classical

section
variable {P : Program} {call : Nat → List AV → Option AV} {st st' : St} {ops : Array Oper}

theorem putRes_shape {r : AV} {dst : Option Nat} {e : Eff} (h : putRes r st dst = some e) : e.dst = dst ∧ e.upd = none ∧ ∀ d x, e.new = some (d, x) → dst = some d := by
  unfold putRes at h
  split at h
  · simp only [Option.some.injEq] at h; subst h; exact ⟨rfl, rfl, fun d x h => by simp at h⟩
  · cases dst with
    | none => cases h
    | some d => simp only [Option.some.injEq] at h; subst h; exact ⟨rfl, rfl, fun d x h => by simp at h; rw [h.1]⟩

theorem callFn_shape {g : Nat} {args : List AV} {dst : Option Nat} {e : Eff} (h : callFn call g args st dst = some e) : e.dst = dst ∧ e.upd = none ∧ ∀ d x, e.new = some (d, x) → dst = some d := by
  unfold callFn at h
  split at h
  · cases hc : call g args with
    | none => simp [hc, bnd] at h
    | some r => simp only [hc, bnd] at h; exact putRes_shape h
  · split at h
    · rename_i xs _
      cases hc : call g xs with
      | none => simp [hc, bnd] at h
      | some r =>
        simp only [hc, bnd] at h
        split at h
        · exact putRes_shape h
        · cases h
    · cases h

theorem callMv_shape {g : Nat} {args : List AV} {dst : Option Nat} {e : Eff} (h : callMv call g args st dst = some e) : e.dst = dst ∧ (∀ d x, e.new = some (d, x) → dst = some d) ∧ ∀ s k x, e.upd = some (s, k, x) → args.head? = some (.own s k) := by
  unfold callMv at h
  split at h
  · split at h
    · split at h
      · split at h
        · cases dst with
          | none => cases h
          | some d =>
            simp only [Option.some.injEq] at h; subst h
            exact ⟨rfl, fun d x h => by simp at h; rw [h.1], fun s k x h => by simp at h; simp [h.1, h.2.1]⟩
        · simp only [Option.some.injEq] at h; subst h
          exact ⟨rfl, fun d x h => by simp at h, fun s k x h => by simp at h; simp [h.1, h.2.1]⟩
        · cases h
      · cases h
    · cases h
  · obtain ⟨h1, h2, h3⟩ := callFn_shape h
    exact ⟨h1, h3, fun s k x h => by rw [h2] at h; cases h⟩

theorem apply_env (e : Eff) (t : Nat) : (e.apply st).env t = if e.dst = some t then e.val else st.env t := by
  have h2 : ∀ (s1 : St), (s1.put e.dst e.val).env t = if e.dst = some t then e.val else s1.env t := fun s1 => by
    cases hd : e.dst with
    | none => simp [St.put]
    | some d =>
      simp only [St.put, Option.some.injEq]
      by_cases h : t = d
      · subst h; simp
      · rw [if_neg h, if_neg (fun h' => h h'.symm)]
  unfold Eff.apply
  rw [h2]
  cases e.upd <;> cases e.new <;> rfl

theorem apply_cnt (e : Eff) (s : Nat) : (e.apply st).cnt s = match e.new with
    | some (d, es) => if s = d then st.cnt d + es.length else st.cnt s
    | none => st.cnt s := by
  unfold Eff.apply
  rw [put_cnt]
  cases e.upd <;> cases e.new <;> rfl

theorem apply_heap (e : Eff) (s g : Nat) : (e.apply st).heap s g = match e.new with
    | some (d, es) => if s = d ∧ st.cnt d ≤ g ∧ g - st.cnt d < es.length then es[g - st.cnt d]? else (match e.upd with
      | some (s0, g0, y) => if s = s0 ∧ g = g0 then y else st.heap s g
      | none => st.heap s g)
    | none => (match e.upd with
      | some (s0, g0, y) => if s = s0 ∧ g = g0 then y else st.heap s g
      | none => st.heap s g) := by
  unfold Eff.apply
  rw [put_heap]
  cases e.upd <;> cases e.new <;> rfl

theorem looksAt_spec {o : Oper} {t : Nat} (h : t ∉ o.looksAt ops) : (∀ p ∈ o.op.operands, p ≠ .tmp t) ∧ (∀ j want d, o.guard = some (j, want) → (ops[j]?).bind (·.dst) = some d → d ≠ t) := by
  unfold Oper.looksAt at h
  simp only [List.mem_append, not_or] at h
  refine ⟨fun p hp he => ?_, fun j want d hg hd he => ?_⟩
  · subst he
    exact h.1 (List.mem_filterMap.2 ⟨.tmp t, by simpa using hp, rfl⟩)
  · subst he
    apply h.2
    rw [hg]
    simp [hd]

theorem gv_congr {o : Oper} (h : ∀ j want d, o.guard = some (j, want) → (ops[j]?).bind (·.dst) = some d → st'.env d = st.env d) : gv ops st' o.guard = gv ops st o.guard := by
  unfold gv
  cases hg : o.guard with
  | none => rfl
  | some jw =>
    obtain ⟨j, want⟩ := jw
    simp only
    cases hd : (ops[j]?).bind (·.dst) with
    | none => rfl
    | some d => simp only [h j want d hg hd]

theorem st_ext {a b : St} (h1 : a.env = b.env) (h2 : a.heap = b.heap) (h3 : a.cnt = b.cnt) : a = b := by
  cases a; cases b; simp_all

variable [Ext]
/-- What an operation's effect looks like. -/
theorem opEff_shape {o : Oper} {e : Eff} (h : opEff P call o st = some e) :
    e.dst = o.dst ∧ (∀ d x, e.new = some (d, x) → o.dst = some d) ∧ (∀ s g x, e.upd = some (s, g, x) → opClass ops o = 3 ∧ ∃ p ∈ o.op.operands, (∃ off, st.ev p = .ptr s g off) ∨ st.ev p = .own s g ∨ st.ev p = .mp s g) := by
  obtain ⟨dst, op, type, pos, after, guard⟩ := o
  have val : ∀ x : Option AV, (x.map fun y => ({ dst := dst, val := y } : Eff)) = some e → e.dst = dst ∧ (∀ d x, e.new = some (d, x) → dst = some d) ∧ (∀ s g x, e.upd ≠ some (s, g, x)) := fun x h => by
    cases x with
    | none => simp at h
    | some y => simp at h; subst h; exact ⟨rfl, fun d x h => by simp at h, fun s g x h => by simp at h⟩
  cases op
  case call c =>
    simp only [opEff] at h
    unfold callEff at h
    split at h
    · rename_i f hc
      unfold callVal at h
      split at h
      · rename_i g
        split at h
        · rename_i hmv
          obtain ⟨h1, h2, h3⟩ := callMv_shape h
          refine ⟨h1, h2, fun s k x hu => ?_⟩
          have hh := h3 s k x hu
          obtain ⟨callee, args, ats⟩ := c
          simp only at hc hh
          subst hc
          refine ⟨by simp [opClass, hmv], ?_⟩
          cases hl : args.toList with
          | nil => rw [hl] at hh; simp at hh
          | cons p ps =>
            rw [hl] at hh
            simp only [List.map_cons, List.head?_cons, Option.some.injEq] at hh
            refine ⟨p, ?_, .inr (.inl hh)⟩
            simp only [Op.operands, Call.operands]
            simp
            right
            rw [← Array.mem_toList_iff, hl]
            simp
        · obtain ⟨h1, h2, h3⟩ := callFn_shape h
          exact ⟨h1, h3, fun s g x h => by rw [h2] at h; cases h⟩
      · split at h
        · obtain ⟨h1, h2, h3⟩ := callFn_shape h
          exact ⟨h1, h3, fun s g x h => by rw [h2] at h; cases h⟩
        · cases h
    · split at h
      · split at h
        · simp only [Option.some.injEq] at h; subst h; exact ⟨rfl, fun d x h => by simp at h, fun s g x h => by simp at h⟩
        · cases h
      · cases h
    · split at h
      · split at h
        · simp only [Option.some.injEq] at h; subst h; exact ⟨rfl, fun d x h => by simp at h, fun s g x h => by simp at h⟩
        · cases h
      · cases h
    · rename_i hc
      cases dst with
      | none => simp [bnd] at h
      | some d =>
        simp only [bnd] at h
        split at h
        · rename_i s x T T' hx hT
          split at h
          · cases hap : appendA P st T (st.ev s) (st.ev x) with
            | none => simp [hap] at h
            | some ur =>
              obtain ⟨u, r⟩ := ur
              simp only [hap, Option.some.injEq] at h
              subst h
              refine ⟨rfl, fun d x h => by simp at h; rw [h.1], fun s' g' x' hu => ?_⟩
              simp only [Option.map_eq_some_iff] at hu
              obtain ⟨⟨s2, g2⟩, hu1, hu2⟩ := hu
              simp only [Prod.mk.injEq] at hu2
              obtain ⟨rfl, rfl, rfl⟩ := hu2
              subst hu1
              have hown : st.ev s = .own s2 g2 := by
                unfold appendA at hap
                split at hap
                · split at hap
                  · split at hap
                    · split at hap
                      · split at hap <;> simp at hap
                      · rename_i s3 g3 hs3
                        split at hap
                        · split at hap
                          · simp only [Option.some.injEq, Prod.mk.injEq] at hap
                            obtain ⟨⟨rfl, rfl⟩, _⟩ := hap
                            exact hs3
                          · cases hap
                        · cases hap
                      · split at hap <;> simp at hap
                      · cases hap
                    · cases hap
                  · cases hap
                · cases hap
              refine ⟨?_, s, ?_, .inr (.inl hown)⟩
              · obtain ⟨callee, args, ats⟩ := c
                simp only at hc hx
                subst hc
                simp only [opClass, hx]
                cases s with
                | const v =>
                  simp [St.ev] at hown
                | _ => rfl
              · simp only [Op.operands, Call.operands, hc]
                simp
                rw [← Array.mem_toList_iff, hx]
                simp
          · cases h
        · cases h
    · cases h
  case store T x y =>
    simp only [opEff] at h
    cases hs : storeA P st T (st.ev x) (st.ev y) with
    | none => simp [hs] at h
    | some u =>
      obtain ⟨s, g, e'⟩ := u
      simp only [hs, Option.map_some, Option.some.injEq] at h
      subst h
      refine ⟨rfl, fun d x h => by simp at h, fun s' g' x' hu => ⟨rfl, x, by simp [Op.operands], .inl ?_⟩⟩
      simp only [Option.some.injEq, Prod.mk.injEq] at hu
      obtain ⟨rfl, rfl, _⟩ := hu
      unfold storeA at hs
      split at hs
      · rename_i s1 g1 o1 hp
        refine ⟨o1, ?_⟩
        rw [hp]
        split at hs
        · split at hs
          · split at hs
            · split at hs
              · simp only [Option.some.injEq, Prod.mk.injEq] at hs; rw [hs.1, hs.2.1]
              · cases hs
            · split at hs
              · simp only [Option.some.injEq, Prod.mk.injEq] at hs; rw [hs.1, hs.2.1]
              · cases hs
            · cases hs
          · cases hs
        · cases hs
      · cases hs
  case alloc T =>
    simp only [opEff] at h
    cases dst with
    | none => simp [bnd] at h
    | some d => cases hz : zeroL P T with
      | none => simp [hz, bnd] at h
      | some z => simp only [hz, bnd, Option.some.injEq] at h; subst h; exact ⟨rfl, fun d x h => by simp at h; rw [h.1], fun s g x h => by simp at h⟩
  case box T x =>
    simp only [opEff] at h
    cases dst with
    | none => simp [bnd] at h
    | some d =>
      simp only [bnd] at h
      split at h
      · simp only [Option.some.injEq] at h; subst h; exact ⟨rfl, fun d x h => by simp at h; rw [h.1], fun s g x h => by simp at h⟩
      · cases h
  case buildSlice T n parts =>
    simp only [opEff] at h
    cases dst with
    | none => simp [bnd] at h
    | some d => cases hs : slInfo P T with
      | none => simp [hs, bnd] at h
      | some t => cases hz : zeroL P t.1 with
        | none => simp [hs, hz, bnd] at h
        | some z =>
          simp only [hs, hz, bnd] at h
          split at h
          · cases hf : fillA (fun i => some (i * t.2.1, t.2.1)) ((List.range n).flatMap fun _ => z.map .v) (parts.toList.map fun p => (p.1, st.ev p.2)) with
            | none => simp [hf] at h
            | some cs => simp only [hf, Option.some.injEq] at h; subst h; exact ⟨rfl, fun d x h => by simp at h; rw [h.1], fun s g x h => by simp at h⟩
          · cases h
  case makeSlice T l c =>
    simp only [opEff] at h
    cases dst with
    | none => simp [bnd] at h
    | some d => cases hs : slInfo P T with
      | none => simp [hs, bnd] at h
      | some t => cases hz : zeroL P t.1 with
        | none => simp [hs, hz, bnd] at h
        | some z =>
          simp only [hs, hz, bnd] at h
          split at h
          · split at h
            · simp only [Option.some.injEq] at h; subst h; exact ⟨rfl, fun d x h => by simp at h; rw [h.1], fun s g x h => by simp at h⟩
            · cases h
          · cases h
  case makeMap T r =>
    cases r with
    | none =>
      simp only [opEff] at h
      cases dst with
      | none => simp [bnd] at h
      | some d => simp only [bnd, Option.some.injEq] at h; subst h; exact ⟨rfl, fun d x h => by simp at h; rw [h.1], fun s g x h => by simp at h⟩
    | some r =>
      simp only [opEff] at h
      obtain ⟨h1, h2, h3⟩ := val _ h
      exact ⟨h1, h2, fun s g x hu => absurd hu (h3 s g x)⟩
  case mapUpdate T m x y =>
    simp only [opEff] at h
    cases hs : mapSetA P st T (st.ev m) (st.ev x) (st.ev y) with
    | none => simp [hs] at h
    | some u =>
      obtain ⟨s, g, e'⟩ := u
      simp only [hs, Option.map_some, Option.some.injEq] at h
      subst h
      refine ⟨rfl, fun d x h => by simp at h, fun s' g' x' hu => ⟨rfl, m, by simp [Op.operands], .inr (.inr ?_)⟩⟩
      simp only [Option.some.injEq, Prod.mk.injEq] at hu
      obtain ⟨rfl, rfl, _⟩ := hu
      unfold mapSetA at hs
      split at hs
      · rename_i s1 g1 hp
        rw [hp]
        split at hs
        · split at hs
          · simp only [Option.some.injEq, Prod.mk.injEq] at hs; rw [hs.1, hs.2.1]
          · cases hs
        · cases hs
      · cases hs
  all_goals
    simp only [opEff] at h
    obtain ⟨h1, h2, h3⟩ := val _ h
    exact ⟨h1, h2, fun s g x hu => absurd hu (h3 s g x)⟩

/-- One operation, guard and all, as an effect. -/
noncomputable def evEff (P : Program) (call : Nat → List AV → Option AV) (ops : Array Oper) (o : Oper) (st : St) : Option Eff :=
  match gv ops st o.guard with
  | some b => if b = true then opEff P call o st else some { dst := o.dst, val := .v undef }
  | none => none

theorem evOp_eq (o : Oper) : evOp P call ops o st = (evEff P call ops o st).map fun e => e.apply st := by
  unfold evOp evEff
  cases gv ops st o.guard with
  | none => rfl
  | some b => cases b <;> rfl

theorem evEff_shape {o : Oper} {e : Eff} (h : evEff P call ops o st = some e) :
    e.dst = o.dst ∧ (∀ d x, e.new = some (d, x) → o.dst = some d) ∧ (∀ s g x, e.upd = some (s, g, x) → opClass ops o = 3 ∧ ∃ p ∈ o.op.operands, (∃ off, st.ev p = .ptr s g off) ∨ st.ev p = .own s g ∨ st.ev p = .mp s g) := by
  unfold evEff at h
  split at h
  · split at h
    · exact opEff_shape h
    · simp only [Option.some.injEq] at h; subst h; exact ⟨rfl, fun d x h => by simp at h, fun s g x h => by simp at h⟩
  · cases h

/-- An operation's effect does not change by what an operation does that stands apart. -/
theorem evEff_other {x y : Oper} {ex : Eff} (hap : apartOk ops x y = true ∨ apartOk ops y x = true) (hid : ∀ t, IdOk st.cnt (st.env t)) (hx : evEff P call ops x st = some ex) :
    evEff P call ops y (ex.apply st) = evEff P call ops y st := by
  obtain ⟨sd, sn, su⟩ := evEff_shape hx
  have hlook : (∀ d, x.dst = some d → d ∉ y.looksAt ops) ∧ (∀ d, x.dst = some d → y.dst ≠ some d) := by
    rcases hap with h | h
    · simp only [apartOk, Bool.and_eq_true] at h
      obtain ⟨h1, h2, _⟩ := Oper.apart_spec h.1
      exact ⟨h1, h2⟩
    · simp only [apartOk, Bool.and_eq_true] at h
      obtain ⟨_, h2, h3⟩ := Oper.apart_spec h.1
      exact ⟨h3, fun d hd hy => h2 d hy hd⟩
  have henv : ∀ t, t ∈ y.looksAt ops → (ex.apply st).env t = st.env t := fun t ht => by
    rw [apply_env, if_neg]
    intro h
    rw [sd] at h
    exact hlook.1 t h ht
  have hev : ∀ p ∈ y.op.operands, (ex.apply st).ev p = st.ev p := fun p hp => by
    cases p with
    | tmp t => exact henv t (by unfold Oper.looksAt; exact List.mem_append_left _ (List.mem_filterMap.2 ⟨.tmp t, by simpa using hp, rfl⟩))
    | _ => rfl
  have hgv : gv ops (ex.apply st) y.guard = gv ops st y.guard := gv_congr fun j want d hg hd => henv d (by
    unfold Oper.looksAt
    apply List.mem_append_right
    rw [hg]
    simp [hd])
  have hcnt : ∀ d, y.dst = some d → (ex.apply st).cnt d = st.cnt d := fun d hd => by
    rw [apply_cnt]
    split
    · rename_i d' z hn
      have := sn d' z hn
      rw [if_neg]
      rintro rfl
      exact hlook.2 d this hd
    · rfl
  have hidp : ∀ p ∈ y.op.operands, IdOk st.cnt (st.ev p) := fun p hp => by
    cases p with
    | tmp t => exact hid t
    | const v => exact ⟨⟨fun _ _ => False, fun _ _ => undef, st.cnt⟩, v, rfl, .v v⟩
    | global g => exact ⟨⟨fun _ _ => False, fun _ _ => undef, st.cnt⟩, _, rfl, .v _⟩
    | func f => exact ⟨⟨fun _ _ => False, fun _ _ => undef, st.cnt⟩, _, rfl, .v _⟩
  have hop : opEff P call y (ex.apply st) = opEff P call y st := by
    by_cases h3 : opClass ops x = 3
    · refine opEff_congr0 (ops := ops) ?_ hev hcnt
      have hle : opClass ops y = 0 ∨ opClass ops y = 1 ∨ opClass ops y = 2 ∨ opClass ops y = 3 ∨ opClass ops y = 4 := by
        unfold opClass
        split <;> (try split) <;> simp
      rcases hap with h | h <;> simp only [apartOk, Bool.and_eq_true, h3] at h <;> rcases hle with e | e | e | e | e <;> simp [e] at h ⊢
    · have hnu : ex.upd = none := by
        cases hu : ex.upd with
        | none => rfl
        | some sgx => exact absurd (su sgx.1 sgx.2.1 sgx.2.2 hu).1 h3
      refine opEff_congr hev hidp (fun s g hlt => ?_) hcnt
      rw [apply_heap, hnu]
      split
      · rename_i d z hn
        rw [if_neg]
        rintro ⟨rfl, h, _⟩
        omega
      · rfl
  unfold evEff
  rw [hgv, hop]

theorem upd_id {o : Oper} {e : Eff} {s g : Nat} {z : Option Ent} (hid : ∀ t, IdOk st.cnt (st.env t)) (h : evEff P call ops o st = some e) (hu : e.upd = some (s, g, z)) : g < st.cnt s := by
  obtain ⟨_, _, su⟩ := evEff_shape h
  obtain ⟨_, p, hp, hv⟩ := su s g z hu
  have hidp : IdOk st.cnt (st.ev p) := by
    cases p with
    | tmp t => exact hid t
    | const v => exact ⟨⟨fun _ _ => False, fun _ _ => undef, st.cnt⟩, v, rfl, .v v⟩
    | global g => exact ⟨⟨fun _ _ => False, fun _ _ => undef, st.cnt⟩, _, rfl, .v _⟩
    | func f => exact ⟨⟨fun _ _ => False, fun _ _ => undef, st.cnt⟩, _, rfl, .v _⟩
  rcases hv with ⟨off, hv⟩ | hv | hv
  · rw [hv] at hidp; exact hidp.ptr
  · rw [hv] at hidp; exact hidp.own
  · rw [hv] at hidp; exact hidp.mp

/-- Two operations that stand apart may change places. -/
theorem ev_comm {x y : Oper} (hap : apartOk ops x y = true) (hid : ∀ t, IdOk st.cnt (st.env t)) {s1 s2 : St} (hx : evOp P call ops x st = some s1) (hy : evOp P call ops y s1 = some s2) :
    ∃ s3, evOp P call ops y st = some s3 ∧ evOp P call ops x s3 = some s2 := by
  rw [evOp_eq] at hx hy
  cases hex : evEff P call ops x st with
  | none => simp [hex] at hx
  | some ex =>
    simp only [hex, Option.map_some, Option.some.injEq] at hx
    subst hx
    rw [evEff_other (.inl hap) hid hex] at hy
    cases hey : evEff P call ops y st with
    | none => simp [hey] at hy
    | some ey =>
      simp only [hey, Option.map_some, Option.some.injEq] at hy
      subst hy
      refine ⟨ey.apply st, by rw [evOp_eq, hey]; rfl, ?_⟩
      rw [evOp_eq, evEff_other (.inr hap) hid hey, hex]
      simp only [Option.map_some, Option.some.injEq]
      obtain ⟨dx, nx, ux⟩ := evEff_shape hex
      obtain ⟨dy, ny, uy⟩ := evEff_shape hey
      have hd : ∀ d, x.dst = some d → y.dst ≠ some d := by
        simp only [apartOk, Bool.and_eq_true] at hap
        exact (Oper.apart_spec hap.1).2.1
      have hcl : ¬ (ex.upd ≠ none ∧ ey.upd ≠ none) := by
        rintro ⟨h1, h2⟩
        cases hu : ex.upd with
        | none => exact h1 hu
        | some a => cases hv : ey.upd with
          | none => exact h2 hv
          | some b =>
            have e1 := (ux a.1 a.2.1 a.2.2 hu).1
            have e2 := (uy b.1 b.2.1 b.2.2 hv).1
            simp [apartOk, e1, e2] at hap
      apply st_ext
      · funext t
        rw [apply_env, apply_env, apply_env, apply_env, dx, dy]
        by_cases h1 : x.dst = some t
        · rw [if_pos h1, if_pos h1, if_neg (hd t h1)]
        · rw [if_neg h1, if_neg h1]
      · funext s g
        rw [apply_heap, apply_heap, apply_heap, apply_heap]
        have cx : ∀ d z, ey.new = some (d, z) → (ex.apply st).cnt d = st.cnt d := fun d z hn => by
          rw [apply_cnt]
          split
          · rename_i d' z' hn'
            rw [if_neg]
            rintro rfl
            exact hd _ (nx _ _ hn') (ny _ _ hn)
          · rfl
        have cy : ∀ d z, ex.new = some (d, z) → (ey.apply st).cnt d = st.cnt d := fun d z hn => by
          rw [apply_cnt]
          split
          · rename_i d' z' hn'
            rw [if_neg]
            rintro rfl
            exact hd _ (nx _ _ hn) (ny _ _ hn')
          · rfl
        cases hnx : ex.new with
        | none =>
          cases hny : ey.new with
          | none =>
            cases hux : ex.upd with
            | none => rfl
            | some a => cases huy : ey.upd with
              | none => rfl
              | some b => exact absurd ⟨by rw [hux]; simp, by rw [huy]; simp⟩ hcl
          | some b =>
            obtain ⟨d, z⟩ := b
            simp only [cx d z hny]
            cases hux : ex.upd with
            | none => rfl
            | some a =>
              obtain ⟨s0, g0, e0⟩ := a
              have hlt := upd_id hid hex hux
              cases huy : ey.upd with
              | none =>
                simp only
                by_cases h1 : s = d ∧ st.cnt d ≤ g ∧ g - st.cnt d < z.length
                · rw [if_neg (by obtain ⟨rfl, ha, hb⟩ := h1; rintro ⟨rfl, rfl⟩; omega), if_pos h1, if_pos h1]
                · rw [if_neg h1, if_neg h1]
              | some b => exact absurd ⟨by rw [hux]; simp, by rw [huy]; simp⟩ hcl
        | some a =>
          obtain ⟨d, z⟩ := a
          cases hny : ey.new with
          | none =>
            simp only [cy d z hnx]
            cases huy : ey.upd with
            | none => rfl
            | some a =>
              obtain ⟨s0, g0, e0⟩ := a
              have hlt := upd_id hid hey huy
              cases hux : ex.upd with
              | none =>
                simp only
                by_cases h1 : s = d ∧ st.cnt d ≤ g ∧ g - st.cnt d < z.length
                · rw [if_pos h1, if_neg (by obtain ⟨rfl, ha, hb⟩ := h1; rintro ⟨rfl, rfl⟩; omega), if_pos h1]
                · rw [if_neg h1, if_neg h1]
              | some b => exact absurd ⟨by rw [hux]; simp, by rw [huy]; simp⟩ hcl
          | some b =>
            obtain ⟨d', z'⟩ := b
            simp only [cy d z hnx, cx d' z' hny]
            have hdd : d ≠ d' := by
              rintro rfl
              exact hd _ (nx _ _ hnx) (ny _ _ hny)
            cases hux : ex.upd with
            | none =>
              cases huy : ey.upd with
              | none =>
                simp only
                by_cases h1 : s = d ∧ st.cnt d ≤ g ∧ g - st.cnt d < z.length
                · rw [if_pos h1, if_pos h1, if_neg (fun h => hdd (h1.1.symm.trans h.1))]
                · rw [if_neg h1, if_neg h1]
              | some b =>
                obtain ⟨s0, g0, e0⟩ := b
                have hlt := upd_id hid hey huy
                simp only
                by_cases h1 : s = d ∧ st.cnt d ≤ g ∧ g - st.cnt d < z.length
                · rw [if_pos h1, if_pos h1, if_neg (fun h => hdd (h1.1.symm.trans h.1)), if_neg (by obtain ⟨rfl, ha, hb⟩ := h1; rintro ⟨rfl, rfl⟩; omega)]
                · rw [if_neg h1, if_neg h1]
            | some a =>
              obtain ⟨s0, g0, e0⟩ := a
              have hlt := upd_id hid hex hux
              cases huy : ey.upd with
              | none =>
                simp only
                by_cases h1 : s = d ∧ st.cnt d ≤ g ∧ g - st.cnt d < z.length
                · rw [if_pos h1, if_pos h1, if_neg (fun h => hdd (h1.1.symm.trans h.1))]
                · rw [if_neg h1, if_neg h1]
                  by_cases h2 : s = d' ∧ st.cnt d' ≤ g ∧ g - st.cnt d' < z'.length
                  · rw [if_pos h2, if_neg (by obtain ⟨rfl, ha, hb⟩ := h2; rintro ⟨rfl, rfl⟩; omega), if_pos h2]
                  · rw [if_neg h2, if_neg h2]
              | some b => exact absurd ⟨by rw [hux]; simp, by rw [huy]; simp⟩ hcl
      · funext s
        cases hnx : ex.new with
        | none => cases hny : ey.new <;> simp only [apply_cnt, hnx, hny]
        | some a =>
          obtain ⟨d, z⟩ := a
          cases hny : ey.new with
          | none => simp only [apply_cnt, hnx, hny]
          | some b =>
            obtain ⟨d', z'⟩ := b
            have hdd : d ≠ d' := by
              rintro rfl
              exact hd _ (nx _ _ hnx) (ny _ _ hny)
            simp only [apply_cnt, hnx, hny]
            rw [if_neg hdd, if_neg (Ne.symm hdd)]
            by_cases h1 : s = d
            · subst h1; rw [if_neg hdd, if_pos rfl, if_neg hdd]
            · rw [if_neg h1, if_neg h1]
end
end Go.Ab
