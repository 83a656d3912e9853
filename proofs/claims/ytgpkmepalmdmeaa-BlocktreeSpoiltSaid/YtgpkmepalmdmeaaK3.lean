/-
  Part K3 of the proof: several texts of the evaluator and of what functions of this program compute.
-/
import Derived.Test.YtgpkmepalmdmeaaK2
set_option linter.all false
section
namespace Go.Ab
open Classical

/-- An identity of the state's: it has been given. -/
def IdOk (cnt : Nat → Nat) (x : AV) : Prop := ∃ (C : Ctx) (v : Value), C.cnt = cnt ∧ RelV C x v

theorem IdOk.ptr {cnt : Nat → Nat} {s g o : Nat} (h : IdOk cnt (.ptr s g o)) : g < cnt s := by
  obtain ⟨C, v, rfl, h⟩ := h
  cases h with
  | ptr s g off b hg hb => exact hg
theorem IdOk.own {cnt : Nat → Nat} {s g : Nat} (h : IdOk cnt (.own s g)) : g < cnt s := by
  obtain ⟨C, v, rfl, h⟩ := h
  cases h with
  | own s g hg _ => exact hg
theorem IdOk.vw {cnt : Nat → Nat} {s g o n : Nat} (h : IdOk cnt (.vw s g o n)) : g < cnt s := by
  obtain ⟨C, v, rfl, h⟩ := h
  cases h with
  | vw s g o n b cap hg _ _ => exact hg
theorem IdOk.mp {cnt : Nat → Nat} {s g : Nat} (h : IdOk cnt (.mp s g)) : g < cnt s := by
  obtain ⟨C, v, rfl, h⟩ := h
  cases h with
  | mp s g hg _ => exact hg
theorem IdOk.agg {cnt : Nat → Nat} {cs : List AV} (h : IdOk cnt (.agg cs)) : ∀ c ∈ cs, IdOk cnt c := by
  obtain ⟨C, v, rfl, h⟩ := h
  cases h with
  | agg cs a hl hr _ =>
    intro c hc
    obtain ⟨i, hi, rfl⟩ := List.getElem_of_mem hc
    exact ⟨C, a[i], rfl, hr i _ _ (by simp [hi]) (by simp)⟩
theorem IdOk.clo {cnt : Nat → Nat} {f : Nat} {cs : List AV} (h : IdOk cnt (.clo f cs)) : ∀ c ∈ cs, IdOk cnt c := by
  obtain ⟨C, v, rfl, h⟩ := h
  cases h with
  | clo f cs a hl hr =>
    intro c hc
    obtain ⟨i, hi, rfl⟩ := List.getElem_of_mem hc
    exact ⟨C, a[i]'(by omega), rfl, hr i _ _ (by simp [hi]) (by simp)⟩

section
variable {P : Program} {call : Nat → List AV → Option AV} {st st' : St}

/-- The heaps agree where anything has been given. -/
def HeapEq (st st' : St) : Prop := ∀ s g, g < st.cnt s → st'.heap s g = st.heap s g

theorem readAt_congr {x : AV} (hx : IdOk st.cnt x) (hh : HeapEq st st') : readAt st' x = readAt st x := by
  cases x <;> simp only [readAt]
  rw [hh _ _ hx.ptr]

theorem sliceView_congr {x : AV} (hx : IdOk st.cnt x) (hh : HeapEq st st') : sliceView st' x = sliceView st x := by
  cases x
  case own => simp only [sliceView, hh _ _ hx.own]
  case vw => simp only [sliceView, hh _ _ hx.vw]
  case v y =>
    cases y
    case slice p n c => cases p <;> cases n <;> cases c <;> rfl
    all_goals rfl
  all_goals rfl

theorem indexAddrA_congr {T : Nat} {x i : AV} (hx : IdOk st.cnt x) (hh : HeapEq st st') : indexAddrA P st' T x i = indexAddrA P st T x i := by
  unfold indexAddrA
  cases x <;> try rfl
  simp only [hh _ _ hx.own]

theorem sliceA_congr {T : Nat} {x : AV} {lo hi : Option Operand} (hx : IdOk st.cnt x) (hh : HeapEq st st') (hl : ∀ p, lo = some p → st'.ev p = st.ev p) (hi' : ∀ p, hi = some p → st'.ev p = st.ev p) : sliceA P st' T x lo hi = sliceA P st T x lo hi := by
  cases lo with
  | none => cases hi with
    | none =>
      unfold sliceA
      cases x
      case own => simp only [hh _ _ hx.own]
      case v y =>
        cases y
        case slice p n c => cases p <;> cases n <;> cases c <;> rfl
        all_goals rfl
      all_goals rfl
    | some h =>
      have e := hi' h rfl
      unfold sliceA
      simp only [e]
      cases x
      case own => simp only [hh _ _ hx.own]
      case v y =>
        cases y
        case slice p n c => cases p <;> cases n <;> cases c <;> rfl
        all_goals rfl
      all_goals rfl
  | some l => cases hi with
    | none =>
      have e2 := hl l rfl
      unfold sliceA
      simp only [e2]
      cases x
      case own => simp only [hh _ _ hx.own]
      case v y =>
        cases y
        case slice p n c => cases p <;> cases n <;> cases c <;> rfl
        all_goals rfl
      all_goals rfl
    | some h =>
      have e := hi' h rfl
      have e2 := hl l rfl
      unfold sliceA
      simp only [e, e2]
      cases x
      case own => simp only [hh _ _ hx.own]
      case v y =>
        cases y
        case slice p n c => cases p <;> cases n <;> cases c <;> rfl
        all_goals rfl
      all_goals rfl

theorem expo1_congr {x : AV} (hx : IdOk st.cnt x) (hh : HeapEq st st') : expo1 st' x = expo1 st x := by
  unfold expo1
  cases x <;> try rfl
  · simp only [hh _ _ hx.ptr]
  · simp only [hh _ _ hx.own]
  · simp only [hh _ _ hx.vw]

theorem expo_congr {x : AV} (hx : IdOk st.cnt x) (hh : HeapEq st st') : expo st' x = expo st x := by
  unfold expo
  cases x <;> try (simp only [expo1_congr hx hh]; done)
  · rename_i cs
    have : cs.map (expo1 st') = cs.map (expo1 st) := List.map_congr_left fun c hc => expo1_congr (hx.agg c hc) hh
    simp only [this]
  · rename_i f cs
    have : cs.map (expo1 st') = cs.map (expo1 st) := List.map_congr_left fun c hc => expo1_congr (hx.clo c hc) hh
    simp only [this]

theorem storeA_congr {T : Nat} {x y : AV} (hx : IdOk st.cnt x) (hh : HeapEq st st') : storeA P st' T x y = storeA P st T x y := by
  unfold storeA
  cases x <;> try rfl
  simp only [hh _ _ hx.ptr]

theorem appendA_congr {T : Nat} {s x : AV} (hs : IdOk st.cnt s) (hx : IdOk st.cnt x) (hh : HeapEq st st') : appendA P st' T s x = appendA P st T s x := by
  unfold appendA
  simp only [sliceView_congr hx hh]
  cases s
  case own => simp only [hh _ _ hs.own]
  case v y =>
    cases y
    case slice p n c => cases p <;> cases n <;> cases c <;> rfl
    all_goals rfl
  all_goals rfl

theorem lookA_congr {T : Nat} {m x : AV} {ok : Bool} (hm : IdOk st.cnt m) (hh : HeapEq st st') : lookA P st' T m x ok = lookA P st T m x ok := by
  unfold lookA
  cases m <;> try rfl
  simp only [hh _ _ hm.mp]
theorem mapSetA_congr {T : Nat} {m x y : AV} (hm : IdOk st.cnt m) (hh : HeapEq st st') : mapSetA P st' T m x y = mapSetA P st T m x y := by
  unfold mapSetA
  cases m <;> try rfl
  simp only [hh _ _ hm.mp]

theorem putRes_congr {r : AV} {dst : Option Nat} (hc : ∀ d, dst = some d → st'.cnt d = st.cnt d) : putRes r st' dst = putRes r st dst := by
  unfold putRes
  cases dst with
  | none => rfl
  | some d => simp only [hc d rfl]

theorem callFn_congr {g : Nat} {args : List AV} {dst : Option Nat} (hx : ∀ x ∈ args, IdOk st.cnt x) (hh : HeapEq st st') (hc : ∀ d, dst = some d → st'.cnt d = st.cnt d) : callFn call g args st' dst = callFn call g args st dst := by
  unfold callFn
  have : args.map (expo st') = args.map (expo st) := List.map_congr_left fun x hx' => expo_congr (hx x hx') hh
  rw [this]
  have h2 : ∀ r, putRes r st' dst = putRes r st dst := fun r => putRes_congr hc
  simp only [h2]

theorem callMv_congr {g : Nat} {args : List AV} {dst : Option Nat} (hx : ∀ x ∈ args, IdOk st.cnt x) (hh : HeapEq st st') (hc : ∀ d, dst = some d → st'.cnt d = st.cnt d) : callMv call g args st' dst = callMv call g args st dst := by
  unfold callMv
  split
  · rename_i s k rest
    rw [hh _ _ (hx _ (List.mem_cons_self ..)).own]
    cases dst with
    | none => rfl
    | some d => simp only [hc d rfl]
  · exact callFn_congr hx hh hc

theorem callEat_congr {g : Nat} {args : List AV} {dst : Option Nat} (hx : ∀ x ∈ args, IdOk st.cnt x) (hh : HeapEq st st') (hc : ∀ d, dst = some d → st'.cnt d = st.cnt d) : callEat call g args st' dst = callEat call g args st dst := by
  have h1 := callFn_congr (call := call) (g := g) hx hh hc
  have : args.map (expo st') = args.map (expo st) := List.map_congr_left fun x hx' => expo_congr (hx x hx') hh
  unfold callEat
  rw [this, h1]

theorem ev_parts {parts : List (Nat × Operand)} (h : ∀ p ∈ parts, st'.ev p.2 = st.ev p.2) : (parts.map fun p => (p.1, st'.ev p.2)) = parts.map fun p => (p.1, st.ev p.2) :=
  List.map_congr_left fun p hp => by rw [h p hp]
theorem ev_stor {parts : List (Nat × Operand)} (h : ∀ p ∈ parts, st'.ev p.2 = st.ev p.2) : (parts.all fun p => (st'.ev p.2).stor) = parts.all fun p => (st.ev p.2).stor := by
  induction parts with
  | nil => rfl
  | cons p ps ih =>
    simp only [List.all_cons]
    rw [h p (by simp), ih fun q hq => h q (by simp [hq])]

theorem asFn_caps {cnt : Nat → Nat} {x : AV} {g : Nat} {caps : List AV} (h : asFn x = some (g, caps)) (hx : IdOk cnt x) : ∀ c ∈ caps, IdOk cnt c := by
  unfold asFn at h
  split at h
  · split at h
    · simp only [Option.some.injEq, Prod.mk.injEq] at h
      obtain ⟨rfl, rfl⟩ := h
      simp
    · cases h
  · simp only [Option.some.injEq, Prod.mk.injEq] at h
    obtain ⟨rfl, rfl⟩ := h
    exact hx.clo
  · cases h

variable [Ext]
theorem callEff_congr {c : Call} {dst : Option Nat} (he : ∀ p ∈ c.operands, st'.ev p = st.ev p) (hi : ∀ p ∈ c.operands, IdOk st.cnt (st.ev p)) (hh : HeapEq st st') (hc : ∀ d, dst = some d → st'.cnt d = st.cnt d) :
    callEff P call c dst st' = callEff P call c dst st := by
  have hargs : ∀ p ∈ c.args.toList, p ∈ c.operands := fun p hp => by simp [Call.operands]; right; simpa using hp
  unfold callEff
  split
  · rename_i f hf
    have hfo : f ∈ c.operands := by simp [Call.operands, hf]
    have hm : c.args.toList.map st'.ev = c.args.toList.map st.ev := List.map_congr_left fun p hp => he p (hargs p hp)
    have hia : ∀ x ∈ c.args.toList.map st.ev, IdOk st.cnt x := fun x hx => by
      obtain ⟨p, hp, rfl⟩ := List.mem_map.1 hx
      exact hi p (hargs p hp)
    unfold callVal
    rw [hm]
    split
    · split
      · exact callMv_congr hia hh hc
      · split
        · exact callEat_congr hia hh hc
        · exact callFn_congr hia hh hc
    · rw [he f hfo]
      cases h : asFn (st.ev f) with
      | none => rfl
      | some gc =>
        obtain ⟨g, caps⟩ := gc
        refine callFn_congr (fun x hx => ?_) hh hc
        rcases List.mem_append.1 hx with hx | hx
        · exact hia x hx
        · exact asFn_caps h (hi f hfo) x hx
  · split
    · rename_i x T hx hT
      have hxo := hargs x (by rw [hx]; simp)
      rw [he x hxo, sliceView_congr (hi x hxo) hh]
    · rfl
  · split
    · rename_i x y hx
      rw [he x (hargs x (by rw [hx]; simp)), he y (hargs y (by rw [hx]; simp))]
    · rfl
  · cases dst with
    | none => rfl
    | some d =>
    simp only [bnd]
    split
    · rename_i s x T T' hx hT
      have hso := hargs s (by rw [hx]; simp)
      have hxo := hargs x (by rw [hx]; simp)
      rw [he s hso, he x hxo, appendA_congr (hi s hso) (hi x hxo) hh, hc d rfl]
    · rfl
  · rfl

theorem opEff_congr {o : Oper} (he : ∀ p ∈ o.op.operands, st'.ev p = st.ev p) (hi : ∀ p ∈ o.op.operands, IdOk st.cnt (st.ev p)) (hh : HeapEq st st') (hc : ∀ d, o.dst = some d → st'.cnt d = st.cnt d) :
    opEff P call o st' = opEff P call o st := by
  obtain ⟨dst, op, type, pos, after, guard⟩ := o
  cases op <;> simp only [opEff, opVal, Op.operands] at *
  case call c => exact callEff_congr he hi hh hc
  case alloc T => cases dst with
    | none => rfl
    | some d => simp only [bnd, hc d rfl]
  case box T x => cases dst with
    | none => rfl
    | some d => simp only [bnd, hc d rfl, he x (by simp)]
  case buildSlice T n parts =>
    have he' : ∀ p ∈ parts.toList, st'.ev p.2 = st.ev p.2 := fun p hp => he p.2 (by simp; exact ⟨p.1, by simpa using hp⟩)
    rw [ev_parts he', ev_stor he']
    cases dst with
    | none => rfl
    | some d => simp only [bnd, hc d rfl]
  case makeSlice T l c =>
    rw [he l (by simp), he c (by simp)]
    cases dst with
    | none => rfl
    | some d => simp only [bnd, hc d rfl]
  case makeMap T r =>
    cases r with
    | none => cases dst with
      | none => rfl
      | some d => simp only [bnd, hc d rfl]
    | some r => rfl
  case mapUpdate T m x y => rw [he m (by simp), he x (by simp), he y (by simp), mapSetA_congr (hi m (by simp)) hh]
  case lookup T m x ok => rw [he m (by simp), he x (by simp), lookA_congr (hi m (by simp)) hh]
  case store T x y => rw [he x (by simp), he y (by simp), storeA_congr (hi x (by simp)) hh]
  case move x => rw [he x (by simp)]
  case assign x => rw [he x (by simp)]
  case pick c x y => rw [he c (by simp), he x (by simp), he y (by simp)]
  case binOp op T x y yT => rw [he x (by simp), he y (by simp)]
  case unOp op T x => rw [he x (by simp)]
  case convert s d x => rw [he x (by simp)]
  case nilCheck x => rw [he x (by simp)]
  case fieldAddr T x f => rw [he x (by simp)]
  case indexAddr T x i => rw [he x (by simp), he i (by simp), indexAddrA_congr (hi x (by simp)) hh]
  case load T x => rw [he x (by simp), readAt_congr (hi x (by simp)) hh]
  case extract t i => rw [he t (by simp)]
  case build T parts =>
    have he' : ∀ p ∈ parts.toList, st'.ev p.2 = st.ev p.2 := fun p hp => he p.2 (by simp; exact ⟨p.1, by simpa using hp⟩)
    unfold buildA
    rw [ev_parts he', ev_stor he']
  case slice T x lo hi' mx =>
    cases mx with
    | some m =>
      cases hi' with
      | none => rfl
      | some h =>
        simp only
        unfold sliceA3
        rw [he x (by simp), he h (by simp), he m (by simp)]
        cases lo with
        | none => rfl
        | some l => simp only [he l (by simp)]
    | none =>
      simp only
      rw [he x (by simp), sliceA_congr (hi x (by simp)) hh (fun p hp => he p (by simp [hp])) (fun p hp => he p (by simp [hp]))]
  case makeFunc fn first captured =>
    cases fn with
    | func f =>
      simp only
      have : captured.toList.map st'.ev = captured.toList.map st.ev := List.map_congr_left fun p hp => he p (by simp; right; simpa using hp)
      rw [this]
    | _ => rfl

/-- Operations that do not look into memory. -/
theorem opEff_congr0 {ops : Array Oper} {o : Oper} (hcl : opClass ops o = 0 ∨ opClass ops o = 2) (he : ∀ p ∈ o.op.operands, st'.ev p = st.ev p) (hc : ∀ d, o.dst = some d → st'.cnt d = st.cnt d) :
    opEff P call o st' = opEff P call o st := by
  obtain ⟨dst, op, type, pos, after, guard⟩ := o
  cases op <;> simp only [opEff, opVal, Op.operands, opClass] at *
  case call c =>
    exfalso
    obtain ⟨callee, args, ats⟩ := c
    cases callee with
    | builtin b => cases b <;> simp at hcl; split at hcl <;> simp at hcl
    | value f => cases f <;> simp at hcl; split at hcl <;> simp at hcl
    | _ => simp at hcl
  case alloc T => cases dst with
    | none => rfl
    | some d => simp only [bnd, hc d rfl]
  case box T x => cases dst with
    | none => rfl
    | some d => simp only [bnd, hc d rfl, he x (by simp)]
  case buildSlice T n parts =>
    have he' : ∀ p ∈ parts.toList, st'.ev p.2 = st.ev p.2 := fun p hp => he p.2 (by simp; exact ⟨p.1, by simpa using hp⟩)
    rw [ev_parts he', ev_stor he']
    cases dst with
    | none => rfl
    | some d => simp only [bnd, hc d rfl]
  case makeSlice T l c =>
    rw [he l (by simp), he c (by simp)]
    cases dst with
    | none => rfl
    | some d => simp only [bnd, hc d rfl]
  case makeMap T r =>
    cases r with
    | none => cases dst with
      | none => rfl
      | some d => simp only [bnd, hc d rfl]
    | some r => rfl
  case mapUpdate T m x y => simp at hcl
  case lookup T m x ok => simp at hcl
  case store T x y => simp at hcl
  case move x => rw [he x (by simp)]
  case assign x => rw [he x (by simp)]
  case pick c x y => rw [he c (by simp), he x (by simp), he y (by simp)]
  case binOp op T x y yT => rw [he x (by simp), he y (by simp)]
  case unOp op T x => rw [he x (by simp)]
  case convert s d x => rw [he x (by simp)]
  case nilCheck x => rw [he x (by simp)]
  case fieldAddr T x f => rw [he x (by simp)]
  case indexAddr T x i => simp at hcl
  case load T x => simp at hcl
  case extract t i => rw [he t (by simp)]
  case build T parts =>
    have he' : ∀ p ∈ parts.toList, st'.ev p.2 = st.ev p.2 := fun p hp => he p.2 (by simp; exact ⟨p.1, by simpa using hp⟩)
    unfold buildA
    rw [ev_parts he', ev_stor he']
  case slice T x lo hi' mx => simp at hcl
  case makeFunc fn first captured =>
    cases fn with
    | func f =>
      simp only
      have : captured.toList.map st'.ev = captured.toList.map st.ev := List.map_congr_left fun p hp => he p (by simp; right; simpa using hp)
      rw [this]
    | _ => rfl
end
end Go.Ab
end
section
namespace Go.Ab
open Classical

section
variable {P : Program} {call : Nat → List AV → Option AV} {st st' : St} {ops : Array Oper}

theorem putRes_shape {r : AV} {dst : Option Nat} {e : Eff} (h : putRes r st dst = some e) : e.dst = dst ∧ e.upd = none ∧ ∀ d x, e.new = some (d, x) → dst = some d := by
  unfold putRes at h
  split at h
  · simp only [Option.some.injEq] at h; subst h; exact ⟨rfl, rfl, fun d x h => by simp at h⟩
  · cases dst with
    | none => cases h
    | some d => simp only [Option.some.injEq] at h; subst h; exact ⟨rfl, rfl, fun d x h => by simp at h; rw [h.1]⟩

theorem callFn_shape {g : Nat} {args : List AV} {dst : Option Nat} {e : Eff} (h : callFn call g args st dst = some e) : e.dst = dst ∧ e.upd = none ∧ ∀ d x, e.new = some (d, x) → dst = some d := by
  unfold callFn at h
  split at h
  · cases hc : call g args with
    | none => simp [hc, bnd] at h
    | some r => simp only [hc, bnd] at h; exact putRes_shape h
  · split at h
    · rename_i xs _
      cases hc : call g xs with
      | none => simp [hc, bnd] at h
      | some r =>
        simp only [hc, bnd] at h
        split at h
        · exact putRes_shape h
        · cases h
    · cases h

theorem callMv_shape {g : Nat} {args : List AV} {dst : Option Nat} {e : Eff} (h : callMv call g args st dst = some e) : e.dst = dst ∧ (∀ d x, e.new = some (d, x) → dst = some d) ∧ ∀ s k x, e.upd = some (s, k, x) → args.head? = some (.own s k) := by
  unfold callMv at h
  split at h
  · split at h
    · split at h
      · split at h
        · cases dst with
          | none => cases h
          | some d =>
            simp only [Option.some.injEq] at h; subst h
            exact ⟨rfl, fun d x h => by simp at h; rw [h.1], fun s k x h => by simp at h; simp [h.1, h.2.1]⟩
        · simp only [Option.some.injEq] at h; subst h
          exact ⟨rfl, fun d x h => by simp at h, fun s k x h => by simp at h; simp [h.1, h.2.1]⟩
        · cases h
      · cases h
    · cases h
  · obtain ⟨h1, h2, h3⟩ := callFn_shape h
    exact ⟨h1, h3, fun s k x h => by rw [h2] at h; cases h⟩

theorem callEat_shape {g : Nat} {args : List AV} {dst : Option Nat} {e : Eff} (h : callEat call g args st dst = some e) : e.dst = dst ∧ (∀ d x, e.new = some (d, x) → dst = some d) ∧ ∀ s k x, e.upd = some (s, k, x) → ∃ y ∈ args, y = .own s k ∨ ∃ cs, y = .agg cs ∧ .own s k ∈ cs := by
  unfold callEat at h
  split at h
  · rename_i s k hk
    split at h
    · split at h
      · rename_i xs _
        cases hc : call g xs with
        | none => simp [hc, bnd] at h
        | some r =>
          simp only [hc, bnd] at h
          split at h
          · simp only [Option.some.injEq] at h
            subst h
            refine ⟨rfl, fun d x h => by simp at h, fun s' k' x h => ?_⟩
            simp only [Option.some.injEq, Prod.mk.injEq] at h
            obtain ⟨rfl, rfl, _⟩ := h
            have hm : (s, k) ∈ args.flatMap ownKeys1 := by rw [hk]; simp
            obtain ⟨y, hy, hyk⟩ := List.mem_flatMap.1 hm
            refine ⟨y, hy, ?_⟩
            have key : ∀ c, (s, k) ∈ ownKey c → c = .own s k := fun c hc => by
              cases c <;> simp [ownKey] at hc
              obtain ⟨rfl, rfl⟩ := hc
              rfl
            cases y with
            | agg cs =>
              obtain ⟨c, hc, hck⟩ := List.mem_flatMap.1 (show (s, k) ∈ cs.flatMap ownKey from hyk)
              exact .inr ⟨cs, rfl, by rw [← key c hck]; exact hc⟩
            | own a b => exact .inl (key _ hyk)
            | _ => simp [ownKeys1, ownKey] at hyk
          · cases h
      · cases h
    · cases h
  · obtain ⟨h1, h2, h3⟩ := callFn_shape h
    exact ⟨h1, h3, fun s k x h => by rw [h2] at h; cases h⟩

theorem apply_env (e : Eff) (t : Nat) : (e.apply st).env t = if e.dst = some t then e.val else st.env t := by
  have h2 : ∀ (s1 : St), (s1.put e.dst e.val).env t = if e.dst = some t then e.val else s1.env t := fun s1 => by
    cases hd : e.dst with
    | none => simp [St.put]
    | some d =>
      simp only [St.put, Option.some.injEq]
      by_cases h : t = d
      · subst h; simp
      · rw [if_neg h, if_neg (fun h' => h h'.symm)]
  unfold Eff.apply
  rw [h2]
  cases e.upd <;> cases e.new <;> rfl

theorem apply_cnt (e : Eff) (s : Nat) : (e.apply st).cnt s = match e.new with
    | some (d, es) => if s = d then st.cnt d + es.length else st.cnt s
    | none => st.cnt s := by
  unfold Eff.apply
  rw [put_cnt]
  cases e.upd <;> cases e.new <;> rfl

theorem apply_heap (e : Eff) (s g : Nat) : (e.apply st).heap s g = match e.new with
    | some (d, es) => if s = d ∧ st.cnt d ≤ g ∧ g - st.cnt d < es.length then es[g - st.cnt d]? else (match e.upd with
      | some (s0, g0, y) => if s = s0 ∧ g = g0 then y else st.heap s g
      | none => st.heap s g)
    | none => (match e.upd with
      | some (s0, g0, y) => if s = s0 ∧ g = g0 then y else st.heap s g
      | none => st.heap s g) := by
  unfold Eff.apply
  rw [put_heap]
  cases e.upd <;> cases e.new <;> rfl

theorem looksAt_spec {o : Oper} {t : Nat} (h : t ∉ o.looksAt ops) : (∀ p ∈ o.op.operands, p ≠ .tmp t) ∧ (∀ j want d, o.guard = some (j, want) → (ops[j]?).bind (·.dst) = some d → d ≠ t) := by
  unfold Oper.looksAt at h
  simp only [List.mem_append, not_or] at h
  refine ⟨fun p hp he => ?_, fun j want d hg hd he => ?_⟩
  · subst he
    exact h.1 (List.mem_filterMap.2 ⟨.tmp t, by simpa using hp, rfl⟩)
  · subst he
    apply h.2
    rw [hg]
    simp [hd]

theorem gv_congr {o : Oper} (h : ∀ j want d, o.guard = some (j, want) → (ops[j]?).bind (·.dst) = some d → st'.env d = st.env d) : gv ops st' o.guard = gv ops st o.guard := by
  unfold gv
  cases hg : o.guard with
  | none => rfl
  | some jw =>
    obtain ⟨j, want⟩ := jw
    simp only
    cases hd : (ops[j]?).bind (·.dst) with
    | none => rfl
    | some d => simp only [h j want d hg hd]

theorem st_ext {a b : St} (h1 : a.env = b.env) (h2 : a.heap = b.heap) (h3 : a.cnt = b.cnt) : a = b := by
  cases a; cases b; simp_all

variable [Ext]
/-- What an operation's effect looks like. -/
theorem opEff_shape {o : Oper} {e : Eff} (h : opEff P call o st = some e) :
    e.dst = o.dst ∧ (∀ d x, e.new = some (d, x) → o.dst = some d) ∧ (∀ s g x, e.upd = some (s, g, x) → opClass ops o = 3 ∧ ∃ p ∈ o.op.operands, (∃ off, st.ev p = .ptr s g off) ∨ st.ev p = .own s g ∨ st.ev p = .mp s g ∨ ∃ cs, st.ev p = .agg cs ∧ .own s g ∈ cs) := by
  obtain ⟨dst, op, type, pos, after, guard⟩ := o
  have val : ∀ x : Option AV, (x.map fun y => ({ dst := dst, val := y } : Eff)) = some e → e.dst = dst ∧ (∀ d x, e.new = some (d, x) → dst = some d) ∧ (∀ s g x, e.upd ≠ some (s, g, x)) := fun x h => by
    cases x with
    | none => simp at h
    | some y => simp at h; subst h; exact ⟨rfl, fun d x h => by simp at h, fun s g x h => by simp at h⟩
  cases op
  case call c =>
    simp only [opEff] at h
    unfold callEff at h
    split at h
    · rename_i f hc
      unfold callVal at h
      split at h
      · rename_i g
        split at h
        · rename_i hmv
          obtain ⟨h1, h2, h3⟩ := callMv_shape h
          refine ⟨h1, h2, fun s k x hu => ?_⟩
          have hh := h3 s k x hu
          obtain ⟨callee, args, ats⟩ := c
          simp only at hc hh
          subst hc
          refine ⟨by simp [opClass, hmv], ?_⟩
          cases hl : args.toList with
          | nil => rw [hl] at hh; simp at hh
          | cons p ps =>
            rw [hl] at hh
            simp only [List.map_cons, List.head?_cons, Option.some.injEq] at hh
            refine ⟨p, ?_, .inr (.inl hh)⟩
            simp only [Op.operands, Call.operands]
            simp
            right
            rw [← Array.mem_toList_iff, hl]
            simp
        · split at h
          · rename_i heat
            obtain ⟨h1, h2, h3⟩ := callEat_shape h
            refine ⟨h1, h2, fun s k x hu => ?_⟩
            obtain ⟨y, hy, hyo⟩ := h3 s k x hu
            obtain ⟨callee, args, ats⟩ := c
            simp only at hc hy
            subst hc
            refine ⟨by simp [opClass, heat], ?_⟩
            obtain ⟨p, hp, rfl⟩ := List.mem_map.1 hy
            refine ⟨p, ?_, ?_⟩
            · simp only [Op.operands, Call.operands]
              simp
              right
              simpa using hp
            · rcases hyo with h | ⟨cs, h, hm⟩
              · exact .inr (.inl h)
              · exact .inr (.inr (.inr ⟨cs, h, hm⟩))
          · obtain ⟨h1, h2, h3⟩ := callFn_shape h
            exact ⟨h1, h3, fun s g x h => by rw [h2] at h; cases h⟩
      · split at h
        · obtain ⟨h1, h2, h3⟩ := callFn_shape h
          exact ⟨h1, h3, fun s g x h => by rw [h2] at h; cases h⟩
        · cases h
    · split at h
      · split at h
        · simp only [Option.some.injEq] at h; subst h; exact ⟨rfl, fun d x h => by simp at h, fun s g x h => by simp at h⟩
        · cases h
      · cases h
    · split at h
      · split at h
        · simp only [Option.some.injEq] at h; subst h; exact ⟨rfl, fun d x h => by simp at h, fun s g x h => by simp at h⟩
        · cases h
      · cases h
    · rename_i hc
      cases dst with
      | none => simp [bnd] at h
      | some d =>
        simp only [bnd] at h
        split at h
        · rename_i s x T T' hx hT
          split at h
          · cases hap : appendA P st T (st.ev s) (st.ev x) with
            | none => simp [hap] at h
            | some ur =>
              obtain ⟨u, r⟩ := ur
              simp only [hap, Option.some.injEq] at h
              subst h
              refine ⟨rfl, fun d x h => by simp at h; rw [h.1], fun s' g' x' hu => ?_⟩
              simp only [Option.map_eq_some_iff] at hu
              obtain ⟨⟨s2, g2⟩, hu1, hu2⟩ := hu
              simp only [Prod.mk.injEq] at hu2
              obtain ⟨rfl, rfl, rfl⟩ := hu2
              subst hu1
              have hown : st.ev s = .own s2 g2 := by
                unfold appendA at hap
                split at hap
                · split at hap
                  · split at hap
                    · split at hap
                      · split at hap <;> simp at hap
                      · rename_i s3 g3 hs3
                        split at hap
                        · split at hap
                          · simp only [Option.some.injEq, Prod.mk.injEq] at hap
                            obtain ⟨⟨rfl, rfl⟩, _⟩ := hap
                            exact hs3
                          · cases hap
                        · cases hap
                      · split at hap <;> simp at hap
                      · cases hap
                    · cases hap
                  · cases hap
                · cases hap
              refine ⟨?_, s, ?_, .inr (.inl hown)⟩
              · obtain ⟨callee, args, ats⟩ := c
                simp only at hc hx
                subst hc
                simp only [opClass, hx]
                cases s with
                | const v =>
                  simp [St.ev] at hown
                | _ => rfl
              · simp only [Op.operands, Call.operands, hc]
                simp
                rw [← Array.mem_toList_iff, hx]
                simp
          · cases h
        · cases h
    · cases h
  case store T x y =>
    simp only [opEff] at h
    cases hs : storeA P st T (st.ev x) (st.ev y) with
    | none => simp [hs] at h
    | some u =>
      obtain ⟨s, g, e'⟩ := u
      simp only [hs, Option.map_some, Option.some.injEq] at h
      subst h
      refine ⟨rfl, fun d x h => by simp at h, fun s' g' x' hu => ⟨rfl, x, by simp [Op.operands], .inl ?_⟩⟩
      simp only [Option.some.injEq, Prod.mk.injEq] at hu
      obtain ⟨rfl, rfl, _⟩ := hu
      unfold storeA at hs
      split at hs
      · rename_i s1 g1 o1 hp
        refine ⟨o1, ?_⟩
        rw [hp]
        split at hs
        · split at hs
          · split at hs
            · split at hs
              · simp only [Option.some.injEq, Prod.mk.injEq] at hs; rw [hs.1, hs.2.1]
              · cases hs
            · split at hs
              · simp only [Option.some.injEq, Prod.mk.injEq] at hs; rw [hs.1, hs.2.1]
              · cases hs
            · cases hs
          · cases hs
        · cases hs
      · cases hs
  case alloc T =>
    simp only [opEff] at h
    cases dst with
    | none => simp [bnd] at h
    | some d => cases hz : zeroL P T with
      | none => simp [hz, bnd] at h
      | some z => simp only [hz, bnd, Option.some.injEq] at h; subst h; exact ⟨rfl, fun d x h => by simp at h; rw [h.1], fun s g x h => by simp at h⟩
  case box T x =>
    simp only [opEff] at h
    cases dst with
    | none => simp [bnd] at h
    | some d =>
      simp only [bnd] at h
      split at h
      · simp only [Option.some.injEq] at h; subst h; exact ⟨rfl, fun d x h => by simp at h; rw [h.1], fun s g x h => by simp at h⟩
      · cases h
  case buildSlice T n parts =>
    simp only [opEff] at h
    cases dst with
    | none => simp [bnd] at h
    | some d => cases hs : slInfo P T with
      | none => simp [hs, bnd] at h
      | some t => cases hz : zeroL P t.1 with
        | none => simp [hs, hz, bnd] at h
        | some z =>
          simp only [hs, hz, bnd] at h
          split at h
          · cases hf : fillA (fun i => some (i * t.2.1, t.2.1)) ((List.range n).flatMap fun _ => z.map .v) (parts.toList.map fun p => (p.1, st.ev p.2)) with
            | none => simp [hf] at h
            | some cs => simp only [hf, Option.some.injEq] at h; subst h; exact ⟨rfl, fun d x h => by simp at h; rw [h.1], fun s g x h => by simp at h⟩
          · cases h
  case makeSlice T l c =>
    simp only [opEff] at h
    cases dst with
    | none => simp [bnd] at h
    | some d => cases hs : slInfo P T with
      | none => simp [hs, bnd] at h
      | some t => cases hz : zeroL P t.1 with
        | none => simp [hs, hz, bnd] at h
        | some z =>
          simp only [hs, hz, bnd] at h
          split at h
          · split at h
            · simp only [Option.some.injEq] at h; subst h; exact ⟨rfl, fun d x h => by simp at h; rw [h.1], fun s g x h => by simp at h⟩
            · cases h
          · cases h
  case makeMap T r =>
    cases r with
    | none =>
      simp only [opEff] at h
      cases dst with
      | none => simp [bnd] at h
      | some d => simp only [bnd, Option.some.injEq] at h; subst h; exact ⟨rfl, fun d x h => by simp at h; rw [h.1], fun s g x h => by simp at h⟩
    | some r =>
      simp only [opEff] at h
      obtain ⟨h1, h2, h3⟩ := val _ h
      exact ⟨h1, h2, fun s g x hu => absurd hu (h3 s g x)⟩
  case mapUpdate T m x y =>
    simp only [opEff] at h
    cases hs : mapSetA P st T (st.ev m) (st.ev x) (st.ev y) with
    | none => simp [hs] at h
    | some u =>
      obtain ⟨s, g, e'⟩ := u
      simp only [hs, Option.map_some, Option.some.injEq] at h
      subst h
      refine ⟨rfl, fun d x h => by simp at h, fun s' g' x' hu => ⟨rfl, m, by simp [Op.operands], .inr (.inr (.inl ?_))⟩⟩
      simp only [Option.some.injEq, Prod.mk.injEq] at hu
      obtain ⟨rfl, rfl, _⟩ := hu
      unfold mapSetA at hs
      split at hs
      · rename_i s1 g1 hp
        rw [hp]
        split at hs
        · split at hs
          · simp only [Option.some.injEq, Prod.mk.injEq] at hs; rw [hs.1, hs.2.1]
          · cases hs
        · cases hs
      · cases hs
  all_goals
    simp only [opEff] at h
    obtain ⟨h1, h2, h3⟩ := val _ h
    exact ⟨h1, h2, fun s g x hu => absurd hu (h3 s g x)⟩

/-- One operation, guard and all, as an effect. -/
noncomputable def evEff (P : Program) (call : Nat → List AV → Option AV) (ops : Array Oper) (o : Oper) (st : St) : Option Eff :=
  match gv ops st o.guard with
  | some b => if b = true then opEff P call o st else some { dst := o.dst, val := .v undef }
  | none => none

theorem evOp_eq (o : Oper) : evOp P call ops o st = (evEff P call ops o st).map fun e => e.apply st := by
  unfold evOp evEff
  cases gv ops st o.guard with
  | none => rfl
  | some b => cases b <;> rfl

theorem evEff_shape {o : Oper} {e : Eff} (h : evEff P call ops o st = some e) :
    e.dst = o.dst ∧ (∀ d x, e.new = some (d, x) → o.dst = some d) ∧ (∀ s g x, e.upd = some (s, g, x) → opClass ops o = 3 ∧ ∃ p ∈ o.op.operands, (∃ off, st.ev p = .ptr s g off) ∨ st.ev p = .own s g ∨ st.ev p = .mp s g ∨ ∃ cs, st.ev p = .agg cs ∧ .own s g ∈ cs) := by
  unfold evEff at h
  split at h
  · split at h
    · exact opEff_shape h
    · simp only [Option.some.injEq] at h; subst h; exact ⟨rfl, fun d x h => by simp at h, fun s g x h => by simp at h⟩
  · cases h

/-- An operation's effect does not change by what an operation does that stands apart. -/
theorem evEff_other {x y : Oper} {ex : Eff} (hap : apartOk ops x y = true ∨ apartOk ops y x = true) (hid : ∀ t, IdOk st.cnt (st.env t)) (hx : evEff P call ops x st = some ex) :
    evEff P call ops y (ex.apply st) = evEff P call ops y st := by
  obtain ⟨sd, sn, su⟩ := evEff_shape hx
  have hlook : (∀ d, x.dst = some d → d ∉ y.looksAt ops) ∧ (∀ d, x.dst = some d → y.dst ≠ some d) := by
    rcases hap with h | h
    · simp only [apartOk, Bool.and_eq_true] at h
      obtain ⟨h1, h2, _⟩ := Oper.apart_spec h.1
      exact ⟨h1, h2⟩
    · simp only [apartOk, Bool.and_eq_true] at h
      obtain ⟨_, h2, h3⟩ := Oper.apart_spec h.1
      exact ⟨h3, fun d hd hy => h2 d hy hd⟩
  have henv : ∀ t, t ∈ y.looksAt ops → (ex.apply st).env t = st.env t := fun t ht => by
    rw [apply_env, if_neg]
    intro h
    rw [sd] at h
    exact hlook.1 t h ht
  have hev : ∀ p ∈ y.op.operands, (ex.apply st).ev p = st.ev p := fun p hp => by
    cases p with
    | tmp t => exact henv t (by unfold Oper.looksAt; exact List.mem_append_left _ (List.mem_filterMap.2 ⟨.tmp t, by simpa using hp, rfl⟩))
    | _ => rfl
  have hgv : gv ops (ex.apply st) y.guard = gv ops st y.guard := gv_congr fun j want d hg hd => henv d (by
    unfold Oper.looksAt
    apply List.mem_append_right
    rw [hg]
    simp [hd])
  have hcnt : ∀ d, y.dst = some d → (ex.apply st).cnt d = st.cnt d := fun d hd => by
    rw [apply_cnt]
    split
    · rename_i d' z hn
      have := sn d' z hn
      rw [if_neg]
      rintro rfl
      exact hlook.2 d this hd
    · rfl
  have hidp : ∀ p ∈ y.op.operands, IdOk st.cnt (st.ev p) := fun p hp => by
    cases p with
    | tmp t => exact hid t
    | const v => exact ⟨⟨fun _ _ => False, fun _ _ => undef, st.cnt⟩, v, rfl, .v v⟩
    | global g => exact ⟨⟨fun _ _ => False, fun _ _ => undef, st.cnt⟩, _, rfl, .v _⟩
    | func f => exact ⟨⟨fun _ _ => False, fun _ _ => undef, st.cnt⟩, _, rfl, .v _⟩
  have hop : opEff P call y (ex.apply st) = opEff P call y st := by
    by_cases h3 : opClass ops x = 3
    · refine opEff_congr0 (ops := ops) ?_ hev hcnt
      have hle : opClass ops y = 0 ∨ opClass ops y = 1 ∨ opClass ops y = 2 ∨ opClass ops y = 3 ∨ opClass ops y = 4 := by
        unfold opClass
        split <;> (try split) <;> simp
      rcases hap with h | h <;> simp only [apartOk, Bool.and_eq_true, h3] at h <;> rcases hle with e | e | e | e | e <;> simp [e] at h ⊢
    · have hnu : ex.upd = none := by
        cases hu : ex.upd with
        | none => rfl
        | some sgx => exact absurd (su sgx.1 sgx.2.1 sgx.2.2 hu).1 h3
      refine opEff_congr hev hidp (fun s g hlt => ?_) hcnt
      rw [apply_heap, hnu]
      split
      · rename_i d z hn
        rw [if_neg]
        rintro ⟨rfl, h, _⟩
        omega
      · rfl
  unfold evEff
  rw [hgv, hop]

theorem upd_id {o : Oper} {e : Eff} {s g : Nat} {z : Option Ent} (hid : ∀ t, IdOk st.cnt (st.env t)) (h : evEff P call ops o st = some e) (hu : e.upd = some (s, g, z)) : g < st.cnt s := by
  obtain ⟨_, _, su⟩ := evEff_shape h
  obtain ⟨_, p, hp, hv⟩ := su s g z hu
  have hidp : IdOk st.cnt (st.ev p) := by
    cases p with
    | tmp t => exact hid t
    | const v => exact ⟨⟨fun _ _ => False, fun _ _ => undef, st.cnt⟩, v, rfl, .v v⟩
    | global g => exact ⟨⟨fun _ _ => False, fun _ _ => undef, st.cnt⟩, _, rfl, .v _⟩
    | func f => exact ⟨⟨fun _ _ => False, fun _ _ => undef, st.cnt⟩, _, rfl, .v _⟩
  rcases hv with ⟨off, hv⟩ | hv | hv | ⟨cs, hv, hm⟩
  · rw [hv] at hidp; exact hidp.ptr
  · rw [hv] at hidp; exact hidp.own
  · rw [hv] at hidp; exact hidp.mp
  · rw [hv] at hidp; exact (hidp.agg _ hm).own

/-- Two operations that stand apart may change places. -/
theorem ev_comm {x y : Oper} (hap : apartOk ops x y = true) (hid : ∀ t, IdOk st.cnt (st.env t)) {s1 s2 : St} (hx : evOp P call ops x st = some s1) (hy : evOp P call ops y s1 = some s2) :
    ∃ s3, evOp P call ops y st = some s3 ∧ evOp P call ops x s3 = some s2 := by
  rw [evOp_eq] at hx hy
  cases hex : evEff P call ops x st with
  | none => simp [hex] at hx
  | some ex =>
    simp only [hex, Option.map_some, Option.some.injEq] at hx
    subst hx
    rw [evEff_other (.inl hap) hid hex] at hy
    cases hey : evEff P call ops y st with
    | none => simp [hey] at hy
    | some ey =>
      simp only [hey, Option.map_some, Option.some.injEq] at hy
      subst hy
      refine ⟨ey.apply st, by rw [evOp_eq, hey]; rfl, ?_⟩
      rw [evOp_eq, evEff_other (.inr hap) hid hey, hex]
      simp only [Option.map_some, Option.some.injEq]
      obtain ⟨dx, nx, ux⟩ := evEff_shape hex
      obtain ⟨dy, ny, uy⟩ := evEff_shape hey
      have hd : ∀ d, x.dst = some d → y.dst ≠ some d := by
        simp only [apartOk, Bool.and_eq_true] at hap
        exact (Oper.apart_spec hap.1).2.1
      have hcl : ¬ (ex.upd ≠ none ∧ ey.upd ≠ none) := by
        rintro ⟨h1, h2⟩
        cases hu : ex.upd with
        | none => exact h1 hu
        | some a => cases hv : ey.upd with
          | none => exact h2 hv
          | some b =>
            have e1 := (ux a.1 a.2.1 a.2.2 hu).1
            have e2 := (uy b.1 b.2.1 b.2.2 hv).1
            simp [apartOk, e1, e2] at hap
      apply st_ext
      · funext t
        rw [apply_env, apply_env, apply_env, apply_env, dx, dy]
        by_cases h1 : x.dst = some t
        · rw [if_pos h1, if_pos h1, if_neg (hd t h1)]
        · rw [if_neg h1, if_neg h1]
      · funext s g
        rw [apply_heap, apply_heap, apply_heap, apply_heap]
        have cx : ∀ d z, ey.new = some (d, z) → (ex.apply st).cnt d = st.cnt d := fun d z hn => by
          rw [apply_cnt]
          split
          · rename_i d' z' hn'
            rw [if_neg]
            rintro rfl
            exact hd _ (nx _ _ hn') (ny _ _ hn)
          · rfl
        have cy : ∀ d z, ex.new = some (d, z) → (ey.apply st).cnt d = st.cnt d := fun d z hn => by
          rw [apply_cnt]
          split
          · rename_i d' z' hn'
            rw [if_neg]
            rintro rfl
            exact hd _ (nx _ _ hn) (ny _ _ hn')
          · rfl
        cases hnx : ex.new with
        | none =>
          cases hny : ey.new with
          | none =>
            cases hux : ex.upd with
            | none => rfl
            | some a => cases huy : ey.upd with
              | none => rfl
              | some b => exact absurd ⟨by rw [hux]; simp, by rw [huy]; simp⟩ hcl
          | some b =>
            obtain ⟨d, z⟩ := b
            simp only [cx d z hny]
            cases hux : ex.upd with
            | none => rfl
            | some a =>
              obtain ⟨s0, g0, e0⟩ := a
              have hlt := upd_id hid hex hux
              cases huy : ey.upd with
              | none =>
                simp only
                by_cases h1 : s = d ∧ st.cnt d ≤ g ∧ g - st.cnt d < z.length
                · rw [if_neg (by obtain ⟨rfl, ha, hb⟩ := h1; rintro ⟨rfl, rfl⟩; omega), if_pos h1, if_pos h1]
                · rw [if_neg h1, if_neg h1]
              | some b => exact absurd ⟨by rw [hux]; simp, by rw [huy]; simp⟩ hcl
        | some a =>
          obtain ⟨d, z⟩ := a
          cases hny : ey.new with
          | none =>
            simp only [cy d z hnx]
            cases huy : ey.upd with
            | none => rfl
            | some a =>
              obtain ⟨s0, g0, e0⟩ := a
              have hlt := upd_id hid hey huy
              cases hux : ex.upd with
              | none =>
                simp only
                by_cases h1 : s = d ∧ st.cnt d ≤ g ∧ g - st.cnt d < z.length
                · rw [if_pos h1, if_neg (by obtain ⟨rfl, ha, hb⟩ := h1; rintro ⟨rfl, rfl⟩; omega), if_pos h1]
                · rw [if_neg h1, if_neg h1]
              | some b => exact absurd ⟨by rw [hux]; simp, by rw [huy]; simp⟩ hcl
          | some b =>
            obtain ⟨d', z'⟩ := b
            simp only [cy d z hnx, cx d' z' hny]
            have hdd : d ≠ d' := by
              rintro rfl
              exact hd _ (nx _ _ hnx) (ny _ _ hny)
            cases hux : ex.upd with
            | none =>
              cases huy : ey.upd with
              | none =>
                simp only
                by_cases h1 : s = d ∧ st.cnt d ≤ g ∧ g - st.cnt d < z.length
                · rw [if_pos h1, if_pos h1, if_neg (fun h => hdd (h1.1.symm.trans h.1))]
                · rw [if_neg h1, if_neg h1]
              | some b =>
                obtain ⟨s0, g0, e0⟩ := b
                have hlt := upd_id hid hey huy
                simp only
                by_cases h1 : s = d ∧ st.cnt d ≤ g ∧ g - st.cnt d < z.length
                · rw [if_pos h1, if_pos h1, if_neg (fun h => hdd (h1.1.symm.trans h.1)), if_neg (by obtain ⟨rfl, ha, hb⟩ := h1; rintro ⟨rfl, rfl⟩; omega)]
                · rw [if_neg h1, if_neg h1]
            | some a =>
              obtain ⟨s0, g0, e0⟩ := a
              have hlt := upd_id hid hex hux
              cases huy : ey.upd with
              | none =>
                simp only
                by_cases h1 : s = d ∧ st.cnt d ≤ g ∧ g - st.cnt d < z.length
                · rw [if_pos h1, if_pos h1, if_neg (fun h => hdd (h1.1.symm.trans h.1))]
                · rw [if_neg h1, if_neg h1]
                  by_cases h2 : s = d' ∧ st.cnt d' ≤ g ∧ g - st.cnt d' < z'.length
                  · rw [if_pos h2, if_neg (by obtain ⟨rfl, ha, hb⟩ := h2; rintro ⟨rfl, rfl⟩; omega), if_pos h2]
                  · rw [if_neg h2, if_neg h2]
              | some b => exact absurd ⟨by rw [hux]; simp, by rw [huy]; simp⟩ hcl
      · funext s
        cases hnx : ex.new with
        | none => cases hny : ey.new <;> simp only [apply_cnt, hnx, hny]
        | some a =>
          obtain ⟨d, z⟩ := a
          cases hny : ey.new with
          | none => simp only [apply_cnt, hnx, hny]
          | some b =>
            obtain ⟨d', z'⟩ := b
            have hdd : d ≠ d' := by
              rintro rfl
              exact hd _ (nx _ _ hnx) (ny _ _ hny)
            simp only [apply_cnt, hnx, hny]
            rw [if_neg hdd, if_neg (Ne.symm hdd)]
            by_cases h1 : s = d
            · subst h1; rw [if_neg hdd, if_pos rfl, if_neg hdd]
            · rw [if_neg h1, if_neg h1]
end
end Go.Ab
end
section
namespace Go.Ab
open Classical
variable [Ext]

def MaskGood (ops : Array Oper) (acc : Array Nat) : Prop :=
  ∀ j o, j < acc.size → ops[j]? = some o → ∀ k, (acc.getD j 0).testBit k = true → ∃ e ∈ o.after, Region.binds .any e = true ∧ (e.on = k ∨ (acc.getD e.on 0).testBit k = true)

theorem mask_bits (acc : Array Nat) (k : Nat) : ∀ (l : List Edge) (s : Nat), (l.foldl (fun s e => if Region.binds .any e = true then s ||| 2 ^ e.on ||| acc.getD e.on 0 else s) s).testBit k = true →
    s.testBit k = true ∨ ∃ e ∈ l, Region.binds .any e = true ∧ (e.on = k ∨ (acc.getD e.on 0).testBit k = true)
  | [], s, h => .inl h
  | e :: l, s, h => by
    simp only [List.foldl_cons] at h
    rcases mask_bits acc k l _ h with h | ⟨e', he', h⟩
    · split at h
      · rename_i hb
        simp only [Nat.testBit_or, Bool.or_eq_true] at h
        rcases h with (h | h) | h
        · exact .inl h
        · rw [Nat.testBit_two_pow] at h
          exact .inr ⟨e, by simp, hb, .inl (by simpa using h)⟩
        · exact .inr ⟨e, by simp, hb, .inr h⟩
      · exact .inl h
    · exact .inr ⟨e', by simp [he'], h⟩

theorem forced_eq {α : Type} (n : Nat) (k : Nat → α) : forced n k = k n := by cases n <;> rfl

theorem masks_good (ops : Array Oper) : ∀ (l : List Oper) (acc : Array Nat), (∀ i o, l[i]? = some o → ops[acc.size + i]? = some o) → MaskGood ops acc → MaskGood ops (masks l acc)
  | [], acc, _, h => h
  | o :: l, acc, hl, h => by
    unfold masks
    rw [forced_eq]
    refine masks_good ops l _ (fun i o' ho' => ?_) ?_
    · have := hl (i + 1) o' (by simpa using ho')
      simp only [Array.size_push]
      rw [← this]
      congr 1
      omega
    · intro j oj hj hoj k hk
      have keep : ∀ x, (acc.getD x 0).testBit k = true → ((acc.push (maskOf acc o)).getD x 0).testBit k = true := fun x hx => by
        have hlt : x < acc.size := by
          rcases Nat.lt_or_ge x acc.size with h' | h'
          · exact h'
          · simp [Array.getElem?_eq_none h'] at hx
        simp only [Array.getD_eq_getD_getElem?, Array.getElem?_push_lt hlt] at hx ⊢
        simpa [hlt] using hx
      rcases Nat.lt_or_ge j acc.size with hlt | hge
      · have hk' : (acc.getD j 0).testBit k = true := by
          simp only [Array.getD_eq_getD_getElem?, Array.getElem?_push_lt hlt] at hk ⊢
          simpa [hlt] using hk
        obtain ⟨e, he, hb, hor⟩ := h j oj hlt hoj k hk'
        exact ⟨e, he, hb, hor.imp id (keep _)⟩
      · have hje : j = acc.size := by simp only [Array.size_push] at hj; omega
        subst hje
        have ho := hl 0 o (by simp)
        rw [Nat.add_zero, hoj] at ho
        cases ho
        have hk' : (maskOf acc o).testBit k = true := by simpa using hk
        rcases mask_bits acc k _ 0 hk' with h0 | ⟨e, he, hb, hor⟩
        · simp at h0
        · exact ⟨e, by simpa using he, hb, hor.imp id (keep _)⟩

theorem pairsOk_spec {ops : Array Oper} {b : Array Nat} {j : Nat} {oj : Oper} : ∀ (l : List Oper) (i0 : Nat), pairsOk ops b j oj l i0 = true → ∀ i oi, l[i]? = some oi → i0 + i < j → (b.getD j 0).testBit (i0 + i) = true ∨ apartOk ops oi oj = true
  | [], _, _, i, oi, h, _ => by simp at h
  | o :: l, i0, h, i, oi, ho, hlt => by
    unfold pairsOk at h
    simp only [Bool.and_eq_true, Bool.or_eq_true, decide_eq_true_eq] at h
    cases i with
    | zero =>
      simp at ho
      subst ho
      rcases h.1 with (h | h) | h
      · omega
      · exact .inl (by simpa using h)
      · exact .inr h
    | succ i =>
      have := pairsOk_spec l (i0 + 1) h.2 i oi (by simpa using ho) (by omega)
      rw [show i0 + (i + 1) = i0 + 1 + i by omega]
      exact this

theorem rowsOk_spec {ops : Array Oper} {b : Array Nat} : ∀ (l : List Oper) (j0 : Nat), rowsOk ops b l j0 = true → ∀ j oj, l[j]? = some oj →
    (∀ e ∈ oj.after, Region.binds .any e = true → e.on < j0 + j) ∧ pairsOk ops b (j0 + j) oj ops.toList 0 = true
  | [], _, _, j, oj, h => by simp at h
  | o :: l, j0, h, j, oj, ho => by
    unfold rowsOk at h
    simp only [Bool.and_eq_true] at h
    obtain ⟨⟨h1, h2⟩, h3⟩ := h
    cases j with
    | zero =>
      simp at ho
      subst ho
      refine ⟨fun e he hb => ?_, by simpa using h2⟩
      have := List.all_eq_true.1 h1 e (by simpa using he)
      simpa [hb] using this
    | succ j =>
      have := rowsOk_spec l (j0 + 1) h3 j oj (by simpa using ho)
      rw [show j0 + (j + 1) = j0 + 1 + j by omega]
      exact this

structure DrawFacts (ops : Array Oper) (b : Array Nat) : Prop where
  good : MaskGood ops b
  size : b.size = ops.size
  lt : ∀ j oj, ops[j]? = some oj → ∀ e ∈ oj.after, Region.binds .any e = true → e.on < j
  apart : ∀ i j oi oj, i < j → ops[i]? = some oi → ops[j]? = some oj → (b.getD j 0).testBit i = true ∨ apartOk ops oi oj = true

theorem masks_size : ∀ (l : List Oper) (acc : Array Nat), (masks l acc).size = acc.size + l.length
  | [], acc => rfl
  | o :: l, acc => by
    unfold masks
    rw [forced_eq, masks_size l]
    simp
    omega

theorem drawOk_spec {ops : Array Oper} (h : drawOk ops = true) : ∃ b, DrawFacts ops b := by
  unfold drawOk at h
  refine ⟨_, masks_good ops ops.toList #[] (fun i o ho => by simpa using ho) (fun j o hj => by simp at hj), by rw [masks_size]; simp, fun j oj hoj => ?_, fun i j oi oj hij hoi hoj => ?_⟩
  · have := (rowsOk_spec _ 0 h j oj (by simpa using hoj)).1
    simpa using this
  · have := (rowsOk_spec _ 0 h j oj (by simpa using hoj)).2
    simp only [Nat.zero_add] at this
    have := pairsOk_spec _ 0 this i oi (by simpa using hoi) (by omega)
    simpa using this

section
variable {P : Program} {call : Nat → List AV → Option AV} {ops : Array Oper} {nt : Nat} {Q : Exit → Act → World → Prop}

theorem gv_sound {h0 : Nat → Obj → Prop} {w0 : World} {ρ : Nat → Nat → Value} {st : St} {a : Act} {w : World} (S : Sim h0 w0 nt ρ st a w) {o : Oper} {b : Bool} (h : gv ops st o.guard = some b) : Region.wanted o (yielded ops a.tmps) = b := by
  unfold gv at h
  unfold Region.wanted
  cases hg : o.guard with
  | none => simp [hg] at h; subst h; rfl
  | some jw =>
    obtain ⟨j, want⟩ := jw
    simp only [hg] at h
    simp only
    cases hd : (ops[j]?).bind (·.dst) with
    | none =>
      simp [hd] at h
      subst h
      simp [yielded, hd]
    | some d =>
      simp only [hd] at h
      split at h
      · rename_i x hx
        have hr := S.env d
        rw [hx] at hr
        have hv := relV_v hr
        rcases Nat.lt_or_ge d a.tmps.size with hlt | hge
        · have hv' : a.tmps[d]? = some x := by
            simp [hlt] at hv ⊢
            exact hv
          simp only [yielded, hd, Option.bind_some, hv']
          split at h
          · simp only [Option.some.injEq] at h
            rw [← h]
            simp
          · simp only [Option.some.injEq] at h
            subst h
            rename_i hne
            cases x <;> first | rfl | exact absurd rfl (hne _)
        · have hn : a.tmps[d]? = none := Array.getElem?_eq_none hge
          have hu : x = undef := by simpa [hn] using hv.symm
          subst hu
          simp [undef] at h
          subst h
          simp [yielded, hd, hn]
      · cases h

theorem evOp_sound {h0 : Nat → Obj → Prop} {w0 : World} {ρ : Nat → Nat → Value} {st st' : St} {a : Act} {w : World} {K : Act → World → Prop} (S : Sim h0 w0 nt ρ st a w) (hcall : CallOk P call) {i : Nat} {o : Oper}
    (hi : ops[i]? = some o) (hd : ∀ d, o.dst = some d → d < nt) (h : evOp P call ops o st = some st')
    (hK : ∀ ρ' a' w', Sim h0 w0 nt ρ' st' a' w' → K a' w') : wpOp P ops Q i K a w := by
  unfold wpOp
  simp only [hi]
  unfold evOp at h
  cases hg : gv ops st o.guard with
  | none => simp [hg] at h
  | some b =>
    rw [gv_sound S hg]
    simp only [hg] at h
    cases b with
    | true =>
      simp only [if_true] at h ⊢
      cases he : opEff P call o st with
      | none => simp [he] at h
      | some e =>
        simp only [he, Option.map_some, Option.some.injEq] at h
        subst h
        exact .inl (opEff_sound S hcall he hd hK)
    | false =>
      simp only [Bool.false_eq_true, if_false, Option.some.injEq] at h ⊢
      subst h
      exact hK ρ _ w (S.put o.dst hd (.v _))

theorem exists_of_wp {o : Oper} {a : Act} {w : World} {K : Act → World → Prop} (h : o.wp P a w K fun _ _ _ => False) : ∃ a' w', K a' w' := by
  unfold Oper.wp at h
  generalize (execOp a.eval o).run P w = r at h
  have hlet : ¬ LetsOut (fun _ _ _ => False) := by rintro ⟨_, _, h⟩; exact h
  cases r with
  | ok n w' =>
    cases n <;> simp only [Oper.upon] at h <;> (try exact ⟨_, _, h⟩) <;> (try exact h.elim)
    · obtain ⟨e, w2, fr, hR, _⟩ := h []
      cases e with
      | returned v => exact ⟨_, _, hR⟩
      | panicked c => exact hR.elim
      | outgrown => exact absurd hR hlet
    · obtain ⟨v, w2, hR, _⟩ := h default []
      exact ⟨_, _, hR⟩
  | halt x w' => cases x <;> simp only [Oper.upon] at h

def Valid (nt : Nat) (st : St) : Prop := ∃ h0 w0 ρ a w, Sim h0 w0 nt ρ st a w

theorem Valid.ids {st : St} (h : Valid nt st) : ∀ t, IdOk st.cnt (st.env t) := by
  obtain ⟨h0, w0, ρ, a, w, S⟩ := h
  exact fun t => ⟨ctx h0 w0 ρ st w, _, rfl, S.env t⟩

theorem Valid.step {st st' : St} (h : Valid nt st) (hcall : CallOk P call) {o : Oper} (hd : ∀ d, o.dst = some d → d < nt) (he : evOp P call ops o st = some st') : Valid nt st' := by
  obtain ⟨h0, w0, ρ, a, w, S⟩ := h
  unfold evOp at he
  cases hg : gv ops st o.guard with
  | none => simp [hg] at he
  | some b =>
    simp only [hg] at he
    cases b with
    | true =>
      simp only [if_true] at he
      cases hee : opEff P call o st with
      | none => simp [hee] at he
      | some e =>
        simp only [hee, Option.map_some, Option.some.injEq] at he
        subst he
        obtain ⟨a', w', ρ', S'⟩ := exists_of_wp (opEff_sound (Q := fun _ _ _ => False) (K := fun a' w' => ∃ ρ', Sim h0 w0 nt ρ' (e.apply st) a' w') S hcall hee hd (fun ρ' a' w' h => ⟨ρ', h⟩))
        exact ⟨h0, w0, ρ', a', w', S'⟩
    | false =>
      simp only [Bool.false_eq_true, if_false, Option.some.injEq] at he
      subst he
      exact ⟨h0, w0, ρ, _, w, S.put o.dst hd (.v _)⟩

/-- The operations of a list of places, one after the other. -/
noncomputable def evIx (P : Program) (call : Nat → List AV → Option AV) (ops : Array Oper) : List Nat → St → Option St
  | [], st => some st
  | i :: r, st =>
    match ops[i]? with
    | some o => bnd (evOp P call ops o st) (evIx P call ops r)
    | none => evIx P call ops r st

theorem evOps_evIx : ∀ (l : List Oper) (k : Nat) (st : St), (∀ j, l[j]? = ops[k + j]? ∨ l.length ≤ j) → evOps P call ops l st = evIx P call ops (List.range' k l.length) st
  | [], k, st, h => rfl
  | o :: l, k, st, h => by
    have h0 := (h 0).resolve_right (by simp)
    simp only [List.getElem?_cons_zero, Nat.add_zero] at h0
    simp only [evOps, List.length_cons, List.range'_succ, evIx, ← h0]
    cases evOp P call ops o st with
    | none => rfl
    | some s =>
      simp only [bnd]
      exact evOps_evIx l (k + 1) s fun j => by
        rcases h (j + 1) with h | h
        · left
          rw [show k + 1 + j = k + (j + 1) by omega, ← h]
          simp
        · right
          simpa using h

theorem evIx_front (hcall : CallOk P call) (hdst : ∀ (j : Nat) o, ops[j]? = some o → ∀ d, o.dst = some d → d < nt) {i : Nat} {oi : Oper} (hi : ops[i]? = some oi) (l2 : List Nat) : ∀ (l1 : List Nat) (st sf : St), Valid nt st →
    (∀ k ∈ l1, ∃ ok, ops[k]? = some ok ∧ apartOk ops ok oi = true) → evIx P call ops (l1 ++ i :: l2) st = some sf → evIx P call ops (i :: (l1 ++ l2)) st = some sf
  | [], st, sf, _, _, h => h
  | k :: l1, st, sf, hv, hap, h => by
    obtain ⟨ok, hok, hak⟩ := hap k (by simp)
    simp only [List.cons_append, evIx, hok] at h
    cases h1 : evOp P call ops ok st with
    | none => simp [h1, bnd] at h
    | some s1 =>
      simp only [h1, bnd] at h
      have ih := evIx_front hcall hdst hi l2 l1 s1 sf (hv.step hcall (hdst k ok hok) h1) (fun k hk => hap k (by simp [hk])) h
      simp only [evIx, hi] at ih
      cases h2 : evOp P call ops oi s1 with
      | none => simp [h2, bnd] at ih
      | some s2 =>
        simp only [h2, bnd] at ih
        obtain ⟨s3, h3, h4⟩ := ev_comm hak hv.ids h1 h2
        simp only [List.cons_append, evIx, hi, hok, h3, h4, bnd]
        exact ih

structure Left (ops : Array Oper) (listed : Array Bool) (l : List Nat) : Prop where
  size : listed.size = ops.size
  mem : ∀ j, j ∈ l ↔ j < ops.size ∧ listed.getD j true = false
  sorted : l.Pairwise (· < ·)
  closed : ∀ j o, ops[j]? = some o → listed.getD j false = true → ∀ e ∈ o.after, Region.binds .any e = true → listed.getD e.on false = true

theorem getD_flip {listed : Array Bool} {j : Nat} (hj : j < listed.size) : listed.getD j true = listed.getD j false := by simp [hj]

theorem bits_listed {b : Array Nat} (D : DrawFacts ops b) {listed : Array Bool} {l : List Nat} (L : Left ops listed l) : ∀ (j : Nat) o, ops[j]? = some o → (∀ e ∈ o.after, Region.binds .any e = true → listed.getD e.on false = true) →
    ∀ k, (b.getD j 0).testBit k = true → listed.getD k false = true := by
  intro j
  induction j using Nat.strongRecOn with
  | _ j ih =>
    intro o ho hall k hk
    have hj : j < ops.size := (Array.getElem?_eq_some_iff.1 ho).1
    obtain ⟨e, he, hb, hor⟩ := D.good j o (by rw [D.size]; exact hj) ho k hk
    have hle := hall e he hb
    rcases hor with rfl | hk'
    · exact hle
    · have hlt := D.lt j o ho e he hb
      have hes : e.on < ops.size := by omega
      exact ih e.on hlt _ (Array.getElem?_eq_getElem hes) (L.closed e.on _ (Array.getElem?_eq_getElem hes) hle) k hk'

theorem region_any {h0 : Nat → Obj → Prop} {w0 : World} (hcall : CallOk P call) (hdst : ∀ (j : Nat) o, ops[j]? = some o → ∀ d, o.dst = some d → d < nt) {b : Array Nat} (D : DrawFacts ops b) {sf : St}
    (hQ : ∀ ρ' a' w', Sim h0 w0 nt ρ' sf a' w' → Q .normal a' w') : ∀ (f : Nat) (l : List Nat) (listed : Array Bool) (st : St) (ρ : Nat → Nat → Value) (a : Act) (w : World), l.length = f → Left ops listed l → Sim h0 w0 nt ρ st a w →
    evIx P call ops l st = some sf → wpAny P .any ops Q f listed a w
  | 0, l, listed, st, ρ, a, w, hf, L, S, he => by
    have hl := List.length_eq_zero_iff.1 hf
    subst hl
    simp only [evIx, Option.some.injEq] at he
    subst he
    refine ⟨?_, hQ ρ a w S⟩
    cases hr : Region.ready .any ops listed with
    | nil => rfl
    | cons x xs =>
      have hx : x ∈ Region.ready .any ops listed := by rw [hr]; simp
      obtain ⟨h1, o, ho, _⟩ := mem_ready.1 hx
      have := (L.mem x).2 ⟨(Array.getElem?_eq_some_iff.1 ho).1, h1⟩
      simp at this
  | f + 1, l, listed, st, ρ, a, w, hf, L, S, he => by
    refine ⟨fun hr => ?_, fun i hi => ?_⟩
    · exfalso
      cases l with
      | nil => simp at hf
      | cons i l =>
        have hil := (L.mem i).1 (by simp)
        have : i ∈ Region.ready .any ops listed := mem_ready.2 ⟨hil.2, ops[i], Array.getElem?_eq_getElem hil.1, fun e he' hb => by
          have hlt := D.lt i _ (Array.getElem?_eq_getElem hil.1) e he' hb
          cases hle : listed.getD e.on false with
          | true => rfl
          | false =>
            have hsz : e.on < listed.size := by rw [L.size]; omega
            have hin := (L.mem e.on).2 ⟨by omega, by rw [getD_flip hsz]; exact hle⟩
            rcases List.mem_cons.1 hin with h | h
            · omega
            · have := (List.pairwise_cons.1 L.sorted).1 _ h
              omega⟩
        rw [hr] at this
        simp at this
    · obtain ⟨h1, oi, hoi, hall⟩ := mem_ready.1 hi
      have hilt : i < ops.size := (Array.getElem?_eq_some_iff.1 hoi).1
      have hil := (L.mem i).2 ⟨hilt, h1⟩
      obtain ⟨l1, l2, rfl⟩ := List.append_of_mem hil
      have hs := L.sorted
      rw [List.pairwise_append] at hs
      obtain ⟨s1, s2, s3⟩ := hs
      have hap : ∀ k ∈ l1, ∃ ok, ops[k]? = some ok ∧ apartOk ops ok oi = true := fun k hk => by
        have hki := s3 k hk i (by simp)
        have hkm := (L.mem k).1 (by simp [hk])
        refine ⟨ops[k], Array.getElem?_eq_getElem hkm.1, ?_⟩
        rcases D.apart k i _ oi hki (Array.getElem?_eq_getElem hkm.1) hoi with h | h
        · have := bits_listed D L i oi hoi hall k h
          rw [← getD_flip (by rw [L.size]; exact hkm.1), hkm.2] at this
          cases this
        · exact h
      have he' := evIx_front hcall hdst hoi l2 l1 st sf ⟨h0, w0, ρ, a, w, S⟩ hap he
      simp only [evIx, hoi] at he'
      cases h2 : evOp P call ops oi st with
      | none => simp [h2, bnd] at he'
      | some s2' =>
        simp only [h2, bnd] at he'
        refine evOp_sound S hcall hoi (hdst i oi hoi) h2 fun ρ' a' w' S' => ?_
        refine region_any hcall hdst D hQ f (l1 ++ l2) _ s2' ρ' a' w' (by simp at hf ⊢; omega) ⟨by simp [L.size], fun j => ?_, ?_, fun j o ho hlj e he'' hb => ?_⟩ S' he'
        · have hm := L.mem j
          simp only [List.mem_append, List.mem_cons] at hm ⊢
          by_cases hji : j = i
          · subst hji
            have hn1 : j ∉ l1 := fun h => by have := s3 j h j (by simp); omega
            have hn2 : j ∉ l2 := fun h => by have := (List.pairwise_cons.1 s2).1 j h; omega
            have hset : (listed.setIfInBounds j true).getD j true = true := by
              have : j < listed.size := by rw [L.size]; exact hilt
              simp [this]
            simp [hn1, hn2, hset]
          · rw [getD_set_ne true (Ne.symm hji)]
            simpa [hji] using hm
        · rw [List.pairwise_append]
          exact ⟨s1, (List.pairwise_cons.1 s2).2, fun x hx y hy => s3 x hx y (by simp [hy])⟩
        · by_cases hji : i = j
          · subst hji
            rw [hoi] at ho
            cases ho
            exact getD_set_true (hall e he'' hb)
          · rw [getD_set_ne false hji] at hlj
            exact getD_set_true (L.closed j o ho hlj e he'' hb)
end
end Go.Ab
end
section
namespace Go.Ab
open Classical
variable [Ext]

section
variable {P : Program} {call : Nat → List AV → Option AV} {nt : Nat} {h0 : Nat → Obj → Prop} {w0 : World}

theorem codeOk_region {ops : Array Oper} {id : Nat} {draw : Bool} (h : codeOk nt (.region id ops draw) = true) : (∀ (j : Nat) o, ops[j]? = some o → ∀ d, o.dst = some d → d < nt) ∧ (draw = true → drawOk ops = true) := by
  simp only [codeOk, Bool.and_eq_true, Bool.or_eq_true, Bool.not_eq_true'] at h
  refine ⟨fun j o ho d hd => ?_, fun hdr => h.2.resolve_left (by rw [hdr]; simp)⟩
  have := Array.all_eq_true_iff_forall_mem.1 h.1 o (Array.mem_of_getElem? ho)
  simpa [hd] using this

theorem evIx_ops {ops : Array Oper} (hcall : CallOk P call) (hdst : ∀ (j : Nat) o, ops[j]? = some o → ∀ d, o.dst = some d → d < nt) {Q : Exit → Act → World → Prop} {sf : St}
    (hQ : ∀ ρ' a' w', Sim h0 w0 nt ρ' sf a' w' → Q .normal a' w') : ∀ (l : List Nat) (st : St) (ρ : Nat → Nat → Value) (a : Act) (w : World), Sim h0 w0 nt ρ st a w → evIx P call ops l st = some sf → wpOps P ops Q l a w
  | [], st, ρ, a, w, S, h => by
    simp only [evIx, Option.some.injEq] at h
    subst h
    exact hQ ρ a w S
  | i :: l, st, ρ, a, w, S, h => by
    rw [wpOps_cons]
    unfold evIx at h
    cases hi : ops[i]? with
    | none =>
      simp only [hi] at h
      unfold wpOp
      simp only [hi]
      exact evIx_ops hcall hdst hQ l st ρ a w S h
    | some o =>
      simp only [hi] at h
      cases h1 : evOp P call ops o st with
      | none => simp [h1, bnd] at h
      | some s1 =>
        simp only [h1, bnd] at h
        exact evOp_sound S hcall hi (hdst i o hi) h1 fun ρ' a' w' S' => evIx_ops hcall hdst hQ l s1 ρ' a' w' S' h

theorem region_sound (hm : P.follows .mixedOrders = true) (hcall : CallOk P call) {ops : Array Oper} {id : Nat} {draw : Bool} (hok : codeOk nt (.region id ops draw) = true) {Q : Exit → Act → World → Prop} {st sf : St} {ρ : Nat → Nat → Value} {a : Act} {w : World}
    (S : Sim h0 w0 nt ρ st a w) (h : evOps P call ops ops.toList st = some sf) (hQ : ∀ ρ' a' w', Sim h0 w0 nt ρ' sf a' w' → Q .normal a' w') : (Code.region id ops draw).wp P Q a w := by
  obtain ⟨hdst, hdraw⟩ := codeOk_region hok
  rw [evOps_evIx ops.toList 0 st (fun j => .inl (by simp))] at h
  cases draw with
  | false =>
    refine wp_region ?_
    rw [List.range_eq_range']
    exact evIx_ops hcall hdst hQ _ st ρ a w S (by simpa using h)
  | true =>
    obtain ⟨b, D⟩ := drawOk_spec (hdraw rfl)
    refine wp_region_any hm ?_
    have hg : w.grownBy { w with drawn := w.drawn + 1 } none := ⟨rfl, rfl, rfl, Nat.le_refl _, fun _ _ _ => rfl⟩
    refine region_any hcall hdst D hQ ops.size (List.range' 0 ops.size) _ st ρ a _ (by simp) ⟨by simp, fun j => ?_, ?_, fun j o ho hl => ?_⟩ (S.grow hg).1 (by simpa using h)
    · rw [← List.range_eq_range', List.mem_range]
      constructor
      · intro hj; exact ⟨hj, by simp [hj]⟩
      · exact fun h => h.1
    · rw [← List.range_eq_range']
      exact List.pairwise_lt_range
    · simp [Array.getD_eq_getD_getElem?, Array.getElem?_replicate] at hl
      split at hl <;> simp at hl

theorem exists_least {p : Nat → Prop} (h : ∃ n, p n) : ∃ n, p n ∧ ∀ m, p m → n ≤ m := by
  obtain ⟨n, hn⟩ := h
  induction n using Nat.strongRecOn with
  | _ n ih =>
    by_cases hl : ∃ m, m < n ∧ p m
    · obtain ⟨m, hm, hp⟩ := hl
      exact ih m hm hp
    · exact ⟨n, hn, fun m hm => by
        rcases Nat.lt_or_ge m n with h | h
        · exact absurd ⟨m, h, hm⟩ hl
        · exact h⟩

noncomputable def leastN (p : Nat → Prop) : Nat := if h : ∃ n, p n then Classical.choose (exists_least h) else 0
theorem leastN_spec {p : Nat → Prop} (h : ∃ n, p n) : p (leastN p) ∧ ∀ m, p m → leastN p ≤ m := by
  unfold leastN
  rw [dif_pos h]
  exact Classical.choose_spec (exists_least h)

def Ex.to : Ex → Exit
  | .normal => .normal
  | .exit id => .exit id
  | .ret => .ret

theorem evC_sound (hm : P.follows .mixedOrders = true) (hcall : CallOk P call) (n : Nat) : ∀ (c : Code) (st sf : St) (ex : Ex) (ρ : Nat → Nat → Value) (a : Act) (w : World) (Q : Exit → Act → World → Prop), codeOk nt c = true →
    Sim h0 w0 nt ρ st a w → evC P call n c st = some (ex, sf) → (∀ ρ' a' w', Sim h0 w0 nt ρ' sf a' w' → Q ex.to a' w') → c.wp P Q a w := by
  induction n using Nat.strongRecOn with
  | _ n ih =>
  have evC_sound : ∀ m, m < n → ∀ (c : Code) (st sf : St) (ex : Ex) (ρ : Nat → Nat → Value) (a : Act) (w : World) (Q : Exit → Act → World → Prop), codeOk nt c = true →
    Sim h0 w0 nt ρ st a w → evC P call m c st = some (ex, sf) → (∀ ρ' a' w', Sim h0 w0 nt ρ' sf a' w' → Q ex.to a' w') → c.wp P Q a w := ih
  clear ih
  intro c st sf ex ρ a w Q hok S h hQ
  cases n with
  | zero => simp [evC] at h
  | succ n =>
    cases c <;> simp only [evC] at h
    case skip =>
      simp only [Option.some.injEq, Prod.mk.injEq] at h
      obtain ⟨rfl, rfl⟩ := h
      exact wp_skip (hQ ρ a w S)
    case region id ops draw =>
      cases h1 : evOps P call ops ops.toList st with
      | none => simp [h1, bnd] at h
      | some s1 =>
        simp only [h1, bnd, Option.some.injEq, Prod.mk.injEq] at h
        obtain ⟨rfl, rfl⟩ := h
        exact region_sound hm hcall hok S h1 hQ
    case seq x y =>
      simp only [codeOk, Bool.and_eq_true] at hok
      cases h1 : evC P call n x st with
      | none => simp [h1, bnd] at h
      | some r =>
        obtain ⟨e1, s1⟩ := r
        simp only [h1, bnd] at h
        refine wp_seq (evC_sound n (by omega) x st s1 e1 ρ a w _ hok.1 S h1 fun ρ' a' w' S' => ?_)
        cases e1 with
        | normal => exact evC_sound n (by omega) y s1 sf ex ρ' a' w' Q hok.2 S' h hQ
        | exit id =>
          simp only [Option.some.injEq, Prod.mk.injEq] at h
          obtain ⟨rfl, rfl⟩ := h
          exact hQ ρ' a' w' S'
        | ret =>
          simp only [Option.some.injEq, Prod.mk.injEq] at h
          obtain ⟨rfl, rfl⟩ := h
          exact hQ ρ' a' w' S'
    case cond c x y =>
      simp only [codeOk, Bool.and_eq_true] at hok
      split at h
      · rename_i t ht
        have hr := S.ev c
        rw [ht] at hr
        have hv := relV_v hr
        refine wp_cond (t := t) hv ?_
        cases t with
        | true => exact evC_sound n (by omega) x st sf ex ρ a w Q hok.1 S (by simpa using h) hQ
        | false => exact evC_sound n (by omega) y st sf ex ρ a w Q hok.2 S (by simpa using h) hQ
      · cases h
    case block id b =>
      simp only [codeOk] at hok
      cases h1 : evC P call n b st with
      | none => simp [h1, bnd] at h
      | some r =>
        obtain ⟨e1, s1⟩ := r
        simp only [h1, bnd, Option.some.injEq, Prod.mk.injEq] at h
        obtain ⟨rfl, rfl⟩ := h
        refine wp_block (evC_sound n (by omega) b st s1 e1 ρ a w _ hok S h1 fun ρ' a' w' S' => ?_)
        have := hQ ρ' a' w' S'
        cases e1 with
        | normal => exact this
        | exit i =>
          simp only [Ex.inBlock] at this
          simp only [Ex.to, Exit.inBlock]
          by_cases hi : i = id
          · rw [if_pos hi] at this ⊢; exact this
          · rw [if_neg hi] at this ⊢; exact this
        | ret => exact this
    case loop b =>
      have hok' := hok
      simp only [codeOk] at hok
      let p : Act → World → Nat → Prop := fun a w m => m ≤ n + 1 ∧ ∃ st ρ, Sim h0 w0 nt ρ st a w ∧ evC P call m (.loop b) st = some (ex, sf)
      refine wp_loop (fun a w => ∃ m, p a w m) (fun a w => leastN (p a w)) ⟨n + 1, Nat.le_refl _, st, ρ, S, h⟩ fun a w hI => ?_
      obtain ⟨⟨hle, st1, ρ1, S1, h1⟩, _⟩ := leastN_spec hI
      generalize leastN (p a w) = m at h1 hle
      cases m with
      | zero => simp [evC] at h1
      | succ m =>
        simp only [evC] at h1
        cases h2 : evC P call m b st1 with
        | none => simp [h2, bnd] at h1
        | some r =>
          obtain ⟨e1, s1⟩ := r
          simp only [h2, bnd] at h1
          have hmn : m ≤ n := by omega
          refine evC_sound m (by omega) b st1 s1 e1 ρ1 a w _ hok S1 h2 fun ρ' a' w' S' => ?_
          cases e1 with
          | normal =>
            have hp : p a' w' m := ⟨by omega, s1, ρ', S', h1⟩
            exact ⟨⟨m, hp⟩, Nat.lt_succ_of_le ((leastN_spec ⟨m, hp⟩).2 m hp)⟩
          | exit id =>
            simp only [Option.some.injEq, Prod.mk.injEq] at h1
            obtain ⟨rfl, rfl⟩ := h1
            exact hQ ρ' a' w' S'
          | ret =>
            simp only [Option.some.injEq, Prod.mk.injEq] at h1
            obtain ⟨rfl, rfl⟩ := h1
            exact hQ ρ' a' w' S'
    case exit id =>
      simp only [Option.some.injEq, Prod.mk.injEq] at h
      obtain ⟨rfl, rfl⟩ := h
      exact wp_exit (hQ ρ a w S)
    case ret =>
      simp only [Option.some.injEq, Prod.mk.injEq] at h
      obtain ⟨rfl, rfl⟩ := h
      exact wp_ret (hQ ρ a w S)
    all_goals cases h
end
end Go.Ab
end
section
namespace Go.Ab
open Classical
variable [Ext]

section
variable {P : Program}

theorem lend_new {h0 : Nat → Obj → Prop} {w w' : World} : (bare (lendH h0 w w')).Le (bare (newHs h0 w w' [])) :=
  ⟨fun b o h => ⟨h.1, h.2, by simp⟩, fun _ => Nat.le_refl _, fun _ _ h => absurd h (by simp [bare])⟩

def resOne (tmps : Array Value) : ResultVar → Sem Value
  | .tmp t => pure (tmps.getD t undef)
  | .cell p t => do loadVar t (← asAddr (tmps.getD p undef))

theorem resVal_sound {h0 : Nat → Obj → Prop} {w0 : World} {nt : Nat} {ρ : Nat → Nat → Value} {st : St} {a : Act} {w : World} (S : Sim h0 w0 nt ρ st a w) {rv : ResultVar} {x : AV} (h : resVal P st rv = some x) :
    ∃ y, (resOne a.tmps rv).run P w = .ok y w ∧ RelV (ctx h0 w0 ρ st w) x y := by
  cases rv with
  | tmp t =>
    simp only [resVal, Option.some.injEq] at h
    subst h
    exact ⟨_, rfl, S.env t⟩
  | cell p T =>
    simp only [resVal] at h
    cases hra : readAt st (st.env p) with
    | none => simp [hra, bnd] at h
    | some cs =>
      simp only [hra, bnd] at h
      obtain ⟨b, off, arr, B, fr, hu, _, _⟩ := readAt_sound S hra (S.env p)
      obtain ⟨r, hr, hrel⟩ := load_sound S hra h (S.env p)
      rw [hu] at hr
      refine ⟨r, ?_, hrel⟩
      simp only [Instr.loadAt, Instr.sureAddr] at hr
      simp only [resOne, hu, asAddr]
      exact hr

theorem results_list {h0 : Nat → Obj → Prop} {w0 : World} {nt : Nat} {ρ : Nat → Nat → Value} {st : St} {a : Act} {w : World} (S : Sim h0 w0 nt ρ st a w) : ∀ (rs : List ResultVar) (xs : List AV), rs.map (resVal P st) = xs.map some →
    ∃ ys, (rs.mapM (resOne a.tmps)).run P w = .ok ys w ∧ RelL (ctx h0 w0 ρ st w) xs ys
  | [], xs, h => by
    cases xs with
    | nil => exact ⟨[], rfl, .nil _⟩
    | cons x xs => simp at h
  | r :: rs, xs, h => by
    cases xs with
    | nil => simp at h
    | cons x xs =>
      simp only [List.map_cons, List.cons.injEq] at h
      obtain ⟨y, hy, hrel⟩ := resVal_sound S h.1
      obtain ⟨ys, hys, hrels⟩ := results_list S rs xs h.2
      refine ⟨y :: ys, ?_, .cons hrel hrels⟩
      rw [List.mapM_cons, run_ok_bind hy, run_ok_bind hys]
      rfl

theorem finish_sound {h0 : Nat → Obj → Prop} {w0 : World} {nt : Nat} {ρ : Nat → Nat → Value} {st : St} {a : Act} {w : World} (S : Sim h0 w0 nt ρ st a w) {fn : Func} {r : AV} (h : finishA P fn st = some r) :
    ∃ v, (results fn a.tmps).run P w = .ok v w ∧ RelR h0 w0 w r v := by
  have hres : ∀ (ys : List Value), (fn.results.toList.mapM (resOne a.tmps)).run P w = .ok ys w →
      (results fn a.tmps).run P w = .ok (if h : ys.toArray.size = 1 then ys.toArray[0] else .tuple ys.toArray) w := by
    intro ys hys
    have e : results fn a.tmps = (do let vs ← fn.results.mapM (resOne a.tmps); pure (if h : vs.size = 1 then vs[0] else .tuple vs)) := by
      unfold results
      congr 1
    rw [e, Array.mapM_eq_mapM_toList]
    simp only [Sem.run_bind, Sem.run_map, hys, Result.andThen_ok, Sem.run_pure]
  unfold finishA at h
  split at h
  · rename_i r1 hr1
    cases h1 : resVal P st r1 with
    | none => simp [h1, bnd] at h
    | some x =>
      simp only [h1, bnd] at h
      obtain ⟨ys, hys, hrel⟩ := results_list (P := P) S [r1] [x] (by simp [h1])
      have hlen := hrel.len
      obtain ⟨y, rfl⟩ : ∃ y, ys = [y] := by
        cases ys with
        | nil => simp at hlen
        | cons y ys => cases ys with
          | nil => exact ⟨y, rfl⟩
          | cons z zs => simp at hlen
      have hxy := hrel.head
      have hrun := hres [y] (by rw [hr1]; exact hys)
      simp at hrun
      refine ⟨y, hrun, ?_⟩
      unfold expoR at h
      split at h
      · rename_i s g
        split at h
        · rename_i e sz n cs he
          split at h
          · rename_i hf
            simp only [Option.some.injEq] at h
            subst h
            obtain ⟨_, _, xs, ho, hc⟩ := S.ent s g _ he
            cases hxy with
            | own _ _ hg h1' =>
              refine ⟨[ρ s g], fun x hx => by simp at hx; subst hx; exact h1', fun i j x y b hi hj _ _ => by
                have := (List.getElem?_eq_some_iff.1 hi).1
                have := (List.getElem?_eq_some_iff.1 hj).1
                simp only [List.length_singleton] at *
                omega, fun x hx b hb => by simp at hx; subst hx; exact (ownsR_blk ho b hb).1, fun d c => rfl, fun D d c hD hρ => ?_⟩
              obtain ⟨k1, k2⟩ := hρ 0 _ rfl
              simp only [Nat.add_zero] at k1 k2
              refine ⟨?_, fun i e' x hi hx => ?_⟩
              · have := RelV.own (C := D) d c k1 (by rw [k2]; exact h1')
                rw [k2] at this
                exact this
              · match i with
                | 0 =>
                  simp only [opn, opn1, opnC, List.getElem?_cons_zero, Option.some.injEq] at hi hx
                  subst hi; subst hx
                  exact ⟨xs, ho, hc.flat hf fun b o hb => hD b o ⟨hb.1, hb.2.1, by simpa using hb.2.2 s g _ he⟩⟩
                | i + 1 => simp at hx
          · cases h
        · cases h
      · exact relR_flat (expo_flat h) ((expo_sound S hxy h).le lend_new)
  · rename_i rs hne
    simp only [Option.map_eq_some_iff] at h
    obtain ⟨ds, hds, rfl⟩ := h
    have hm := optAll_spec _ _ hds
    -- the values themselves
    have hex : ∃ xs : List AV, fn.results.toList.map (resVal P st) = xs.map some ∧ xs.map (expo st) = ds.map some := by
      generalize fn.results.toList = l at hm
      clear hds
      induction l generalizing ds with
      | nil => cases ds with
        | nil => exact ⟨[], rfl, rfl⟩
        | cons d ds => simp at hm
      | cons r l ih => cases ds with
        | nil => simp at hm
        | cons d ds =>
          simp only [List.map_cons, List.cons.injEq] at hm
          obtain ⟨xs, e1, e2⟩ := ih ds hm.2
          cases hr : resVal P st r with
          | none => simp [hr, bnd] at hm
          | some x =>
            simp only [hr, bnd] at hm
            exact ⟨x :: xs, by simp [hr, e1], by simp [hm.1, e2]⟩
    obtain ⟨xs, e1, e2⟩ := hex
    obtain ⟨ys, hys, hrel⟩ := results_list S _ xs e1
    have hl1 : xs.length = fn.results.toList.length := by have := congrArg List.length e1; simpa using this.symm
    have hl2 : ds.length = xs.length := by have := congrArg List.length e2; simpa using this.symm
    have hne1 : ys.toArray.size ≠ 1 := by
      intro h1
      have hlen := hrel.len
      simp only [List.size_toArray] at h1
      have : fn.results.toList.length = 1 := by omega
      obtain ⟨z, hz⟩ := List.length_eq_one_iff.1 this
      exact hne z hz
    have hrun := hres ys hys
    rw [dif_neg hne1] at hrun
    refine ⟨_, hrun, ?_⟩
    refine relR_flat (.tup ds (optAll_all (p := Flat) (f := fun r => bnd (resVal P st r) (expo st)) (fun a b h => by
      cases hr : resVal P st a with
      | none => simp [hr, bnd] at h
      | some x => simp only [hr, bnd] at h; exact expo_flat h) _ _ hds)) (.tup ds ys.toArray (by simp; rw [hl2]; exact hrel.len) fun i x y hx hy => ?_)
    have hi : i < xs.length := by have := (List.getElem?_eq_some_iff.1 hx).1; omega
    have hx' : expo st xs[i] = some x := by
      have := congrArg (·[i]?) e2
      simp only [List.getElem?_map, hx, List.getElem?_eq_getElem hi, Option.map_some, Option.some.injEq] at this
      exact this
    exact (expo_sound S (hrel.rel i xs[i] y (by simp [hi]) (by simpa using hy)) hx').le lend_new

/-- A part of a result and the rows that it hands over. -/
def GoodU (w0 : World) (ρ : Nat → Nat → Value) (st : St) (w : World) (d : Nat) (H : Nat → Obj → Prop) (f : Nat → AV → AV × List Ent) (y : AV) (ks : List (Nat × Nat)) (u : Value) : Prop :=
  (∀ k ∈ ks, ∃ e, st.heap k.1 k.2 = some e) ∧ ∀ c, (f c y).2.length = ks.length ∧ ∀ D : Ctx, (∀ b o, H b o → D.h b o) → (∀ (i : Nat) (k : Nat × Nat), ks[i]? = some k → c + i < D.cnt d ∧ D.ρ d (c + i) = ρ k.1 k.2) →
    RelV D (f c y).1 u ∧ ∀ (i : Nat) (e : Ent) (k : Nat × Nat), (f c y).2[i]? = some e → ks[i]? = some k → EntRel D w w0.heap.size (ρ k.1 k.2) e

section keep
variable {h0 : Nat → Obj → Prop} {w0 : World} {nt : Nat} {ρ : Nat → Nat → Value} {st : St} {a : Act} {w : World} {H : Nat → Obj → Prop}

theorem goodC (S : Sim h0 w0 nt ρ st a w) (hH : ∀ b o, (ctx h0 w0 ρ st w).h b o → H b o) {x y : AV} {u : Value} (hu : RelV (ctx h0 w0 ρ st w) x u) (h : expoUC st x = some y) (d : Nat) : GoodU w0 ρ st w d H (opnC d) y (ownKey x) u := by
  unfold expoUC at h
  split at h
  · rename_i hf
    simp only [Option.some.injEq] at h
    subst h
    have hk : ownKey x = [] := by cases hf <;> rfl
    rw [hk]
    refine ⟨by simp, fun c => ?_⟩
    rw [opnC_flat hf]
    exact ⟨rfl, fun D hD _ => ⟨hu.flat hf fun b o hb => hD _ _ (hH _ _ hb), by simp⟩⟩
  · split at h
    · rename_i s g _
      split at h
      · rename_i e sz n cs he
        split at h
        · rename_i hf
          simp only [Option.some.injEq] at h
          subst h
          obtain ⟨_, h1, xs, ho, hc⟩ := S.ent s g _ he
          have hu' : u = ρ s g := by cases hu; rfl
          subst hu'
          refine ⟨by simp [ownKey]; exact ⟨_, he⟩, fun c => ⟨rfl, fun D hD hρ => ?_⟩⟩
          obtain ⟨k1, k2⟩ := hρ 0 (s, g) rfl
          simp only [Nat.add_zero] at k1 k2
          refine ⟨?_, fun i e' k hi hk => ?_⟩
          · have := RelV.own (C := D) d c k1 (by rw [k2]; exact h1)
            rw [k2] at this
            exact this
          · match i with
            | 0 =>
              simp only [opnC, ownKey, List.getElem?_cons_zero, Option.some.injEq] at hi hk
              subst hi; subst hk
              exact ⟨xs, ho, hc.flat hf fun b o hb => hD _ _ (hH _ _ hb)⟩
            | i + 1 => simp [ownKey] at hk
        · cases h
      · cases h
    · cases h

theorem goodL {f : Nat → AV → AV × List Ent} {kf : AV → List (Nat × Nat)} {d : Nat} : ∀ (xs ys : List AV) (us : List Value), xs.length = ys.length → xs.length = us.length →
    (∀ (i : Nat) (x y : AV) (u : Value), xs[i]? = some x → ys[i]? = some y → us[i]? = some u → GoodU w0 ρ st w d H f y (kf x) u) →
    (∀ k ∈ xs.flatMap kf, ∃ e, st.heap k.1 k.2 = some e) ∧ ∀ c, (opnL f c ys).2.length = (xs.flatMap kf).length ∧ ∀ D : Ctx, (∀ b o, H b o → D.h b o) →
      (∀ (i : Nat) (k : Nat × Nat), (xs.flatMap kf)[i]? = some k → c + i < D.cnt d ∧ D.ρ d (c + i) = ρ k.1 k.2) →
      RelL D (opnL f c ys).1 us ∧ ∀ (i : Nat) (e : Ent) (k : Nat × Nat), (opnL f c ys).2[i]? = some e → (xs.flatMap kf)[i]? = some k → EntRel D w w0.heap.size (ρ k.1 k.2) e
  | [], ys, us, h1, h2, _ => by
    have e1 : ys = [] := List.length_eq_zero_iff.1 (by simpa using h1.symm)
    have e2 : us = [] := List.length_eq_zero_iff.1 (by simpa using h2.symm)
    subst e1; subst e2
    exact ⟨by simp, fun c => ⟨rfl, fun D _ _ => ⟨.nil _, by simp [opnL]⟩⟩⟩
  | x :: xs, [], us, h1, _, _ => by simp at h1
  | x :: xs, y :: ys, [], _, h2, _ => by simp at h2
  | x :: xs, y :: ys, u :: us, h1, h2, hg => by
    obtain ⟨g1, g2⟩ := hg 0 x y u rfl rfl rfl
    obtain ⟨i1, i2⟩ := goodL xs ys us (by simpa using h1) (by simpa using h2) fun i x' y' u' hx hy hu => hg (i + 1) x' y' u' (by simpa using hx) (by simpa using hy) (by simpa using hu)
    refine ⟨fun k hk => ?_, fun c => ?_⟩
    · simp only [List.flatMap_cons, List.mem_append] at hk
      rcases hk with hk | hk
      · exact g1 k hk
      · exact i1 k hk
    · obtain ⟨l1, m1⟩ := g2 c
      obtain ⟨l2, m2⟩ := i2 (c + (f c y).2.length)
      rw [l1] at l2 m2
      simp only [opnL, List.flatMap_cons, List.length_append, l1]
      refine ⟨by rw [l2], fun D hD hρ => ?_⟩
      obtain ⟨r1, e1⟩ := m1 D hD fun i k hk => hρ i k (by rw [List.getElem?_append_left (List.getElem?_eq_some_iff.1 hk).1]; exact hk)
      obtain ⟨r2, e2⟩ := m2 D hD fun i k hk => by
        have := hρ ((kf x).length + i) k (by rw [List.getElem?_append_right (by omega)]; simpa using hk)
        rw [Nat.add_assoc]
        exact this
      refine ⟨.cons r1 r2, fun i e k hi hk => ?_⟩
      by_cases hlt : i < (kf x).length
      · rw [List.getElem?_append_left (by rw [l1]; exact hlt)] at hi
        rw [List.getElem?_append_left hlt] at hk
        exact e1 i e k hi hk
      · rw [List.getElem?_append_right (by rw [l1]; omega), l1] at hi
        rw [List.getElem?_append_right (by omega)] at hk
        exact e2 _ e k hi hk

theorem optAll_get {α β : Type} {f : α → Option β} {l : List α} {r : List β} (h : optAll (l.map f) = some r) : l.length = r.length ∧ ∀ (i : Nat) x y, l[i]? = some x → r[i]? = some y → f x = some y := by
  have hm := optAll_spec _ _ h
  have hl : l.length = r.length := by have := congrArg List.length hm; simpa using this
  refine ⟨hl, fun i x y hx hy => ?_⟩
  have := congrArg (·[i]?) hm
  simp only [List.getElem?_map, hx, hy, Option.map_some, Option.some.injEq] at this
  exact this

theorem good1 (S : Sim h0 w0 nt ρ st a w) (hH : ∀ b o, (ctx h0 w0 ρ st w).h b o → H b o) {x y : AV} {u : Value} (hu : RelV (ctx h0 w0 ρ st w) x u) (h : expoU1 st x = some y) (d : Nat) : GoodU w0 ρ st w d H (opn1 d) y (ownKeys1 x) u := by
  cases x
  case agg cs =>
    simp only [expoU1, Option.map_eq_some_iff] at h
    obtain ⟨ds, hds, rfl⟩ := h
    obtain ⟨hl, hget⟩ := optAll_get hds
    cases hu with
    | agg _ ar hla hr h1 =>
      obtain ⟨g1, g2⟩ := goodL (w0 := w0) (ρ := ρ) (st := st) (w := w) (H := H) (f := opnC d) (kf := ownKey) (d := d) cs ds ar.toList hl (by simpa using hla) fun i x y v hx hy hv => goodC S hH (hr i x v hx (by simpa using hv)) (hget i x y hx hy) d
      refine ⟨g1, fun c => ?_⟩
      obtain ⟨l1, m1⟩ := g2 c
      refine ⟨l1, fun D hD hρ => ?_⟩
      obtain ⟨r1, e1⟩ := m1 D hD hρ
      exact ⟨.agg _ ar (by simpa using r1.len) (fun i x y hx hy => r1.rel i x y hx (by simpa using hy)) h1, e1⟩
  all_goals
    have g := goodC S hH hu h d
    cases y <;> first | exact g | skip
    all_goals
      exfalso
      simp only [expoU1] at h
      unfold expoUC at h
      split at h
      · simp at h
      · simp at h
        try (split at h <;> (try split at h) <;> simp at h)

theorem goodU (S : Sim h0 w0 nt ρ st a w) (hH : ∀ b o, (ctx h0 w0 ρ st w).h b o → H b o) {x y : AV} {u : Value} (hu : RelV (ctx h0 w0 ρ st w) x u) (h : expoU st x = some y) (d : Nat) : GoodU w0 ρ st w d H (opn d) y (ownKeys x) u := by
  cases x
  case tup cs =>
    simp only [expoU, Option.map_eq_some_iff] at h
    obtain ⟨ds, hds, rfl⟩ := h
    obtain ⟨hl, hget⟩ := optAll_get hds
    cases hu with
    | tup _ ar hla hr =>
      obtain ⟨g1, g2⟩ := goodL (w0 := w0) (ρ := ρ) (st := st) (w := w) (H := H) (f := opn1 d) (kf := ownKeys1) (d := d) cs ds ar.toList hl (by simpa using hla) fun i x y v hx hy hv => good1 S hH (hr i x v hx (by simpa using hv)) (hget i x y hx hy) d
      refine ⟨g1, fun c => ?_⟩
      obtain ⟨l1, m1⟩ := g2 c
      refine ⟨l1, fun D hD hρ => ?_⟩
      obtain ⟨r1, e1⟩ := m1 D hD hρ
      exact ⟨.tup _ ar (by simpa using r1.len) (fun i x y hx hy => r1.rel i x y hx (by simpa using hy)), e1⟩
  case agg cs =>
    have g := good1 S hH hu h d
    cases y <;> first | exact g | (simp only [expoU, expoU1, Option.map_eq_some_iff] at h; obtain ⟨_, _, h⟩ := h; cases h)
  all_goals
    have g := goodC S hH hu h d
    cases y <;> first | exact g | skip
    all_goals
      exfalso
      simp only [expoU, expoU1] at h
      unfold expoUC at h
      split at h
      · simp at h
      · simp at h
        try (split at h <;> (try split at h) <;> simp at h)

theorem expoU_sound (S : Sim h0 w0 nt ρ st a w) {x r : AV} {u : Value} (hu : RelV (ctx h0 w0 ρ st w) x u) (hn : (ownKeys x).Nodup) (h : expoU st x = some r) : RelR h0 w0 w r u := by
  have hH : ∀ b o, (ctx h0 w0 ρ st w).h b o → newHs h0 w0 w ((ownKeys x).map fun k => ρ k.1 k.2) b o := fun b o hb => by
    have g := (goodU (H := (ctx h0 w0 ρ st w).h) S (fun _ _ h => h) hu h 0).1
    refine ⟨hb.1, hb.2.1, fun y hy => ?_⟩
    obtain ⟨k, hk, rfl⟩ := List.mem_map.1 hy
    obtain ⟨e, he⟩ := g k hk
    exact hb.2.2 _ _ e he
  have g := fun d => goodU S hH hu h d
  have key : ∀ y ∈ (ownKeys x).map (fun k => ρ k.1 k.2), ∃ k e, k ∈ ownKeys x ∧ y = ρ k.1 k.2 ∧ st.heap k.1 k.2 = some e := fun y hy => by
    obtain ⟨k, hk, rfl⟩ := List.mem_map.1 hy
    obtain ⟨e, he⟩ := (g 0).1 k hk
    exact ⟨k, e, hk, rfl, he⟩
  refine ⟨(ownKeys x).map fun k => ρ k.1 k.2, fun y hy => ?_, fun i j y z b hy hz hb hb' => ?_, fun y hy b hb => ?_, fun d c => by rw [((g d).2 c).1]; simp, fun D d c hD hρ => ?_⟩
  · obtain ⟨k, e, _, rfl, he⟩ := key y hy
    exact (S.ent _ _ e he).2.1
  · rw [List.getElem?_map] at hy hz
    cases hi : (ownKeys x)[i]? with
    | none => simp [hi] at hy
    | some k => cases hj : (ownKeys x)[j]? with
      | none => simp [hj] at hz
      | some k' =>
        simp only [hi, hj, Option.map_some, Option.some.injEq] at hy hz
        subst hy; subst hz
        obtain ⟨e, he⟩ := (g 0).1 k (List.mem_of_getElem? hi)
        obtain ⟨e', he'⟩ := (g 0).1 k' (List.mem_of_getElem? hj)
        obtain ⟨q1, q2⟩ := S.inj _ _ _ _ e e' b he he' hb hb'
        have hkk : k = k' := Prod.ext q1 q2
        subst hkk
        obtain ⟨hil, hie⟩ := List.getElem?_eq_some_iff.1 hi
        obtain ⟨hjl, hje⟩ := List.getElem?_eq_some_iff.1 hj
        have hp := List.pairwise_iff_getElem.1 hn
        rcases Nat.lt_trichotomy i j with hlt | heq | hlt
        · exact absurd (hie.trans hje.symm) (hp i j hil hjl hlt)
        · exact heq
        · exact absurd (hje.trans hie.symm) (hp j i hjl hil hlt)
  · obtain ⟨k, e, _, rfl, he⟩ := key y hy
    exact ((S.ent _ _ e he).2.2.blk b hb).1
  · obtain ⟨r1, e1⟩ := ((g d).2 c).2 D hD fun i k hk => hρ i _ (by rw [List.getElem?_map, hk]; rfl)
    refine ⟨r1, fun i e y hi hy => ?_⟩
    rw [List.getElem?_map] at hy
    cases hk : (ownKeys x)[i]? with
    | none => simp [hk] at hy
    | some k =>
      simp only [hk, Option.map_some, Option.some.injEq] at hy
      subst hy
      exact e1 i e k hi hk
end keep

theorem finishK_sound {h0 : Nat → Obj → Prop} {w0 : World} {nt : Nat} {ρ : Nat → Nat → Value} {st : St} {a : Act} {w : World} (S : Sim h0 w0 nt ρ st a w) {fn : Func} {r : AV} (h : finishK P fn st = some r) :
    ∃ v, (results fn a.tmps).run P w = .ok v w ∧ RelR h0 w0 w r v := by
  have hres : ∀ (ys : List Value), (fn.results.toList.mapM (resOne a.tmps)).run P w = .ok ys w →
      (results fn a.tmps).run P w = .ok (if h : ys.toArray.size = 1 then ys.toArray[0] else .tuple ys.toArray) w := by
    intro ys hys
    have e : results fn a.tmps = (do let vs ← fn.results.mapM (resOne a.tmps); pure (if h : vs.size = 1 then vs[0] else .tuple vs)) := by
      unfold results
      congr 1
    rw [e, Array.mapM_eq_mapM_toList]
    simp only [Sem.run_bind, Sem.run_map, hys, Result.andThen_ok, Sem.run_pure]
  unfold finishK at h
  split at h
  · rename_i r1 hr1
    cases h1 : resVal P st r1 with
    | none => simp [h1, bnd] at h
    | some x =>
      simp only [h1, bnd] at h
      split at h
      · rename_i hn
        obtain ⟨ys, hys, hrel⟩ := results_list (P := P) S [r1] [x] (by simp [h1])
        have hlen := hrel.len
        obtain ⟨y, rfl⟩ : ∃ y, ys = [y] := by
          cases ys with
          | nil => simp at hlen
          | cons y ys => cases ys with
            | nil => exact ⟨y, rfl⟩
            | cons z zs => simp at hlen
        have hrun := hres [y] (by rw [hr1]; exact hys)
        simp at hrun
        exact ⟨y, hrun, expoU_sound S hrel.head hn h⟩
      · cases h
  · rename_i rs hne
    cases hxs : optAll (fn.results.toList.map fun r => resVal P st r) with
    | none => simp [hxs, bnd] at h
    | some xs =>
      simp only [hxs, bnd] at h
      split at h
      · rename_i hn
        have e1 := optAll_spec _ _ hxs
        obtain ⟨ys, hys, hrel⟩ := results_list S _ xs e1
        have hl1 : xs.length = fn.results.toList.length := by have := congrArg List.length e1; simpa using this.symm
        have hne1 : ys.toArray.size ≠ 1 := by
          intro h1
          have hlen := hrel.len
          simp only [List.size_toArray] at h1
          have : fn.results.toList.length = 1 := by omega
          obtain ⟨z, hz⟩ := List.length_eq_one_iff.1 this
          exact hne z hz
        have hrun := hres ys hys
        rw [dif_neg hne1] at hrun
        exact ⟨_, hrun, expoU_sound S (.tup xs ys.toArray (by simpa using hrel.len) fun i x y hx hy => hrel.rel i x y hx (by simpa using hy)) hn h⟩
      · cases h

theorem finishF_sound {h0 : Nat → Obj → Prop} {w0 : World} {nt : Nat} {ρ : Nat → Nat → Value} {st : St} {a : Act} {w : World} (S : Sim h0 w0 nt ρ st a w) {f : Nat} {fn : Func} {r : AV} (h : finishF P f fn st = some r) :
    ∃ v, (results fn a.tmps).run P w = .ok v w ∧ RelR h0 w0 w r v := by
  unfold finishF at h
  split at h
  · exact finishK_sound S h
  · exact finish_sound S h

theorem init_sim {h0 : Nat → Obj → Prop} {w : World} {xs : List AV} {vs : Array Value} {nt : Nat} (hh : ∀ b o, h0 b o → w.heap[b]? = some o) (hrel : RelL (bare h0) xs vs.toList) :
    Sim h0 w nt (fun _ _ => undef) (St.init xs) { tmps := vs ++ Array.replicate (nt - vs.size) undef, defers := [] } w := by
  have k : (bare h0).Le (ctx h0 w (fun _ _ => undef) (St.init xs) w) := ⟨fun b o h => ⟨hh b o h, fun _ => h, fun s g e he => by simp [St.init] at he⟩, fun _ => Nat.le_refl _, fun _ _ h => absurd h (by simp [bare])⟩
  refine ⟨fun t => ?_, fun s g e he => by simp [St.init] at he, fun s g s' g' e e' b he => by simp [St.init] at he, ⟨rfl, rfl, rfl, Nat.le_refl _, fun _ _ _ => rfl⟩, by simp; omega, rfl⟩
  have hlen := hrel.len
  simp only [Array.length_toList] at hlen
  show RelV _ ((xs[t]?).getD (.v undef)) _
  by_cases ht : t < vs.size
  · have hx : xs[t]? = some (xs[t]'(by omega)) := by simp [show t < xs.length by omega]
    have hy : vs.toList[t]? = some vs[t] := by simp [ht]
    have := (hrel.rel t _ _ hx hy).le k
    rw [hx]
    simp only [Option.getD_some]
    have e : (vs ++ Array.replicate (nt - vs.size) undef).getD t undef = vs[t] := by
      simp [Array.getElem?_append_left ht, ht]
    rw [e]
    exact this
  · have hx : xs[t]? = none := List.getElem?_eq_none (by omega)
    rw [hx]
    have e : (vs ++ Array.replicate (nt - vs.size) undef).getD t undef = undef := by
      rw [Array.getD_eq_getD_getElem?, Array.getElem?_append_right (by omega), Array.getElem?_replicate]
      split <;> rfl
    rw [e]
    exact .v _

/-- What is known of calls that were proved elsewhere holds. -/
def ExtOk (P : Program) : Prop := CallOk P Ext.ext

theorem evF_ok (hm : P.follows .mixedOrders = true) (hx : ExtOk P) : ∀ n, CallOk P (evF P n)
  | 0 => fun g xs r h => hx g xs r (by simpa [evF] using h)
  | n + 1 => fun g xs r h => by
    rw [evF] at h
    split at h
    · rename_i r' he
      simp only [Option.some.injEq] at h
      subst h
      exact hx g xs _ he
    · split at h
      · cases h
      rename_i hnu
      unfold runF at h
      cases hf : P.funcs[g]? with
      | none => simp [hf] at h
      | some fn =>
        simp only [hf] at h
        split at h
        · rename_i hok
          cases hb : fn.body with
          | none => simp [hb] at h
          | some c =>
            simp only [hb] at h
            simp only [fnOk, hb, Bool.and_eq_true, bne_iff_ne, ne_eq] at hok
            have hX : SoundC P g xs r → SoundX P g xs r := fun h => by
              unfold SoundX
              split
              · simp [isUniq] at hnu
              · exact h
            refine ⟨⟨fn, hf, by simpa using hok.1, by simp [hb]⟩, hX fun w h0 vs hh hrel => ?_⟩
            cases h1 : evC P (evF P n) n c (St.init xs) with
            | none => simp [h1, bnd] at h
            | some es =>
              obtain ⟨ex, sf⟩ := es
              simp only [h1, bnd] at h
              refine calls_of_wp hf hb ?_
              refine evC_sound hm (evF_ok hm hx n) n c (St.init xs) sf ex _ _ w _ hok.2 (init_sim hh hrel) h1 fun ρ' a' w' S' => ?_
              have fin : finishF P g fn sf = some r → a'.defers = [] ∧ ∃ v, (results fn a'.tmps).run P w' = .ok v w' ∧ ∃ v', Ending.returned v = .returned v' ∧ RelR h0 w w' r v' ∧ w.grownBy w' none := fun h => by
                obtain ⟨v, hv, hr⟩ := finishF_sound S' h
                exact ⟨S'.defers, v, hv, v, rfl, hr, S'.ext⟩
              cases ex with
              | normal => exact fin h
              | ret => exact fin h
              | exit id => cases h
        · cases h
end
end Go.Ab
end
section
set_option linter.unusedVariables false
set_option linter.unusedSimpArgs false
namespace Go.Ab
open Classical
variable [Ext]

noncomputable def lim {α : Type} (g : Nat → Option α) : Option α := if h : ∃ n r, g n = some r then some (Classical.choose (Classical.choose_spec h)) else none

theorem mono_le {α : Type} {g : Nat → Option α} (hm : ∀ n r, g n = some r → g (n + 1) = some r) {n m : Nat} (h : n ≤ m) {r : α} (hr : g n = some r) : g m = some r := by
  induction m with
  | zero => have : n = 0 := by omega
            subst this; exact hr
  | succ m ih =>
    rcases Nat.lt_or_ge m n with h' | h'
    · have : n = m + 1 := by omega
      subst this; exact hr
    · exact hm m r (ih h')

theorem lim_iff {α : Type} {g : Nat → Option α} (hm : ∀ n r, g n = some r → g (n + 1) = some r) (r : α) : lim g = some r ↔ ∃ n, g n = some r := by
  unfold lim
  constructor
  · intro h
    split at h
    · rename_i hh
      simp only [Option.some.injEq] at h
      exact ⟨Classical.choose hh, by rw [← h]; exact Classical.choose_spec (Classical.choose_spec hh)⟩
    · cases h
  · rintro ⟨n, hn⟩
    have hh : ∃ n r, g n = some r := ⟨n, r, hn⟩
    rw [dif_pos hh]
    have h2 := Classical.choose_spec (Classical.choose_spec hh)
    congr 1
    rcases Nat.le_total n (Classical.choose hh) with hle | hle
    · have := mono_le hm hle hn
      rw [h2] at this
      exact Option.some.inj this
    · have := mono_le hm hle h2
      rw [hn] at this
      exact (Option.some.inj this).symm

theorem bnd_eq {α β : Type} {x : Option α} {f : α → Option β} {r : β} : bnd x f = some r ↔ ∃ a, x = some a ∧ f a = some r := by
  cases x <;> simp [bnd]

def CallLe (c c' : Nat → List AV → Option AV) : Prop := ∀ g xs r, c g xs = some r → c' g xs = some r

section
variable (P : Program) {c c' : Nat → List AV → Option AV}

theorem bnd_mono {α β : Type} {x y : Option α} {f : α → Option β} {r : β} (h : ∀ a, x = some a → y = some a) (hx : bnd x f = some r) : bnd y f = some r := by
  cases hx' : x with
  | none => simp [hx', bnd] at hx
  | some a => rw [h a hx']; rw [hx'] at hx; exact hx

theorem callFn_mono (h : CallLe c c') {g : Nat} {args : List AV} {st : St} {dst : Option Nat} {e : Eff} (he : callFn c g args st dst = some e) : callFn c' g args st dst = some e := by
  unfold callFn at *
  split at he
  · rename_i hf
    rw [if_pos hf]
    exact bnd_mono (h g args) he
  · rename_i hf
    rw [if_neg hf]
    split at he
    · rename_i xs hxs
      exact bnd_mono (h g xs) he
    · cases he

theorem callMv_mono (h : CallLe c c') {g : Nat} {args : List AV} {st : St} {dst : Option Nat} {e : Eff} (he : callMv c g args st dst = some e) : callMv c' g args st dst = some e := by
  unfold callMv at *
  split at he
  · split at he
    · rename_i e0 sz n cs hh
      split at he
      · rename_i hc
        rename_i rest _
        simp only [hh, if_pos hc]
        cases hr : c g (.uniq e0 sz n cs :: rest) with
        | none => simp [hr] at he
        | some r => rw [h _ _ _ hr]; rw [hr] at he; exact he
      · cases he
    · cases he
  · exact callFn_mono h he

theorem callEat_mono (h : CallLe c c') {g : Nat} {args : List AV} {st : St} {dst : Option Nat} {e : Eff} (he : callEat c g args st dst = some e) : callEat c' g args st dst = some e := by
  unfold callEat at *
  split at he
  · rename_i s k hk
    split at he
    · rename_i hok
      rw [if_pos hok]
      split at he
      · rename_i xs hxs
        exact bnd_mono (h g xs) he
      · cases he
    · cases he
  · rename_i hk
    exact callFn_mono h he

theorem callVal_mono (h : CallLe c c') {f : Operand} {args : List AV} {st : St} {dst : Option Nat} {e : Eff} (he : callVal c f args st dst = some e) : callVal c' f args st dst = some e := by
  cases f
  case func g =>
    simp only [callVal] at *
    by_cases hm : Ext.mv g = true
    · rw [if_pos hm] at *
      exact callMv_mono h he
    · rw [if_neg hm] at *
      by_cases hm2 : Ext.eat g = true
      · rw [if_pos hm2] at *
        exact callEat_mono h he
      · rw [if_neg hm2] at *
        exact callFn_mono h he
  all_goals
    simp only [callVal] at *
    split at he
    · exact callFn_mono h he
    · cases he

theorem opEff_mono (h : CallLe c c') {o : Oper} {st : St} {e : Eff} (he : opEff P c o st = some e) : opEff P c' o st = some e := by
  obtain ⟨dst, op, type, pos, after, guard⟩ := o
  cases op
  case call cl =>
    simp only [opEff] at *
    unfold callEff at *
    split at he
    · exact callVal_mono h he
    all_goals exact he
  case makeMap T r => cases r <;> exact he
  all_goals exact he

theorem evOp_mono (h : CallLe c c') {ops : Array Oper} {o : Oper} {st s : St} (he : evOp P c ops o st = some s) : evOp P c' ops o st = some s := by
  unfold evOp at *
  split at he
  · split at he
    · rename_i b hg hb
      rw [if_pos hb]
      cases h1 : opEff P c o st with
      | none => simp [h1] at he
      | some e => rw [opEff_mono P h h1]; rw [h1] at he; exact he
    · rename_i b hg hb
      rw [if_neg hb]; exact he
  · cases he

theorem evOps_mono (h : CallLe c c') {ops : Array Oper} : ∀ (l : List Oper) {st s : St}, evOps P c ops l st = some s → evOps P c' ops l st = some s
  | [], st, s, he => he
  | o :: l, st, s, he => by
    simp only [evOps] at *
    obtain ⟨s1, h1, h2⟩ := bnd_eq.1 he
    exact bnd_eq.2 ⟨s1, evOp_mono P h h1, evOps_mono h l h2⟩

theorem evC_mono (h : CallLe c c') : ∀ (n m : Nat), n ≤ m → ∀ (x : Code) (st : St) (r : Ex × St), evC P c n x st = some r → evC P c' m x st = some r
  | 0, _, _, _, _, _, he => by simp [evC] at he
  | n + 1, 0, hle, _, _, _, _ => by omega
  | n + 1, m + 1, hle, x, st, r, he => by
    have ih := evC_mono h n m (by omega)
    cases x <;> simp only [evC] at he ⊢ <;> (try exact he)
    case region id ops draw =>
      obtain ⟨s1, h1, h2⟩ := bnd_eq.1 he
      exact bnd_eq.2 ⟨s1, evOps_mono P h _ h1, h2⟩
    case seq a b =>
      obtain ⟨⟨e1, s1⟩, h1, h2⟩ := bnd_eq.1 he
      refine bnd_eq.2 ⟨(e1, s1), ih _ _ _ h1, ?_⟩
      cases e1 with
      | normal => exact ih _ _ _ h2
      | _ => exact h2
    case cond cc a b =>
      split at he
      · split at he
        · rename_i hb; rw [if_pos hb]; exact ih _ _ _ he
        · rename_i hb; rw [if_neg hb]; exact ih _ _ _ he
      · cases he
    case block id b =>
      obtain ⟨r1, h1, h2⟩ := bnd_eq.1 he
      exact bnd_eq.2 ⟨r1, ih _ _ _ h1, h2⟩
    case loop b =>
      obtain ⟨⟨e1, s1⟩, h1, h2⟩ := bnd_eq.1 he
      refine bnd_eq.2 ⟨(e1, s1), ih _ _ _ h1, ?_⟩
      cases e1 with
      | normal => exact ih _ _ _ h2
      | _ => exact h2

theorem evF_mono : ∀ n, CallLe (evF P n) (evF P (n + 1))
  | 0 => fun g xs r h => by
    simp only [evF] at h
    simp only [evF, h]
  | n + 1 => fun g xs r h => by
    have ih := evF_mono n
    simp only [evF] at h ⊢
    cases he : Ext.ext g xs with
    | some r' => rw [he] at h; exact h
    | none =>
      simp only [he] at h
      simp only
      by_cases hu : xs.any isUniq = true
      · rw [if_pos hu] at h; cases h
      · rw [if_neg hu] at h ⊢
        unfold runF at h ⊢
        split at h
        · split at h
          · rename_i hok
            rw [if_pos hok]
            split at h
            · obtain ⟨r1, h1, h2⟩ := bnd_eq.1 h
              exact bnd_eq.2 ⟨r1, evC_mono P ih n (n + 1) (by omega) _ _ _ h1, h2⟩
            · cases h
          · cases h
        · cases h

theorem evF_le {n m : Nat} (h : n ≤ m) : CallLe (evF P n) (evF P m) := fun g xs r hr =>
  mono_le (g := fun n => evF P n g xs) (fun n r => evF_mono P n g xs r) h hr

/-- A call, with as much fuel as it takes. -/
noncomputable def callL (f : Nat) (xs : List AV) : Option AV := lim fun n => evF P n f xs

/-- Code, with as much fuel as it takes. -/
noncomputable def evL (x : Code) (st : St) : Option (Ex × St) := lim fun n => evC P (evF P n) n x st

theorem callL_iff {f : Nat} {xs : List AV} {r : AV} : callL P f xs = some r ↔ ∃ n, evF P n f xs = some r := lim_iff (fun n r => evF_mono P n f xs r) r

theorem evL_iff {x : Code} {st : St} {r : Ex × St} : evL P x st = some r ↔ ∃ n m, evC P (evF P n) m x st = some r := by
  unfold evL
  rw [lim_iff (fun n r => evC_mono P (evF_mono P n) n (n + 1) (by omega) x st r)]
  constructor
  · rintro ⟨n, h⟩; exact ⟨n, n, h⟩
  · rintro ⟨n, m, h⟩
    exact ⟨max n m, evC_mono P (evF_le P (Nat.le_max_left n m)) m _ (Nat.le_max_right n m) x st r h⟩

theorem call_sound (hm : P.follows .mixedOrders = true) (hx : ExtOk P) {f : Nat} {xs : List AV} {r : AV} (h : callL P f xs = some r) : SoundX P f xs r := by
  obtain ⟨n, hn⟩ := (callL_iff P).1 h
  exact (evF_ok hm hx n f xs r hn).2

theorem callL_le (n : Nat) : CallLe (evF P n) (callL P) := fun g xs r h => (callL_iff P).2 ⟨n, h⟩

theorem bnd_lim {β : Type} {g : Nat} {xs : List AV} {f : AV → Option β} {r : β} (h : bnd (callL P g xs) f = some r) : ∃ n, bnd (evF P n g xs) f = some r := by
  obtain ⟨a, h1, h2⟩ := bnd_eq.1 h
  obtain ⟨n, hn⟩ := (callL_iff P).1 h1
  exact ⟨n, bnd_eq.2 ⟨a, hn, h2⟩⟩

theorem callFn_lim {g : Nat} {args : List AV} {st : St} {dst : Option Nat} {e : Eff} (h : callFn (callL P) g args st dst = some e) : ∃ n, callFn (evF P n) g args st dst = some e := by
  unfold callFn at h ⊢
  split at h
  · rename_i hf
    obtain ⟨n, hn⟩ := bnd_lim P h
    exact ⟨n, by rw [if_pos hf]; exact hn⟩
  · rename_i hf
    split at h
    · rename_i xs hxs
      obtain ⟨n, hn⟩ := bnd_lim P h
      exact ⟨n, by rw [if_neg hf]; exact hn⟩
    · cases h

theorem callMv_lim {g : Nat} {args : List AV} {st : St} {dst : Option Nat} {e : Eff} (h : callMv (callL P) g args st dst = some e) : ∃ n, callMv (evF P n) g args st dst = some e := by
  unfold callMv at h ⊢
  split at h
  · rename_i s k rest
    split at h
    · rename_i e0 sz n cs hh
      split at h
      · rename_i hc
        simp only [hh, if_pos hc]
        cases hr : callL P g (.uniq e0 sz n cs :: rest) with
        | none => simp [hr] at h
        | some r =>
          obtain ⟨m, hm⟩ := (callL_iff P).1 hr
          exact ⟨m, by rw [hm]; rw [hr] at h; exact h⟩
      · cases h
    · cases h
  · exact callFn_lim P h

theorem callEat_lim {g : Nat} {args : List AV} {st : St} {dst : Option Nat} {e : Eff} (h : callEat (callL P) g args st dst = some e) : ∃ n, callEat (evF P n) g args st dst = some e := by
  unfold callEat at h ⊢
  split at h
  · rename_i s k hk
    split at h
    · rename_i hok
      simp only [if_pos hok]
      split at h
      · rename_i xs hxs
        exact bnd_lim P h
      · cases h
    · cases h
  · rename_i hk
    obtain ⟨n, hn⟩ := callFn_lim P h
    exact ⟨n, hn⟩

theorem opEff_lim {o : Oper} {st : St} {e : Eff} (h : opEff P (callL P) o st = some e) : ∃ n, opEff P (evF P n) o st = some e := by
  obtain ⟨dst, op, type, pos, after, guard⟩ := o
  cases op
  case call cl =>
    simp only [opEff] at *
    unfold callEff at *
    split at h
    · unfold callVal at h ⊢
      split at h
      · split at h
        · rename_i hm
          obtain ⟨n, hn⟩ := callMv_lim P h
          exact ⟨n, by simp only [hm, if_true]; exact hn⟩
        · rename_i hm
          split at h
          · rename_i hm2
            obtain ⟨n, hn⟩ := callEat_lim P h
            exact ⟨n, by rw [if_neg hm, if_pos hm2]; exact hn⟩
          · rename_i hm2
            obtain ⟨n, hn⟩ := callFn_lim P h
            exact ⟨n, by rw [if_neg hm, if_neg hm2]; exact hn⟩
      · split at h
        · exact callFn_lim P h
        · cases h
    all_goals exact ⟨0, h⟩
  case makeMap T r => cases r <;> exact ⟨0, h⟩
  all_goals exact ⟨0, h⟩

theorem evOp_lim {ops : Array Oper} {o : Oper} {st s : St} (h : evOp P (callL P) ops o st = some s) : ∃ n, evOp P (evF P n) ops o st = some s := by
  unfold evOp at *
  split at h
  · split at h
    · rename_i b hg hb
      cases h1 : opEff P (callL P) o st with
      | none => simp [h1] at h
      | some e =>
        obtain ⟨n, hn⟩ := opEff_lim P h1
        refine ⟨n, ?_⟩
        rw [if_pos hb, hn]
        rw [h1] at h
        exact h
    · rename_i b hg hb
      exact ⟨0, by rw [if_neg hb]; exact h⟩
  · cases h

theorem evOps_lim {ops : Array Oper} : ∀ (l : List Oper) {st s : St}, evOps P (callL P) ops l st = some s → ∃ n, evOps P (evF P n) ops l st = some s
  | [], st, s, h => ⟨0, h⟩
  | o :: l, st, s, h => by
    simp only [evOps] at *
    obtain ⟨s1, h1, h2⟩ := bnd_eq.1 h
    obtain ⟨n, hn⟩ := evOp_lim P h1
    obtain ⟨m, hm⟩ := evOps_lim l h2
    exact ⟨max n m, bnd_eq.2 ⟨s1, evOp_mono P (evF_le P (Nat.le_max_left n m)) hn, evOps_mono P (evF_le P (Nat.le_max_right n m)) l hm⟩⟩

/-- The equations. -/
theorem evL_skip (st : St) : evL P .skip st = some (.normal, st) := (evL_iff P).2 ⟨0, 1, rfl⟩
theorem evL_exit (id : Nat) (st : St) : evL P (.exit id) st = some (.exit id, st) := (evL_iff P).2 ⟨0, 1, rfl⟩
theorem evL_ret (st : St) : evL P .ret st = some (.ret, st) := (evL_iff P).2 ⟨0, 1, rfl⟩

theorem evL_region (id : Nat) (ops : Array Oper) (d : Bool) (st : St) : evL P (.region id ops d) st = bnd (evOps P (callL P) ops ops.toList st) fun s => some (.normal, s) := by
  apply Option.ext
  intro r
  rw [evL_iff, bnd_eq]
  constructor
  · rintro ⟨n, m, h⟩
    cases m with
    | zero => simp [evC] at h
    | succ m =>
      simp only [evC] at h
      obtain ⟨s1, h1, h2⟩ := bnd_eq.1 h
      exact ⟨s1, evOps_mono P (callL_le P n) _ h1, h2⟩
  · rintro ⟨s1, h1, h2⟩
    obtain ⟨n, hn⟩ := evOps_lim P _ h1
    exact ⟨n, 1, by simp only [evC]; exact bnd_eq.2 ⟨s1, hn, h2⟩⟩

def thenL (r : Ex × St) (k : St → Option (Ex × St)) : Option (Ex × St) :=
  match r.1 with
  | .normal => k r.2
  | e => some (e, r.2)

theorem evL_seq (a b : Code) (st : St) : evL P (.seq a b) st = bnd (evL P a st) fun r => thenL r (evL P b) := by
  apply Option.ext
  intro r
  rw [evL_iff, bnd_eq]
  constructor
  · rintro ⟨n, m, h⟩
    cases m with
    | zero => simp [evC] at h
    | succ m =>
      simp only [evC] at h
      obtain ⟨⟨e1, s1⟩, h1, h2⟩ := bnd_eq.1 h
      refine ⟨(e1, s1), (evL_iff P).2 ⟨n, m, h1⟩, ?_⟩
      cases e1 with
      | normal => exact (evL_iff P).2 ⟨n, m, h2⟩
      | _ => exact h2
  · rintro ⟨⟨e1, s1⟩, h1, h2⟩
    obtain ⟨n1, m1, h1⟩ := (evL_iff P).1 h1
    cases e1 with
    | normal =>
      obtain ⟨n2, m2, h2⟩ := (evL_iff P).1 h2
      refine ⟨max n1 n2, max m1 m2 + 1, ?_⟩
      simp only [evC]
      exact bnd_eq.2 ⟨(.normal, s1), evC_mono P (evF_le P (Nat.le_max_left _ _)) _ _ (Nat.le_max_left _ _) _ _ _ h1, evC_mono P (evF_le P (Nat.le_max_right _ _)) _ _ (Nat.le_max_right _ _) _ _ _ h2⟩
    | exit id => exact ⟨n1, m1 + 1, by simp only [evC]; exact bnd_eq.2 ⟨(.exit id, s1), h1, h2⟩⟩
    | ret => exact ⟨n1, m1 + 1, by simp only [evC]; exact bnd_eq.2 ⟨(.ret, s1), h1, h2⟩⟩

theorem evL_loop (b : Code) (st : St) : evL P (.loop b) st = bnd (evL P b st) fun r => thenL r (evL P (.loop b)) := by
  apply Option.ext
  intro r
  rw [evL_iff, bnd_eq]
  constructor
  · rintro ⟨n, m, h⟩
    cases m with
    | zero => simp [evC] at h
    | succ m =>
      simp only [evC] at h
      obtain ⟨⟨e1, s1⟩, h1, h2⟩ := bnd_eq.1 h
      refine ⟨(e1, s1), (evL_iff P).2 ⟨n, m, h1⟩, ?_⟩
      cases e1 with
      | normal => exact (evL_iff P).2 ⟨n, m, h2⟩
      | _ => exact h2
  · rintro ⟨⟨e1, s1⟩, h1, h2⟩
    obtain ⟨n1, m1, h1⟩ := (evL_iff P).1 h1
    cases e1 with
    | normal =>
      obtain ⟨n2, m2, h2⟩ := (evL_iff P).1 h2
      refine ⟨max n1 n2, max m1 m2 + 1, ?_⟩
      simp only [evC]
      exact bnd_eq.2 ⟨(.normal, s1), evC_mono P (evF_le P (Nat.le_max_left _ _)) _ _ (Nat.le_max_left _ _) _ _ _ h1, evC_mono P (evF_le P (Nat.le_max_right _ _)) _ _ (Nat.le_max_right _ _) _ _ _ h2⟩
    | exit id => exact ⟨n1, m1 + 1, by simp only [evC]; exact bnd_eq.2 ⟨(.exit id, s1), h1, h2⟩⟩
    | ret => exact ⟨n1, m1 + 1, by simp only [evC]; exact bnd_eq.2 ⟨(.ret, s1), h1, h2⟩⟩

theorem evL_block (id : Nat) (b : Code) (st : St) : evL P (.block id b) st = bnd (evL P b st) fun r => some (r.1.inBlock id, r.2) := by
  apply Option.ext
  intro r
  rw [evL_iff, bnd_eq]
  constructor
  · rintro ⟨n, m, h⟩
    cases m with
    | zero => simp [evC] at h
    | succ m =>
      simp only [evC] at h
      obtain ⟨r1, h1, h2⟩ := bnd_eq.1 h
      exact ⟨r1, (evL_iff P).2 ⟨n, m, h1⟩, h2⟩
  · rintro ⟨r1, h1, h2⟩
    obtain ⟨n1, m1, h1⟩ := (evL_iff P).1 h1
    exact ⟨n1, m1 + 1, by simp only [evC]; exact bnd_eq.2 ⟨r1, h1, h2⟩⟩

theorem evL_cond (c : Operand) (a b : Code) (st : St) {t : Bool} (hc : st.ev c = .v (.bool t)) : evL P (.cond c a b) st = if t = true then evL P a st else evL P b st := by
  apply Option.ext
  intro r
  rw [evL_iff]
  constructor
  · rintro ⟨n, m, h⟩
    cases m with
    | zero => simp [evC] at h
    | succ m =>
      simp only [evC, hc] at h
      split at h
      · rename_i hb; rw [if_pos hb]; exact (evL_iff P).2 ⟨n, m, h⟩
      · rename_i hb; rw [if_neg hb]; exact (evL_iff P).2 ⟨n, m, h⟩
  · intro h
    split at h
    · rename_i hb
      obtain ⟨n, m, h⟩ := (evL_iff P).1 h
      exact ⟨n, m + 1, by simp only [evC, hc]; rw [if_pos hb]; exact h⟩
    · rename_i hb
      obtain ⟨n, m, h⟩ := (evL_iff P).1 h
      exact ⟨n, m + 1, by simp only [evC, hc]; rw [if_neg hb]; exact h⟩

noncomputable def endL (f : Nat) (fn : Func) (r : Ex × St) : Option AV :=
  match r.1 with
  | .exit _ => none
  | _ => finishF P f fn r.2

theorem callL_eq {f : Nat} {fn : Func} {c : Code} (hf : P.funcs[f]? = some fn) (hb : fn.body = some c) (hok : fnOk fn = true) (xs : List AV) (hx : Ext.ext f xs = none) (hu : xs.any isUniq = false) : callL P f xs = bnd (evL P c (St.init xs)) (endL P f fn) := by
  apply Option.ext
  intro r
  rw [callL_iff, bnd_eq]
  constructor
  · rintro ⟨n, h⟩
    cases n with
    | zero => simp [evF, hx] at h
    | succ n =>
      simp only [evF, hx, hu, runF, hf, hok, hb, if_true] at h
      obtain ⟨r1, h1, h2⟩ := bnd_eq.1 h
      exact ⟨r1, (evL_iff P).2 ⟨n, n, h1⟩, h2⟩
  · rintro ⟨r1, h1, h2⟩
    obtain ⟨n, m, h1⟩ := (evL_iff P).1 h1
    refine ⟨max n m + 1, ?_⟩
    simp only [evF, hx, hu, runF, hf, hok, hb, if_true]
    exact bnd_eq.2 ⟨r1, evC_mono P (evF_le P (Nat.le_max_left _ _)) _ _ (Nat.le_max_right _ _) _ _ _ h1, h2⟩

theorem callL_ext {f : Nat} {xs : List AV} {r : AV} (h : Ext.ext f xs = some r) : callL P f xs = some r := (callL_iff P).2 ⟨0, h⟩
end
end Go.Ab
end
section
set_option linter.unusedVariables false
set_option linter.unusedSimpArgs false
namespace Go.Ab
open Classical
variable [Ext]

def rd (cs : List AV) (o k : Nat) : List AV := (cs.drop o).take k
def wr (cs : List AV) (o : Nat) (xs : List AV) : List AV := cs.take o ++ xs ++ cs.drop (o + xs.length)

def onB {α : Type} (x : AV) (k : Bool → Option α) : Option α :=
  match x with
  | .v (.bool b) => k b
  | _ => none

section
variable (P : Program)

def ldAt (T : Nat) (cs : List AV) (o : Nat) : Option AV :=
  match ldInfo P T with
  | some (true, k) => if 0 < k ∧ k ≤ cs.length - o then some (.agg (rd cs o k)) else none
  | some (false, _) => cs[o]?
  | none => none

def loadA (st : St) (T : Nat) (x : AV) : Option AV :=
  match x with
  | .ip cs o => ldAt P T cs o
  | .ptr s g o =>
    match st.heap s g with
    | some (.cells cs) => ldAt P T cs o
    | some (.row _ _ _ cs) => ldAt P T cs o
    | _ => none
  | _ => none

theorem ldAt_eq (T : Nat) (cs : List AV) (o : Nat) : loadVal P T (cs.drop o) = ldAt P T cs o := by
  unfold loadVal ldAt
  cases ldInfo P T with
  | none => rfl
  | some bk =>
    obtain ⟨b, k⟩ := bk
    cases b
    · simp
    · simp [rd]

theorem loadA_eq (st : St) (T : Nat) (x : AV) : bnd (readAt st x) (loadVal P T) = loadA P st T x := by
  cases x <;> simp only [readAt, bnd, loadA, ldAt_eq]
  split <;> rename_i h
  · split at h
    · rename_i h'; cases h; rw [h']; exact ldAt_eq P T _ _
    · rename_i h'; cases h; rw [h']; exact ldAt_eq P T _ _
    · cases h
  · split at h
    · cases h
    · cases h
    · rename_i h1 h2
      split <;> first | rfl | (rename_i h'; first | exact absurd h' (h1 _) | exact absurd h' (h2 _ _ _ _))

/-- A store's effect on the state. -/
def storeSt (st : St) (T : Nat) (a x : AV) : Option St := (storeA P st T a x).map fun u => st.setH u.1 u.2.1 (some u.2.2)

variable {P}
variable {call : Nat → List AV → Option AV} {ops : Array Oper} {st : St} {d : Option Nat} {T : Nat} {pos : String} {aft : Array Edge}

@[congr] theorem bnd_congr {α β : Type} {x y : Option α} {f : α → Option β} (h : x = y) : bnd x f = bnd y f := by rw [h]
@[congr] theorem onB_congr {α : Type} {x y : AV} {k : Bool → Option α} (h : x = y) : onB x k = onB y k := by rw [h]
@[congr] theorem evOps_congr {l : List Oper} {s t : St} (h : s = t) : evOps P call ops l s = evOps P call ops l t := by rw [h]
@[congr] theorem evOp_congr {o : Oper} {s t : St} (h : s = t) : evOp P call ops o s = evOp P call ops o t := by rw [h]
@[congr] theorem evL_congr {c : Code} {s t : St} (h : s = t) : evL P c s = evL P c t := by rw [h]

theorem bnd_some {α β : Type} (a : α) (f : α → Option β) : bnd (some a) f = f a := rfl
theorem bnd_none {α β : Type} (f : α → Option β) : bnd none f = none := rfl
theorem bnd_ite {α β : Type} (c : Prop) [Decidable c] (x y : Option α) (f : α → Option β) : bnd (if c then x else y) f = if c then bnd x f else bnd y f := by split <;> rfl
theorem onB_bool {α : Type} (b : Bool) (k : Bool → Option α) : onB (.v (.bool b)) k = k b := rfl
theorem ite_vbool (c : Prop) [Decidable c] (p q : Bool) : (if c then AV.v (.bool p) else AV.v (.bool q)) = .v (.bool (if c then p else q)) := by split <;> rfl

theorem evOps_nil : evOps P call ops [] st = some st := rfl
theorem evOps_cons (o : Oper) (l : List Oper) : evOps P call ops (o :: l) st = bnd (evOp P call ops o st) (evOps P call ops l) := rfl

/-- The guard's slot, and what follows. -/
def onG (x : Option Nat) (st : St) (want : Bool) (y n : Option St) : Option St :=
  match x with
  | some d => onB (st.env d) fun b => if b = want then y else n
  | none => none

theorem ev_guard (op : Op) (j : Nat) (want : Bool) {dj : Nat} {bj : Bool} (hj : (ops[j]?).bind (·.dst) = some dj) (hb : st.env dj = .v (.bool bj)) :
    evOp P call ops ⟨d, op, T, pos, aft, some (j, want)⟩ st = if bj = want then evOp P call ops ⟨d, op, T, pos, aft, none⟩ st else some (st.put d (.v undef)) := by
  simp only [evOp, gv, hj, hb]
  cases bj <;> cases want <;> simp [opEff]

theorem evOp_none (op : Op) : evOp P call ops ⟨d, op, T, pos, aft, none⟩ st = (opEff P call ⟨d, op, T, pos, aft, none⟩ st).map fun e => e.apply st := rfl

theorem ev_move (x : Operand) : evOp P call ops ⟨d, .move x, T, pos, aft, none⟩ st = some (st.put d (st.ev x)) := rfl
theorem ev_assign (x : Operand) : evOp P call ops ⟨d, .assign x, T, pos, aft, none⟩ st = some (st.put d (st.ev x)) := rfl
theorem ev_pick (c a b : Operand) : evOp P call ops ⟨d, .pick c a b, T, pos, aft, none⟩ st = onB (st.ev c) fun t => some (st.put d (if t = true then st.ev a else st.ev b)) := by
  rw [evOp_none]
  simp only [opEff, opVal]
  cases st.ev c <;> try rfl
  rename_i x
  cases x <;> rfl
theorem ev_binOp (op : BinOp) (S : Nat) (x y : Operand) (yT : Nat) : evOp P call ops ⟨d, .binOp op S x y yT, T, pos, aft, none⟩ st = bnd (binA P op S (st.ev x) (st.ev y)) fun v => some (st.put d v) := by
  rw [evOp_none]
  simp only [opEff, opVal]
  cases binA P op S (st.ev x) (st.ev y) <;> rfl
theorem ev_unOp (op : UnOp) (S : Nat) (x : Operand) : evOp P call ops ⟨d, .unOp op S x, T, pos, aft, none⟩ st = bnd (unA op (st.ev x)) fun v => some (st.put d v) := by
  rw [evOp_none]
  simp only [opEff, opVal]
  cases unA op (st.ev x) <;> rfl
def convA (P : Program) (src dst : Nat) (x : AV) : Option AV :=
  match x, intKind P dst, intKind P src with
  | .v (.int _ n), some k, some _ => some (.v (.int k (k.wrap n)))
  | _, _, _ => none
theorem ev_convert (src dst : Nat) (x : Operand) : evOp P call ops ⟨d, .convert src dst x, T, pos, aft, none⟩ st = bnd (convA P src dst (st.ev x)) fun v => some (st.put d v) := by
  rw [evOp_none]
  simp only [opEff, opVal]
  show Option.map _ (Option.map _ (convA P src dst (st.ev x))) = _
  cases convA P src dst (st.ev x) <;> rfl
theorem ev_fieldAddr (S : Nat) (x : Operand) (f : Nat) : evOp P call ops ⟨d, .fieldAddr S x f, T, pos, aft, none⟩ st = bnd (fieldOff P S f) fun k => bnd (addOff (st.ev x) k) fun v => some (st.put d v) := by
  rw [evOp_none]
  simp only [opEff, opVal]
  cases fieldOff P S f with
  | none => rfl
  | some k =>
    simp only [bnd]
    cases addOff (st.ev x) k <;> rfl
theorem ev_indexAddr (S : Nat) (x i : Operand) : evOp P call ops ⟨d, .indexAddr S x i, T, pos, aft, none⟩ st = bnd (indexAddrA P st S (st.ev x) (st.ev i)) fun v => some (st.put d v) := by
  rw [evOp_none]
  simp only [opEff, opVal]
  cases indexAddrA P st S (st.ev x) (st.ev i) <;> rfl
theorem ev_load (S : Nat) (x : Operand) : evOp P call ops ⟨d, .load S x, T, pos, aft, none⟩ st = bnd (loadA P st S (st.ev x)) fun v => some (st.put d v) := by
  rw [evOp_none]
  simp only [opEff, opVal, loadA_eq]
  cases loadA P st S (st.ev x) <;> rfl
def extA (x : AV) (i : Nat) : Option AV :=
  match x with
  | .tup vs => vs[i]?
  | _ => none
theorem ev_extract (t : Operand) (i : Nat) : evOp P call ops ⟨d, .extract t i, T, pos, aft, none⟩ st = bnd (extA (st.ev t) i) fun v => some (st.put d v) := by
  rw [evOp_none]
  simp only [opEff, opVal]
  show Option.map _ (Option.map _ (extA (st.ev t) i)) = _
  cases extA (st.ev t) i <;> rfl
theorem ev_build (S : Nat) (parts : Array (Nat × Operand)) : evOp P call ops ⟨d, .build S parts, T, pos, aft, none⟩ st = bnd (buildA P st S parts.toList) fun v => some (st.put d v) := by
  rw [evOp_none]
  simp only [opEff, opVal]
  cases buildA P st S parts.toList <;> rfl
theorem ev_slice (S : Nat) (x : Operand) (lo hi : Option Operand) : evOp P call ops ⟨d, .slice S x lo hi none, T, pos, aft, none⟩ st = bnd (sliceA P st S (st.ev x) lo hi) fun v => some (st.put d v) := by
  rw [evOp_none]
  simp only [opEff, opVal]
  cases sliceA P st S (st.ev x) lo hi <;> rfl
theorem ev_alloc (S d : Nat) : evOp P call ops ⟨some d, .alloc S, T, pos, aft, none⟩ st = bnd (zeroL P S) fun z => some ((st.new d (.cells (z.map .v))).put (some d) (.ptr d (st.cnt d) 0)) := by
  rw [evOp_none]
  simp only [opEff, bnd]
  cases zeroL P S with
  | none => rfl
  | some z => simp only [Option.map_some, apply_one]
theorem ev_box (S d : Nat) (x : Operand) : evOp P call ops ⟨some d, .box S x, T, pos, aft, none⟩ st = if (st.ev x).stor = true then some ((st.new d (.cells (st.ev x).cells)).put (some d) (.ptr d (st.cnt d) 0)) else none := by
  rw [evOp_none]
  simp only [opEff, bnd]
  split
  · simp only [Option.map_some, apply_one]
  · rfl
theorem ev_store (S : Nat) (x y : Operand) : evOp P call ops ⟨d, .store S x y, T, pos, aft, none⟩ st = bnd (storeSt P st S (st.ev x) (st.ev y)) fun s => some (s.put d (.v undef)) := by
  rw [evOp_none]
  simp only [opEff, storeSt]
  cases storeA P st S (st.ev x) (st.ev y) <;> rfl
theorem ev_call (g : Nat) (args : Array Operand) (ats : Array Nat) (h : Ext.mv g = false) (h2 : Ext.eat g = false) : evOp P call ops ⟨d, .call ⟨.value (.func g), args, ats⟩, T, pos, aft, none⟩ st = bnd (callFn call g (args.toList.map st.ev) st d) fun e => some (e.apply st) := by
  rw [evOp_none]
  simp only [opEff, callEff, callVal, h, h2, Bool.false_eq_true, if_false]
  cases callFn call g (args.toList.map st.ev) st d <;> rfl
theorem ev_callM (g : Nat) (args : Array Operand) (ats : Array Nat) (h : Ext.mv g = true) : evOp P call ops ⟨d, .call ⟨.value (.func g), args, ats⟩, T, pos, aft, none⟩ st = bnd (callMv call g (args.toList.map st.ev) st d) fun e => some (e.apply st) := by
  rw [evOp_none]
  simp only [opEff, callEff, callVal, h, if_true]
  cases callMv call g (args.toList.map st.ev) st d <;> rfl
theorem ev_callEat (g : Nat) (args : Array Operand) (ats : Array Nat) (h : Ext.mv g = false) (h2 : Ext.eat g = true) : evOp P call ops ⟨d, .call ⟨.value (.func g), args, ats⟩, T, pos, aft, none⟩ st = bnd (callEat call g (args.toList.map st.ev) st d) fun e => some (e.apply st) := by
  rw [evOp_none]
  simp only [opEff, callEff, callVal, h, h2, Bool.false_eq_true, if_false, if_true]
  cases callEat call g (args.toList.map st.ev) st d <;> rfl
noncomputable def callClo (call : Nat → List AV → Option AV) (f : AV) (args : List AV) (st : St) (d : Option Nat) : Option Eff :=
  match f with
  | .clo g caps => callFn call g (args ++ caps) st d
  | _ => none
theorem ev_callC (t : Nat) (args : Array Operand) (ats : Array Nat) {g : Nat} {caps : List AV} (h : st.env t = .clo g caps) : evOp P call ops ⟨d, .call ⟨.value (.tmp t), args, ats⟩, T, pos, aft, none⟩ st = bnd (callFn call g (args.toList.map st.ev ++ caps) st d) fun e => some (e.apply st) := by
  rw [evOp_none]
  simp only [opEff, callEff, callVal, St.ev, h, asFn]
  show Option.map _ (callFn call g (args.toList.map st.ev ++ caps) st d) = bnd (callFn call g (args.toList.map st.ev ++ caps) st d) _
  cases callFn call g (args.toList.map st.ev ++ caps) st d <;> rfl
theorem ev_slice3 (S : Nat) (x : Operand) (lo : Option Operand) (hi mx : Operand) : evOp P call ops ⟨d, .slice S x lo (some hi) (some mx), T, pos, aft, none⟩ st = bnd (sliceA3 P st S (st.ev x) lo hi mx) fun v => some (st.put d v) := by
  rw [evOp_none]
  simp only [opEff, opVal]
  cases sliceA3 P st S (st.ev x) lo hi mx <;> rfl
theorem ev_lookup (S : Nat) (x i : Operand) (ok : Bool) : evOp P call ops ⟨d, .lookup S x i ok, T, pos, aft, none⟩ st = bnd (lookA P st S (st.ev x) (st.ev i) ok) fun v => some (st.put d v) := by
  rw [evOp_none]
  simp only [opEff, opVal]
  cases lookA P st S (st.ev x) (st.ev i) ok <;> rfl
theorem ev_makeMap (S d : Nat) : evOp P call ops ⟨some d, .makeMap S none, T, pos, aft, none⟩ st = some ((st.new d (.map [])).put (some d) (.mp d (st.cnt d))) := by
  rw [evOp_none]
  simp only [opEff, bnd, Option.map_some, apply_one]
theorem ev_mapUpdate (S : Nat) (m x y : Operand) : evOp P call ops ⟨d, .mapUpdate S m x y, T, pos, aft, none⟩ st = bnd (mapSetA P st S (st.ev m) (st.ev x) (st.ev y)) fun u => some ((st.setH u.1 u.2.1 (some u.2.2)).put d (.v undef)) := by
  rw [evOp_none]
  simp only [opEff]
  cases mapSetA P st S (st.ev m) (st.ev x) (st.ev y) <;> rfl
theorem ev_makeFunc (g : Nat) (caps : Array Operand) : evOp P call ops ⟨d, .makeFunc (.func g) #[] caps, T, pos, aft, none⟩ st = some (st.put d (.clo g (caps.toList.map st.ev))) := by
  rw [evOp_none]
  simp only [opEff, opVal, if_true, Option.map_some]
  rfl
theorem ev_buildSlice (S n d : Nat) (parts : Array (Nat × Operand)) : evOp P call ops ⟨some d, .buildSlice S n parts, T, pos, aft, none⟩ st = bnd (slInfo P S) fun t => bnd (zeroL P t.1) fun z =>
      if (0 < n ∨ parts = #[]) ∧ n * t.2.1 ≤ 2 ^ 24 ∧ (parts.toList.all fun p => (st.ev p.2).stor) = true then
        bnd (fillA (fun i => some (i * t.2.1, t.2.1)) ((List.range n).flatMap fun _ => z.map .v) (parts.toList.map fun p => (p.1, st.ev p.2))) fun cs =>
          some ((st.new d (.row t.1 t.2.1 n cs)).put (some d) (.own d (st.cnt d)))
      else none := by
  rw [evOp_none]
  simp only [opEff, bnd]
  cases slInfo P S with
  | none => rfl
  | some t =>
    simp only
    cases zeroL P t.1 with
    | none => rfl
    | some z =>
      simp only
      split
      · cases fillA (fun i => some (i * t.2.1, t.2.1)) ((List.range n).flatMap fun _ => z.map .v) (parts.toList.map fun p => (p.1, st.ev p.2)) with
        | none => rfl
        | some cs => simp only [Option.map_some, apply_one]
      · rfl
theorem ev_makeSlice (S d : Nat) (l c : Operand) {n : Nat} (hl : st.ev l = .v (.int .i64 n)) (hc : st.ev c = .v (.int .i64 n)) : evOp P call ops ⟨some d, .makeSlice S l c, T, pos, aft, none⟩ st = bnd (slInfo P S) fun t => bnd (zeroL P t.1) fun z =>
      if (n : Int) * t.2.2 ≤ 140737488355328 ∧ (n : Int) ≤ maxLen then some ((st.new d (.row t.1 t.2.1 n ((List.range n).flatMap fun _ => z.map .v))).put (some d) (.own d (st.cnt d))) else none := by
  rw [evOp_none]
  simp only [opEff, bnd, hl, hc]
  cases slInfo P S with
  | none => rfl
  | some t =>
    simp only
    cases zeroL P t.1 with
    | none => rfl
    | some z =>
      simp only [Int.toNat_natCast, Int.natCast_nonneg, true_and]
      split
      · simp only [Option.map_some, apply_one]
      · rfl
theorem ev_len (x : Operand) (S : Nat) (ats : Array Nat) (h : ats = #[S]) : evOp P call ops ⟨d, .call ⟨.builtin .len, #[x], ats⟩, T, pos, aft, none⟩ st = bnd (slInfo P S) fun _ => bnd (sliceView st (st.ev x)) fun nc => some (st.put d (.v (.int .i64 nc.1))) := by
  subst h
  rw [evOp_none]
  simp only [opEff, callEff]
  cases slInfo P S with
  | none => rfl
  | some t => cases sliceView st (st.ev x) with
    | none => rfl
    | some nc => cases nc; rfl
theorem ev_lenT (x : Operand) (S : Nat) : evOp P call ops ⟨d, .call ⟨.builtin .len, #[x], #[S]⟩, T, pos, aft, none⟩ st = bnd (slInfo P S) fun _ => bnd (sliceView st (st.ev x)) fun nc => some (st.put d (.v (.int .i64 nc.1))) := ev_len x S #[S] rfl
theorem ev_append (s x : Operand) (S d : Nat) (ats : Array Nat) (h : ats = #[S, S]) : evOp P call ops ⟨some d, .call ⟨.builtin .append, #[s, x], ats⟩, T, pos, aft, none⟩ st = bnd (appendA P st S (st.ev s) (st.ev x)) fun ur =>
    some (((match ur.1 with | some p => st.setH p.1 p.2 none | none => st).new d ur.2).put (some d) (.own d (st.cnt d))) := by
  subst h
  rw [evOp_none]
  simp only [opEff, callEff, bnd, if_true]
  cases appendA P st S (st.ev s) (st.ev x) with
  | none => rfl
  | some ur =>
    obtain ⟨u, r⟩ := ur
    cases u with
    | none => simp only [Option.map_some, Option.map_none, apply_one]
    | some p => simp only [Option.map_some, apply_two]

theorem ev_appendT (s x : Operand) (S d : Nat) : evOp P call ops ⟨some d, .call ⟨.builtin .append, #[s, x], #[S, S]⟩, T, pos, aft, none⟩ st = bnd (appendA P st S (st.ev s) (st.ev x)) fun ur =>
    some (((match ur.1 with | some p => st.setH p.1 p.2 none | none => st).new d ur.2).put (some d) (.own d (st.cnt d))) := ev_append s x S d #[S, S] rfl

/-- Reading the state. -/
theorem ev_const (x : Value) : st.ev (.const x) = .v x := rfl
theorem ev_tmp (t : Nat) : st.ev (.tmp t) = st.env t := rfl
theorem env_put (t d : Nat) (x : AV) : (st.put (some d) x).env t = if t = d then x else st.env t := rfl
theorem env_put_none (t : Nat) (x : AV) : (st.put none x).env t = st.env t := rfl
theorem env_new (t d : Nat) (e : Ent) : (st.new d e).env t = st.env t := rfl
theorem env_setH (t s g : Nat) (e : Option Ent) : (st.setH s g e).env t = st.env t := rfl
theorem cnt_put (t : Nat) (d : Option Nat) (x : AV) : (st.put d x).cnt t = st.cnt t := by cases d <;> rfl
theorem cnt_new (t d : Nat) (e : Ent) : (st.new d e).cnt t = if t = d then st.cnt d + 1 else st.cnt t := rfl
theorem cnt_setH (t s g : Nat) (e : Option Ent) : (st.setH s g e).cnt t = st.cnt t := rfl
theorem heap_put (s g : Nat) (d : Option Nat) (x : AV) : (st.put d x).heap s g = st.heap s g := by cases d <;> rfl
theorem heap_new (s g d : Nat) (e : Ent) : (st.new d e).heap s g = if s = d ∧ g = st.cnt d then some e else st.heap s g := rfl
theorem heap_setH (s g s0 g0 : Nat) (e : Option Ent) : (st.setH s0 g0 e).heap s g = if s = s0 ∧ g = g0 then e else st.heap s g := rfl
theorem env_init (t : Nat) (xs : List AV) : (St.init xs).env t = (xs[t]?).getD (.v undef) := rfl
theorem cnt_init (t : Nat) (xs : List AV) : (St.init xs).cnt t = 0 := rfl
theorem heap_init (s g : Nat) (xs : List AV) : (St.init xs).heap s g = none := rfl

theorem put_none (x : AV) : st.put none x = st := rfl

theorem apply_plain (d : Option Nat) (x : AV) : ({ dst := d, val := x } : Eff).apply st = st.put d x := rfl
theorem apply_new (d : Option Nat) (x : AV) (n : Nat) (e : Ent) : ({ dst := d, val := x, new := some (n, [e]) } : Eff).apply st = (st.new n e).put d x := apply_one d x n e
theorem apply_upd (d : Option Nat) (x : AV) (s g : Nat) (e : Option Ent) : ({ dst := d, val := x, upd := some (s, g, e) } : Eff).apply st = (st.setH s g e).put d x := rfl
theorem apply_updnew (d : Option Nat) (x : AV) (s g n : Nat) (z : Option Ent) (e : Ent) : ({ dst := d, val := x, upd := some (s, g, z), new := some (n, [e]) } : Eff).apply st = ((st.setH s g z).new n e).put d x := apply_two d x s g n z e

/-- A call whose arguments hold no memory of the caller's own. -/
theorem call_flat {g : Nat} {args : List AV} {r : AV} (hf : ∀ x ∈ args, Flat x) (h : call g args = some r) (hr : Flat r) : callFn call g args st d = some { dst := d, val := r } := by
  unfold callFn
  rw [if_pos hf, h]
  simp only [bnd, putRes, if_pos hr]
theorem call_uniq {g : Nat} {args : List AV} {d e sz n : Nat} {cs : List AV} (hf : ∀ x ∈ args, Flat x) (h : call g args = some (.uniq e sz n cs)) :
    callFn call g args st (some d) = some { dst := some d, val := .own d (st.cnt d), new := some (d, [.row e sz n cs]) } := by
  unfold callFn
  rw [if_pos hf, h]
  have : ¬ Flat (.uniq e sz n cs) := by intro h; cases h
  simp only [bnd, putRes, if_neg this]
  rfl
/-- A call to which memory of the caller's own is lent. -/
theorem call_lend {g : Nat} {args xs : List AV} {r : AV} (hn : ∃ x ∈ args, ¬ Flat x) (hx : optAll (args.map (expo st)) = some xs) (h : call g xs = some r) (hr : Fresh r) (hf : Flat r) : callFn call g args st d = some { dst := d, val := r } := by
  unfold callFn
  have hne : ¬ ∀ x ∈ args, Flat x := fun h => by obtain ⟨x, hx, hn⟩ := hn; exact hn (h x hx)
  rw [if_neg hne, hx]
  simp only [h, bnd, if_pos hr, putRes, if_pos hf]
theorem call_lendU {g : Nat} {args xs : List AV} {d e sz n : Nat} {cs : List AV} (hn : ∃ x ∈ args, ¬ Flat x) (hx : optAll (args.map (expo st)) = some xs) (h : call g xs = some (.uniq e sz n cs)) (hr : ∀ c ∈ cs, MemFree c) :
    callFn call g args st (some d) = some { dst := some d, val := .own d (st.cnt d), new := some (d, [.row e sz n cs]) } := by
  unfold callFn
  have hne : ¬ ∀ x ∈ args, Flat x := fun h => by obtain ⟨x, hx, hn⟩ := hn; exact hn (h x hx)
  have hu : ¬ Flat (.uniq e sz n cs) := by intro h; cases h
  have hfr : Fresh (.uniq e sz n cs) := hr
  rw [if_neg hne, hx]
  simp only [h, bnd, if_pos hfr, putRes, if_neg hu]
  rfl
end
end Go.Ab
end
