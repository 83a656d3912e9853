/-
  Part Ab11 of the proof: an evaluator of the programs written in Lean once, and its soundness.
-/
import Derived.Test.YtmcjkemalibacaaAb10
set_option linter.all false
namespace Go.Ab
open Classical

/-- An identity of the state's: it has been given. -/
def IdOk (cnt : Nat → Nat) (x : AV) : Prop := ∃ (C : Ctx) (v : Value), C.cnt = cnt ∧ RelV C x v

theorem IdOk.ptr {cnt : Nat → Nat} {s g o : Nat} (h : IdOk cnt (.ptr s g o)) : g < cnt s := by
  obtain ⟨C, v, rfl, h⟩ := h
  cases h with
  | ptr s g off b hg hb => exact hg
theorem IdOk.own {cnt : Nat → Nat} {s g : Nat} (h : IdOk cnt (.own s g)) : g < cnt s := by
  obtain ⟨C, v, rfl, h⟩ := h
  cases h with
  | own s g hg _ => exact hg
theorem IdOk.vw {cnt : Nat → Nat} {s g o n : Nat} (h : IdOk cnt (.vw s g o n)) : g < cnt s := by
  obtain ⟨C, v, rfl, h⟩ := h
  cases h with
  | vw s g o n b cap hg _ _ _ => exact hg
theorem IdOk.mp {cnt : Nat → Nat} {s g : Nat} (h : IdOk cnt (.mp s g)) : g < cnt s := by
  obtain ⟨C, v, rfl, h⟩ := h
  cases h with
  | mp s g hg _ => exact hg
theorem IdOk.agg {cnt : Nat → Nat} {cs : List AV} (h : IdOk cnt (.agg cs)) : ∀ c ∈ cs, IdOk cnt c := by
  obtain ⟨C, v, rfl, h⟩ := h
  cases h with
  | agg cs a hl hr _ =>
    intro c hc
    obtain ⟨i, hi, rfl⟩ := List.getElem_of_mem hc
    exact ⟨C, a[i], rfl, hr i _ _ (by simp [hi]) (by simp)⟩
theorem IdOk.clo {cnt : Nat → Nat} {f : Nat} {cs : List AV} (h : IdOk cnt (.clo f cs)) : ∀ c ∈ cs, IdOk cnt c := by
  obtain ⟨C, v, rfl, h⟩ := h
  cases h with
  | clo f cs a hl hr =>
    intro c hc
    obtain ⟨i, hi, rfl⟩ := List.getElem_of_mem hc
    exact ⟨C, a[i]'(by omega), rfl, hr i _ _ (by simp [hi]) (by simp)⟩

section
variable {P : Program} {call : Nat → List AV → Option AV} {st st' : St}

/-- The heaps agree where anything has been given. -/
def HeapEq (st st' : St) : Prop := ∀ s g, g < st.cnt s → st'.heap s g = st.heap s g

theorem readAt_congr {x : AV} (hx : IdOk st.cnt x) (hh : HeapEq st st') : readAt st' x = readAt st x := by
  cases x <;> simp only [readAt]
  rw [hh _ _ hx.ptr]

theorem sliceView_congr {x : AV} (hx : IdOk st.cnt x) (hh : HeapEq st st') : sliceView st' x = sliceView st x := by
  cases x
  case own => simp only [sliceView, hh _ _ hx.own]
  case vw => simp only [sliceView, hh _ _ hx.vw]
  case v y =>
    cases y
    case slice p n c => cases p <;> cases n <;> cases c <;> rfl
    all_goals rfl
  all_goals rfl

theorem indexAddrA_congr {T : Nat} {x i : AV} (hx : IdOk st.cnt x) (hh : HeapEq st st') : indexAddrA P st' T x i = indexAddrA P st T x i := by
  unfold indexAddrA
  cases x <;> try rfl
  simp only [hh _ _ hx.own]

theorem sliceA_dep {T : Nat} {x : AV} {lo hi : Option Operand} (hx : ∀ s g, ((∃ o, x = .ptr s g o) ∨ x = .own s g ∨ ∃ o n, x = .vw s g o n) → st'.heap s g = st.heap s g) (hl : ∀ p, lo = some p → st'.ev p = st.ev p) (hi' : ∀ p, hi = some p → st'.ev p = st.ev p) : sliceA P st' T x lo hi = sliceA P st T x lo hi := by
  unfold sliceA
  cases slInfo P T with
  | none =>
    simp only
    cases arrInfo P T with
    | none => rfl
    | some na =>
      cases x <;> try rfl
      rename_i s g o
      cases lo <;> cases hi <;> try rfl
      simp only [hx s g (.inl ⟨o, rfl⟩)]
  | some t =>
    simp only
    cases x <;> try rfl
    case v y =>
      cases y <;> try rfl
      rename_i p n c
      cases p <;> cases n <;> cases c <;> try rfl
      cases lo with
      | none => cases hi with
        | none => rfl
        | some h => simp only [hi' h rfl]
      | some l => cases hi with
        | none => simp only [hl l rfl]
        | some h => simp only [hl l rfl, hi' h rfl]
    case sl n cs =>
      cases lo with
      | none => cases hi with
        | none => rfl
        | some h => simp only [hi' h rfl]
      | some l => cases hi with
        | none => simp only [hl l rfl]
        | some h => simp only [hl l rfl, hi' h rfl]
    case own s g =>
      simp only [hx s g (.inr (.inl rfl))]
      cases lo with
      | none => cases hi with
        | none => rfl
        | some h => simp only [hi' h rfl]
      | some l => cases hi with
        | none => simp only [hl l rfl]
        | some h => simp only [hl l rfl, hi' h rfl]
    case vw s g o n =>
      cases o with
      | succ o => rfl
      | zero =>
        simp only [hx s g (.inr (.inr ⟨_, _, rfl⟩))]
        cases st.heap s g with
        | none => rfl
        | some e => cases e with
          | row e' sz' n' cs' =>
            cases lo with
            | none => cases hi <;> rfl
            | some l => cases hi with
              | none => rfl
              | some h => simp only [hl l rfl, hi' h rfl]
          | _ => rfl
theorem sliceA_congr {T : Nat} {x : AV} {lo hi : Option Operand} (hx : IdOk st.cnt x) (hh : HeapEq st st') (hl : ∀ p, lo = some p → st'.ev p = st.ev p) (hi' : ∀ p, hi = some p → st'.ev p = st.ev p) : sliceA P st' T x lo hi = sliceA P st T x lo hi :=
  sliceA_dep (fun s g h => by
    rcases h with ⟨o, rfl⟩ | rfl | ⟨o, n, rfl⟩
    · exact hh _ _ hx.ptr
    · exact hh _ _ hx.own
    · exact hh _ _ hx.vw) hl hi'

/-- What a state's variables hold has been given. -/
def HpOk (st : St) : Prop := ∀ s g cs, st.heap s g = some (.cells cs) → ∀ c ∈ cs, IdOk st.cnt c
theorem expo0_congr {x : AV} (hx : IdOk st.cnt x) (hh : HeapEq st st') : expo0 st' x = expo0 st x := by
  unfold expo0
  cases x <;> try rfl
  · simp only [hh _ _ hx.own]
  · simp only [hh _ _ hx.vw]
theorem expo1_congr (hp : HpOk st) {x : AV} (hx : IdOk st.cnt x) (hh : HeapEq st st') : expo1 st' x = expo1 st x := by
  unfold expo1
  cases x <;> try rfl
  · rename_i s g o
    simp only [hh _ _ hx.ptr]
    cases he : st.heap s g with
    | none => rfl
    | some e =>
      cases e with
      | cells cs =>
        have : cs.map (expo0 st') = cs.map (expo0 st) := List.map_congr_left fun c hc => expo0_congr (hp s g cs he c hc) hh
        simp only [this]
      | _ => rfl
  · simp only [hh _ _ hx.own]
  · simp only [hh _ _ hx.vw]

theorem expo_congr (hp : HpOk st) {x : AV} (hx : IdOk st.cnt x) (hh : HeapEq st st') : expo st' x = expo st x := by
  unfold expo
  cases x <;> try (simp only [expo1_congr hp hx hh]; done)
  · rename_i cs
    have : cs.map (expo1 st') = cs.map (expo1 st) := List.map_congr_left fun c hc => expo1_congr hp (hx.agg c hc) hh
    simp only [this]
  · rename_i f cs
    have : cs.map (expo1 st') = cs.map (expo1 st) := List.map_congr_left fun c hc => expo1_congr hp (hx.clo c hc) hh
    simp only [this]

theorem storeA_congr {T : Nat} {x y : AV} (hx : IdOk st.cnt x) (hh : HeapEq st st') : storeA P st' T x y = storeA P st T x y := by
  unfold storeA
  cases x <;> try rfl
  simp only [hh _ _ hx.ptr]

theorem appendA_congr {T : Nat} {s x : AV} (hs : IdOk st.cnt s) (hx : IdOk st.cnt x) (hh : HeapEq st st') : appendA P st' T s x = appendA P st T s x := by
  unfold appendA
  simp only [sliceView_congr hx hh]
  cases s
  case own => simp only [hh _ _ hs.own]
  case v y =>
    cases y
    case slice p n c => cases p <;> cases n <;> cases c <;> rfl
    all_goals rfl
  all_goals rfl

theorem appendV_congr {T : Nat} {s x : AV} (hs : IdOk st.cnt s) (hx : IdOk st.cnt x) (hh : HeapEq st st') : appendV P st' T s x = appendV P st T s x := by
  unfold appendV
  rw [sliceView_congr hx hh]
  cases slInfo P T with
  | none => rfl
  | some t => cases sliceView st x with
    | none => rfl
    | some mn =>
      cases s <;> try rfl
      case vw s g o n =>
        cases o with
        | zero => simp only [hh _ _ hs.vw]
        | succ o => rfl
theorem clearA_congr {T : Nat} {x : AV} (hx : IdOk st.cnt x) (hh : HeapEq st st') : clearA P st' T x = clearA P st T x := by
  unfold clearA
  cases slInfo P T with
  | none => rfl
  | some t =>
    cases x <;> try rfl
    case vw s g o n => simp only [hh _ _ hx.vw]
    case v y =>
      cases y <;> try rfl
      rename_i p n c
      cases p <;> cases n <;> cases c <;> rfl
    case sl n cs => cases n <;> rfl
theorem sliceA3_dep {T : Nat} {x : AV} {lo : Option Operand} {hi mx : Operand} (hx : ∀ s g, x = .own s g → st'.heap s g = st.heap s g) (hl : ∀ p, lo = some p → st'.ev p = st.ev p) (h1 : st'.ev hi = st.ev hi) (h2 : st'.ev mx = st.ev mx) : sliceA3 P st' T x lo hi mx = sliceA3 P st T x lo hi mx := by
  unfold sliceA3
  rw [h1, h2]
  cases slInfo P T with
  | none => rfl
  | some t =>
    simp only
    cases lo with
    | none =>
      simp only
      cases x <;> try rfl
      case own s g => simp only [hx s g rfl]
      case v y =>
        cases y <;> try rfl
        rename_i p n c
        cases p <;> cases n <;> cases c <;> rfl
    | some l =>
      simp only [hl l rfl]
      cases x <;> try rfl
      case own s g => simp only [hx s g rfl]
      case v y =>
        cases y <;> try rfl
        rename_i p n c
        cases p <;> cases n <;> cases c <;> rfl
theorem lookA_congr {T : Nat} {m x : AV} {ok : Bool} (hm : IdOk st.cnt m) (hh : HeapEq st st') : lookA P st' T m x ok = lookA P st T m x ok := by
  unfold lookA
  cases m <;> try rfl
  simp only [hh _ _ hm.mp]
theorem mapSetA_congr {T : Nat} {m x y : AV} (hm : IdOk st.cnt m) (hh : HeapEq st st') : mapSetA P st' T m x y = mapSetA P st T m x y := by
  unfold mapSetA
  cases m <;> try rfl
  simp only [hh _ _ hm.mp]

theorem putRes_congr {r : AV} {dst : Option Nat} (hc : ∀ d, dst = some d → st'.cnt d = st.cnt d) : putRes r st' dst = putRes r st dst := by
  unfold putRes
  cases dst with
  | none => rfl
  | some d => simp only [hc d rfl]

theorem callFn_congr (hp : HpOk st) {g : Nat} {args : List AV} {dst : Option Nat} (hx : ∀ x ∈ args, IdOk st.cnt x) (hh : HeapEq st st') (hc : ∀ d, dst = some d → st'.cnt d = st.cnt d) : callFn call g args st' dst = callFn call g args st dst := by
  unfold callFn
  have : args.map (expo st') = args.map (expo st) := List.map_congr_left fun x hx' => expo_congr hp (hx x hx') hh
  rw [this]
  have h2 : ∀ r, putRes r st' dst = putRes r st dst := fun r => putRes_congr hc
  simp only [h2]

theorem callMv_congr (hp : HpOk st) {g : Nat} {args : List AV} {dst : Option Nat} (hx : ∀ x ∈ args, IdOk st.cnt x) (hh : HeapEq st st') (hc : ∀ d, dst = some d → st'.cnt d = st.cnt d) : callMv call g args st' dst = callMv call g args st dst := by
  unfold callMv
  split
  · rename_i s k rest
    rw [hh _ _ (hx _ (List.mem_cons_self ..)).own]
    cases dst with
    | none => rfl
    | some d => simp only [hc d rfl]
  · rw [callFn_congr hp hx hh hc]

theorem callEat_congr (hp : HpOk st) {g : Nat} {args : List AV} {dst : Option Nat} (hx : ∀ x ∈ args, IdOk st.cnt x) (hh : HeapEq st st') (hc : ∀ d, dst = some d → st'.cnt d = st.cnt d) : callEat call g args st' dst = callEat call g args st dst := by
  have h1 := callFn_congr (call := call) (g := g) hp hx hh hc
  have : args.map (expo st') = args.map (expo st) := List.map_congr_left fun x hx' => expo_congr hp (hx x hx') hh
  unfold callEat
  rw [this, h1]
  have h2 : ∀ r s k, eatRes r st' dst s k = eatRes r st dst s k := fun r s k => by
    unfold eatRes
    cases dst with
    | none => cases r <;> rfl
    | some d => cases r <;> simp only [hc d rfl]
  simp only [h2]

theorem ev_parts {parts : List (Nat × Operand)} (h : ∀ p ∈ parts, st'.ev p.2 = st.ev p.2) : (parts.map fun p => (p.1, st'.ev p.2)) = parts.map fun p => (p.1, st.ev p.2) :=
  List.map_congr_left fun p hp => by rw [h p hp]
theorem ev_stor {parts : List (Nat × Operand)} (h : ∀ p ∈ parts, st'.ev p.2 = st.ev p.2) : (parts.all fun p => (st'.ev p.2).stor) = parts.all fun p => (st.ev p.2).stor := by
  induction parts with
  | nil => rfl
  | cons p ps ih =>
    simp only [List.all_cons]
    rw [h p (by simp), ih fun q hq => h q (by simp [hq])]

theorem asFn_caps {cnt : Nat → Nat} {x : AV} {g : Nat} {caps : List AV} (h : asFn x = some (g, caps)) (hx : IdOk cnt x) : ∀ c ∈ caps, IdOk cnt c := by
  unfold asFn at h
  split at h
  · split at h
    · simp only [Option.some.injEq, Prod.mk.injEq] at h
      obtain ⟨rfl, rfl⟩ := h
      simp
    · cases h
  · simp only [Option.some.injEq, Prod.mk.injEq] at h
    obtain ⟨rfl, rfl⟩ := h
    exact hx.clo
  · cases h

variable [Ext]
theorem callEff_congr (hp : HpOk st) {c : Call} {dst : Option Nat} (he : ∀ p ∈ c.operands, st'.ev p = st.ev p) (hi : ∀ p ∈ c.operands, IdOk st.cnt (st.ev p)) (hh : HeapEq st st') (hc : ∀ d, dst = some d → st'.cnt d = st.cnt d) :
    callEff P call c dst st' = callEff P call c dst st := by
  have hargs : ∀ p ∈ c.args.toList, p ∈ c.operands := fun p hp => by simp [Call.operands]; right; simpa using hp
  unfold callEff
  split
  · rename_i f hf
    have hfo : f ∈ c.operands := by simp [Call.operands, hf]
    have hm : c.args.toList.map st'.ev = c.args.toList.map st.ev := List.map_congr_left fun p hp => he p (hargs p hp)
    have hia : ∀ x ∈ c.args.toList.map st.ev, IdOk st.cnt x := fun x hx => by
      obtain ⟨p, hp, rfl⟩ := List.mem_map.1 hx
      exact hi p (hargs p hp)
    unfold callVal
    rw [hm]
    split
    · split
      · exact callMv_congr hp hia hh hc
      · split
        · exact callEat_congr hp hia hh hc
        · exact callFn_congr hp hia hh hc
    · rw [he f hfo]
      cases h : asFn (st.ev f) with
      | none => rfl
      | some gc =>
        obtain ⟨g, caps⟩ := gc
        refine callFn_congr hp (fun x hx => ?_) hh hc
        rcases List.mem_append.1 hx with hx | hx
        · exact hia x hx
        · exact asFn_caps h (hi f hfo) x hx
  · split
    · rename_i x T hx hT
      have hxo := hargs x (by rw [hx]; simp)
      rw [he x hxo, sliceView_congr (hi x hxo) hh]
    · rfl
  · split
    · rename_i x y hx
      rw [he x (hargs x (by rw [hx]; simp)), he y (hargs y (by rw [hx]; simp))]
    · rfl
  · split
    · rename_i x y hx
      rw [he x (hargs x (by rw [hx]; simp)), he y (hargs y (by rw [hx]; simp))]
    · rfl
  · cases dst with
    | none => rfl
    | some d =>
    simp only [bnd]
    split
    · rename_i s x T T' hx hT
      have hso := hargs s (by rw [hx]; simp)
      have hxo := hargs x (by rw [hx]; simp)
      have hn : nilApp P st' T (st'.ev s) (st'.ev x) = nilApp P st T (st.ev s) (st.ev x) := by simp only [nilApp, he s hso, he x hxo, sliceView_congr (hi x hxo) hh]
      rw [hn, he s hso, he x hxo, appendA_congr (hi s hso) (hi x hxo) hh, appendV_congr (hi s hso) (hi x hxo) hh, hc d rfl]
    · rfl
  · split
    · rename_i x T hx hT
      have hxo := hargs x (by rw [hx]; simp)
      rw [he x hxo, clearA_congr (hi x hxo) hh]
    · rfl
  · rfl

theorem opEff_congr (hp : HpOk st) {o : Oper} (he : ∀ p ∈ o.op.operands, st'.ev p = st.ev p) (hi : ∀ p ∈ o.op.operands, IdOk st.cnt (st.ev p)) (hh : HeapEq st st') (hc : ∀ d, o.dst = some d → st'.cnt d = st.cnt d) :
    opEff P call o st' = opEff P call o st := by
  obtain ⟨dst, op, type, pos, after, guard⟩ := o
  cases op <;> simp only [opEff, opVal, Op.operands] at *
  case call c => exact callEff_congr hp he hi hh hc
  case alloc T => cases dst with
    | none => rfl
    | some d => simp only [bnd, hc d rfl]
  case box T x => cases dst with
    | none => rfl
    | some d => simp only [bnd, hc d rfl, he x (by simp)]
  case buildSlice T n parts =>
    have he' : ∀ p ∈ parts.toList, st'.ev p.2 = st.ev p.2 := fun p hp => he p.2 (by simp; exact ⟨p.1, by simpa using hp⟩)
    rw [ev_parts he', ev_stor he']
    cases dst with
    | none => rfl
    | some d => simp only [bnd, hc d rfl]
  case makeSlice T l c =>
    rw [he l (by simp), he c (by simp)]
    cases dst with
    | none => rfl
    | some d => simp only [bnd, hc d rfl]
  case makeMap T r =>
    cases r with
    | none => cases dst with
      | none => rfl
      | some d => simp only [bnd, hc d rfl]
    | some r => rfl
  case mapUpdate T m x y => rw [he m (by simp), he x (by simp), he y (by simp), mapSetA_congr (hi m (by simp)) hh]
  case lookup T m x ok => rw [he m (by simp), he x (by simp), lookA_congr (hi m (by simp)) hh]
  case store T x y => rw [he x (by simp), he y (by simp), storeA_congr (hi x (by simp)) hh]
  case move x => rw [he x (by simp)]
  case assign x => rw [he x (by simp)]
  case pick c x y => rw [he c (by simp), he x (by simp), he y (by simp)]
  case binOp op T x y yT => rw [he x (by simp), he y (by simp)]
  case unOp op T x => rw [he x (by simp)]
  case convert s d x => rw [he x (by simp)]
  case nilCheck x => rw [he x (by simp)]
  case field T x f => rw [he x (by simp)]
  case fieldAddr T x f => rw [he x (by simp)]
  case indexAddr T x i => rw [he x (by simp), he i (by simp), indexAddrA_congr (hi x (by simp)) hh]
  case load T x => rw [he x (by simp), readAt_congr (hi x (by simp)) hh]
  case extract t i => rw [he t (by simp)]
  case build T parts =>
    have he' : ∀ p ∈ parts.toList, st'.ev p.2 = st.ev p.2 := fun p hp => he p.2 (by simp; exact ⟨p.1, by simpa using hp⟩)
    unfold buildA
    rw [ev_parts he', ev_stor he']
  case slice T x lo hi' mx =>
    cases mx with
    | some m =>
      cases hi' with
      | none => rfl
      | some h =>
        simp only
        rw [he x (by simp), sliceA3_dep (fun s g hx => by have := hi x (by simp); rw [hx] at this; exact hh _ _ this.own) (fun p hp => he p (by simp [hp])) (he h (by simp)) (he m (by simp))]
    | none =>
      simp only
      rw [he x (by simp), sliceA_congr (hi x (by simp)) hh (fun p hp => he p (by simp [hp])) (fun p hp => he p (by simp [hp]))]
  case makeFunc fn first captured =>
    cases fn with
    | func f =>
      simp only
      have : captured.toList.map st'.ev = captured.toList.map st.ev := List.map_congr_left fun p hp => he p (by simp; right; simpa using hp)
      rw [this]
    | _ => rfl

/-- Operations that do not look into memory. -/
theorem opEff_congr0 {ops : Array Oper} {o : Oper} (hcl : opClass ops o = 0 ∨ opClass ops o = 2) (he : ∀ p ∈ o.op.operands, st'.ev p = st.ev p) (hc : ∀ d, o.dst = some d → st'.cnt d = st.cnt d) :
    opEff P call o st' = opEff P call o st := by
  obtain ⟨dst, op, type, pos, after, guard⟩ := o
  cases op <;> simp only [opEff, opVal, Op.operands, opClass] at *
  case call c =>
    exfalso
    obtain ⟨callee, args, ats⟩ := c
    cases callee with
    | builtin b => cases b <;> simp at hcl; split at hcl <;> simp at hcl
    | value f => cases f <;> simp at hcl; split at hcl <;> (try split at hcl) <;> (try split at hcl) <;> simp at hcl
    | _ => simp at hcl
  case alloc T => cases dst with
    | none => rfl
    | some d => simp only [bnd, hc d rfl]
  case box T x => cases dst with
    | none => rfl
    | some d => simp only [bnd, hc d rfl, he x (by simp)]
  case buildSlice T n parts =>
    have he' : ∀ p ∈ parts.toList, st'.ev p.2 = st.ev p.2 := fun p hp => he p.2 (by simp; exact ⟨p.1, by simpa using hp⟩)
    rw [ev_parts he', ev_stor he']
    cases dst with
    | none => rfl
    | some d => simp only [bnd, hc d rfl]
  case makeSlice T l c =>
    rw [he l (by simp), he c (by simp)]
    cases dst with
    | none => rfl
    | some d => simp only [bnd, hc d rfl]
  case makeMap T r =>
    cases r with
    | none => cases dst with
      | none => rfl
      | some d => simp only [bnd, hc d rfl]
    | some r => rfl
  case mapUpdate T m x y => simp at hcl
  case lookup T m x ok => simp at hcl
  case store T x y => simp at hcl
  case move x => rw [he x (by simp)]
  case assign x => rw [he x (by simp)]
  case pick c x y => rw [he c (by simp), he x (by simp), he y (by simp)]
  case binOp op T x y yT => rw [he x (by simp), he y (by simp)]
  case unOp op T x => rw [he x (by simp)]
  case convert s d x => rw [he x (by simp)]
  case nilCheck x => rw [he x (by simp)]
  case field T x f => rw [he x (by simp)]
  case fieldAddr T x f => rw [he x (by simp)]
  case indexAddr T x i => simp at hcl
  case load T x => simp at hcl
  case extract t i => rw [he t (by simp)]
  case build T parts =>
    have he' : ∀ p ∈ parts.toList, st'.ev p.2 = st.ev p.2 := fun p hp => he p.2 (by simp; exact ⟨p.1, by simpa using hp⟩)
    unfold buildA
    rw [ev_parts he', ev_stor he']
  case slice T x lo hi' mx => simp at hcl
  case makeFunc fn first captured =>
    cases fn with
    | func f =>
      simp only
      have : captured.toList.map st'.ev = captured.toList.map st.ev := List.map_congr_left fun p hp => he p (by simp; right; simpa using hp)
      rw [this]
    | _ => rfl
end
end Go.Ab
