/-
  Part Ab26 of the proof: an evaluator of the programs written in Lean once, and its soundness.
-/
import Derived.Test.YtmcjkemalibacaaAb23
set_option linter.all false
set_option linter.unusedVariables false
set_option linter.unusedSimpArgs false
namespace Go.Ab
open Classical
variable [Ext]
/-- Code with calls that run in its own memory: the equations, and loops. -/
@[congr] theorem evG_congr {P : Program} {bi : Bool} {c : Code} {s t : St} (h : s = t) : evG P bi c s = evG P bi c t := by rw [h]
theorem evG_condB {P : Program} {bi : Bool} (c : Operand) (a b : Code) (st : St) : evG P bi (.cond c a b) st = onB (st.ev c) fun t => if t = true then evG P bi a st else evG P bi b st := by
  cases h : st.ev c with
  | v x =>
    cases x with
    | bool t => exact evG_cond P c a b st h
    | _ =>
      apply Option.ext
      intro r
      rw [evG_iff]
      constructor
      · rintro ⟨n, m, h'⟩
        cases m with
        | zero => simp [evC] at h'
        | succ m => simp [evC, h] at h'
      · intro h'; simp [onB] at h'
  | _ =>
    apply Option.ext
    intro r
    rw [evG_iff]
    constructor
    · rintro ⟨n, m, h'⟩
      cases m with
      | zero => simp [evC] at h'
      | succ m => simp [evC, h] at h'
    · intro h'; simp [onB] at h'
section
variable {P : Program} {call : Nat → List AV → Option AV} {inl : Nat → List AV → St → Option (AV × St)} {ops : Array Oper} {st : St}
theorem evOpsI_nil : evOpsI P true call inl ops [] st = some st := rfl
theorem evOpsI_cons (o : Oper) (l : List Oper) : evOpsI P true call inl ops (o :: l) st = bnd (evOpI P true call inl ops o st) (evOpsI P true call inl ops l) := rfl
@[congr] theorem evOpI_congr {o : Oper} {s t : St} (h : s = t) : evOpI P true call inl ops o s = evOpI P true call inl ops o t := by rw [h]
theorem evOpI_op {o : Oper} (h : isInl o = none) : evOpI P true call inl ops o st = evOp P call ops o st := by
  unfold evOpI
  rw [if_pos rfl, h]
theorem evOpI_inl {d : Option Nat} {g : Nat} {args : Array Operand} {ats : Array Nat} {T : Nat} {pos : String} {aft : Array Edge} (h : Ext.inl g d = true) :
    evOpI P true call inl ops ⟨d, .call ⟨.value (.func g), args, ats⟩, T, pos, aft, none⟩ st = bnd (inl g (args.toList.map st.ev) st) fun r => some ((st.back r.2).put d r.1) := by
  have e : isInl ⟨d, .call ⟨.value (.func g), args, ats⟩, T, pos, aft, none⟩ = some (g, args.toList) := by
    unfold isInl
    simp only
    rw [if_pos h]
  unfold evOpI
  rw [if_pos rfl, e]
  simp only [gv, if_true]
  cases inl g (args.toList.map st.ev) st <;> rfl
end
theorem back_env (st s : St) : (st.back s).env = st.env := rfl
theorem back_heap (st s : St) : (st.back s).heap = s.heap := rfl
theorem back_cnt (st s : St) : (st.back s).cnt = s.cnt := rfl
theorem endI_one {P : Program} {fn : Func} {st : St} {e : Ex} {r : ResultVar} {x : AV} (he : e = .ret ∨ e = .normal) (hr : fn.results.toList = [r]) (h1 : resVal P st r = some x) : endI P fn (e, st) = some (x, st) := by
  have h : finishI P fn st = some x := by
    unfold finishI
    rw [hr]
    exact h1
  rcases he with rfl | rfl <;> simp only [endI, h, Option.map_some]
theorem endI_two {P : Program} {fn : Func} {st : St} {e : Ex} {r1 r2 : ResultVar} {x y : AV} (he : e = .ret ∨ e = .normal) (hr : fn.results.toList = [r1, r2]) (h1 : resVal P st r1 = some x) (h2 : resVal P st r2 = some y) : endI P fn (e, st) = some (.tup [x, y], st) := by
  have h : finishI P fn st = some (.tup [x, y]) := by
    unfold finishI
    rw [hr]
    simp only [List.map_cons, List.map_nil, h1, h2, optAll, Option.map_some]
  rcases he with rfl | rfl <;> simp only [endI, h, Option.map_some]
theorem loop_mainG {P : Program} {bi : Bool} {b : Code} (Inv : Nat → St → Prop) (Q : Ex → St → Prop)
    (step : ∀ n st, Inv n st → ∃ e st', evG P bi b st = some (e, st') ∧ ((e = .normal ∧ ∃ m, m < n ∧ Inv m st') ∨ (e ≠ .normal ∧ Q e st'))) : ∀ n st, Inv n st → ∃ e st', evG P bi (.loop b) st = some (e, st') ∧ e ≠ .normal ∧ Q e st' := by
  intro n
  induction n using Nat.strongRecOn with
  | _ n ih =>
    intro st h
    obtain ⟨e, s1, h1, h2⟩ := step n st h
    rw [evG_loop, h1]
    rcases h2 with ⟨rfl, m, hm, hi⟩ | ⟨hne, hq⟩
    · exact ih m hm s1 hi
    · refine ⟨e, s1, ?_, hne, hq⟩
      cases e with
      | normal => exact absurd rfl hne
      | _ => rfl
theorem use_loopG {P : Program} {bi : Bool} {b : Code} {st : St} {β : Type} {k : Ex × St → Option β} {R : β → Prop} (Inv : Nat → St → Prop) (Q : Ex → St → Prop) (n : Nat)
    (step : ∀ n st, Inv n st → ∃ e st', evG P bi b st = some (e, st') ∧ ((e = .normal ∧ ∃ m, m < n ∧ Inv m st') ∨ (e ≠ .normal ∧ Q e st')))
    (start : Inv n st) (rest : ∀ e st', Q e st' → ∃ r, k (e, st') = some r ∧ R r) : ∃ r, bnd (evG P bi (.loop b) st) k = some r ∧ R r := by
  obtain ⟨e, s1, h1, h2, h3⟩ := loop_mainG Inv Q step n st start
  rw [h1]; exact rest e s1 h3
theorem go_onG {P : Program} {bi : Bool} {b : Code} {st st' : St} {n : Nat} {Inv : Nat → St → Prop} {Q : Ex → St → Prop} (h : evG P bi b st = some (.normal, st')) (m : Nat) (hm : m < n) (hi : Inv m st') :
    ∃ e st', evG P bi b st = some (e, st') ∧ ((e = .normal ∧ ∃ m, m < n ∧ Inv m st') ∨ (e ≠ .normal ∧ Q e st')) := ⟨_, _, h, .inl ⟨rfl, m, hm, hi⟩⟩
theorem go_outG {P : Program} {bi : Bool} {b : Code} {st st' : St} {e : Ex} {n : Nat} {Inv : Nat → St → Prop} {Q : Ex → St → Prop} (h : evG P bi b st = some (e, st')) (he : e ≠ .normal) (hq : Q e st') :
    ∃ e st', evG P bi b st = some (e, st') ∧ ((e = .normal ∧ ∃ m, m < n ∧ Inv m st') ∨ (e ≠ .normal ∧ Q e st')) := ⟨_, _, h, .inr ⟨he, hq⟩⟩
theorem evG_region0 {P : Program} {id : Nat} {ops : Array Oper} {d : Bool} {st : St} (h : Ext.dyn id ops.size (firstDst ops) = []) : evG P true (.region id ops d) st = bnd (evOpsI P true (callL P) (inlL P) ops ops.toList st) fun s => some (.normal, s) := by
  rw [evG_region]
  congr 1
  funext s
  rw [if_neg]
  rintro ⟨_, hn⟩
  rw [h] at hn
  exact hn trivial
theorem evG_regionD {P : Program} {id : Nat} {ops : Array Oper} {d : Bool} {st : St} {l : List (Nat × Nat)} (h : Ext.dyn id ops.size (firstDst ops) = l) :
    evG P true (.region id ops d) st = bnd (evOpsI P true (callL P) (inlL P) ops ops.toList st) fun s => if SwapsOk ops s l then some (.normal, s) else none := by
  rw [evG_region]
  congr 1
  funext s
  rw [h]
  by_cases hf : SwapsOk ops s l
  · rw [if_pos hf, if_neg]
    rintro ⟨_, hn⟩
    exact hn hf
  · rw [if_neg hf, if_pos ⟨rfl, hf⟩]
theorem swaps_nil (ops : Array Oper) (s : St) : SwapsOk ops s [] = True := rfl
theorem swaps_cons (ops : Array Oper) (s : St) (p : Nat × Nat) (l : List (Nat × Nat)) : SwapsOk ops s (p :: l) = (SwapAt ops s p ∧ SwapsOk ops s l) := rfl
def swapL (s : St) (x y : Option (List Nat)) : Prop := match x, y with | some as, some bs => farAll s as bs | _, _ => False
theorem swapAt_eq (ops : Array Oper) (s : St) (i j : Nat) : SwapAt ops s (i, j) = swapL s ((ops[i]?).bind keyRegs) ((ops[j]?).bind keyRegs) := rfl
theorem swapL_11 (s : St) (a b : Nat) : swapL s (some [a]) (some [b]) = farApart (s.env a) (s.env b) := by simp [swapL, farAll]
theorem swapL_21 (s : St) (a a' b : Nat) : swapL s (some [a, a']) (some [b]) = (farApart (s.env a) (s.env b) ∧ farApart (s.env a') (s.env b)) := by simp [swapL, farAll]
theorem swapL_12 (s : St) (a b b' : Nat) : swapL s (some [a]) (some [b, b']) = (farApart (s.env a) (s.env b) ∧ farApart (s.env a) (s.env b')) := by simp [swapL, farAll]
@[congr] theorem farApart_congr {x y x' y' : AV} (h : x = x') (h' : y = y') : farApart x y = farApart x' y' := by rw [h, h']
theorem farApart_pp (s g o s' g' o' : Nat) : farApart (.ptr s g o) (.ptr s' g' o') = ((s, g) ≠ (s', g')) := rfl
theorem farApart_po (s g o s' g' : Nat) : farApart (.ptr s g o) (.own s' g') = ((s, g) ≠ (s', g')) := rfl
theorem farApart_op (s g s' g' o' : Nat) : farApart (.own s g) (.ptr s' g' o') = ((s, g) ≠ (s', g')) := rfl
theorem farApart_vp (x : Value) (s g o : Nat) : farApart (.v x) (.ptr s g o) = True := rfl
theorem farApart_pv (x : Value) (s g o : Nat) : farApart (.ptr s g o) (.v x) = True := rfl
theorem farApart_os (s g n : Nat) (cs : List AV) : farApart (.own s g) (.sl n cs) = True := rfl
theorem farApart_so (s g n : Nat) (cs : List AV) : farApart (.sl n cs) (.own s g) = True := rfl
theorem farApart_sp (s g o n : Nat) (cs : List AV) : farApart (.sl n cs) (.ptr s g o) = True := rfl
theorem farApart_ps (s g o n : Nat) (cs : List AV) : farApart (.ptr s g o) (.sl n cs) = True := rfl
theorem farApart_ss (n m : Nat) (cs ds : List AV) : farApart (.sl n cs) (.sl m ds) = True := rfl
theorem farApart_ov (s g : Nat) (x : Value) : farApart (.own s g) (.v x) = True := rfl
theorem farApart_vo (s g : Nat) (x : Value) : farApart (.v x) (.own s g) = True := rfl
theorem farApart_vs (x : Value) (n : Nat) (cs : List AV) : farApart (.v x) (.sl n cs) = True := rfl
theorem farApart_sv (x : Value) (n : Nat) (cs : List AV) : farApart (.sl n cs) (.v x) = True := rfl
/-- The lesser and the greater of two numbers. -/
def minA (x y : AV) : Option AV :=
  match x, y with
  | .v (.int k a), .v (.int _ b) => some (.v (.int k (if b < a then b else a)))
  | _, _ => none
def maxA (x y : AV) : Option AV :=
  match x, y with
  | .v (.int k a), .v (.int _ b) => some (.v (.int k (if b > a then b else a)))
  | _, _ => none
theorem minA_int (k k' : IntKind) (a b : Int) : minA (.v (.int k a)) (.v (.int k' b)) = some (.v (.int k (if b < a then b else a))) := rfl
theorem maxA_int (k k' : IntKind) (a b : Int) : maxA (.v (.int k a)) (.v (.int k' b)) = some (.v (.int k (if a < b then b else a))) := rfl
@[congr] theorem minA_congr {x y x' y' : AV} (h : x = x') (h' : y = y') : minA x y = minA x' y' := by rw [h, h']
@[congr] theorem maxA_congr {x y x' y' : AV} (h : x = x') (h' : y = y') : maxA x y = maxA x' y' := by rw [h, h']
theorem ev_min {P : Program} {call : Nat → List AV → Option AV} {ops : Array Oper} {st : St} {d : Option Nat} {T : Nat} {pos : String} {aft : Array Edge} (x y : Operand) (ats : Array Nat) :
    evOp P call ops ⟨d, .call ⟨.builtin .min, #[x, y], ats⟩, T, pos, aft, none⟩ st = bnd (minA (st.ev x) (st.ev y)) fun v => some (st.put d v) := by
  rw [evOp_none]
  simp only [opEff, callEff, minA]
  cases st.ev x with
  | v a => cases a with
    | int k a => cases st.ev y with
      | v b => cases b <;> rfl
      | _ => rfl
    | _ => rfl
  | _ => rfl
theorem ev_max {P : Program} {call : Nat → List AV → Option AV} {ops : Array Oper} {st : St} {d : Option Nat} {T : Nat} {pos : String} {aft : Array Edge} (x y : Operand) (ats : Array Nat) :
    evOp P call ops ⟨d, .call ⟨.builtin .max, #[x, y], ats⟩, T, pos, aft, none⟩ st = bnd (maxA (st.ev x) (st.ev y)) fun v => some (st.put d v) := by
  rw [evOp_none]
  simp only [opEff, callEff, maxA]
  cases st.ev x with
  | v a => cases a with
    | int k a => cases st.ev y with
      | v b => cases b <;> rfl
      | _ => rfl
    | _ => rfl
  | _ => rfl
/-- A call to which a row is handed over, at that row. -/
noncomputable def mvE (call : Nat → List AV → Option AV) (g : Nat) (rest : List AV) (s k d c : Nat) (o : Option Ent) : Option Eff :=
  match o with
  | some (.row e sz n cs) =>
    if (∀ c ∈ cs, Flat c) ∧ ∀ x ∈ rest, Flat x then
      match call g (.uniq e sz n cs :: rest) with
      | some (.uniq e' sz' n' cs') => some { dst := some d, val := .own d c, upd := some (s, k, none), new := some (d, [.row e' sz' n' cs']) }
      | some (.tup [.uniq e' sz' n' cs']) => some { dst := some d, val := .tup [], upd := some (s, k, some (.row e' sz' n' cs')) }
      | _ => none
    else none
  | _ => none
theorem callMv_own (call : Nat → List AV → Option AV) (g s k d : Nat) (rest : List AV) (st : St) : callMv call g (.own s k :: rest) st (some d) = mvE call g rest s k d (st.cnt d) (st.heap s k) := by
  unfold callMv mvE
  simp only
  cases st.heap s k with
  | none => rfl
  | some o =>
    cases o with
    | row e sz n cs =>
      simp only
      by_cases hc : (∀ c ∈ cs, Flat c) ∧ ∀ x ∈ rest, Flat x
      · simp only [if_pos hc]
        cases call g (.uniq e sz n cs :: rest) with
        | none => rfl
        | some r =>
          cases r with
          | tup vs =>
            cases vs with
            | nil => rfl
            | cons x xs =>
              cases x with
              | uniq _ _ _ _ => cases xs <;> rfl
              | _ => rfl
          | _ => rfl
      · simp only [if_neg hc]
    | _ => rfl
theorem mvE_uniq {call : Nat → List AV → Option AV} {g : Nat} {rest : List AV} {s k d c e sz n e' sz' n' : Nat} {cs cs' : List AV} (hf : ∀ c ∈ cs, Flat c) (hr : ∀ x ∈ rest, Flat x) (hc : call g (.uniq e sz n cs :: rest) = some (.uniq e' sz' n' cs')) :
    mvE call g rest s k d c (some (.row e sz n cs)) = some { dst := some d, val := .own d c, upd := some (s, k, none), new := some (d, [.row e' sz' n' cs']) } := by
  unfold mvE
  simp only
  rw [if_pos ⟨hf, hr⟩, hc]
@[congr] theorem mvE_congr {call : Nat → List AV → Option AV} {g : Nat} {rest : List AV} {s k d c c' : Nat} {o o' : Option Ent} (h : c = c') (h' : o = o') : mvE call g rest s k d c o = mvE call g rest s k d c' o' := by rw [h, h']
theorem callMv_nil {call : Nat → List AV → Option AV} {g d : Nat} {rest : List AV} {st : St} {e sz n : Nat} {cs : List AV} (hr : ∀ x ∈ rest, Flat x) (hc : call g (.v (.slice none 0 0) :: rest) = some (.uniq e sz n cs)) :
    callMv call g (.v (.slice none 0 0) :: rest) st (some d) = some { dst := some d, val := .own d (st.cnt d), new := some (d, [.row e sz n cs]) } := by
  have hf : ∀ x ∈ AV.v (.slice none 0 0) :: rest, Flat x := by
    intro x hx
    rcases List.mem_cons.1 hx with rfl | hx
    · exact .v _
    · exact hr x hx
  have hnf : ¬ Flat (.uniq e sz n cs) := by intro h; cases h
  unfold callMv
  simp only [if_pos hf]
  unfold callFn
  rw [if_pos hf, hc]
  simp only [bnd]
  unfold putRes
  rw [if_neg hnf]
  rfl
/-- The end of a call to which a row was handed over. -/
theorem endM_own {P : Program} {fn : Func} {st : St} {e : Ex} {r : ResultVar} {s g ee sz n : Nat} {cs : List AV} (he : e = .ret ∨ e = .normal) (hr : fn.results.toList = [r]) (h1 : resVal P st r = some (.own s g)) (h2 : st.heap s g = some (.row ee sz n cs)) (hm : ∀ c ∈ cs, MemFree c) :
    endM P fn (e, st) = some (.uniq ee sz n cs) := by
  have h : finishM P fn st = some (.uniq ee sz n cs) := by
    unfold finishM
    rw [hr]
    simp only [h1, h2]
    rw [if_pos hm]
  rcases he with rfl | rfl <;> exact h
theorem endM_vw {P : Program} {fn : Func} {st : St} {e : Ex} {r : ResultVar} {s g ee sz n k : Nat} {cs : List AV} (he : e = .ret ∨ e = .normal) (hr : fn.results.toList = [r]) (h1 : resVal P st r = some (.vw s g 0 k)) (h2 : st.heap s g = some (.row ee sz n cs)) (hk : k ≤ n) (hl : cs.length = n * sz) (hm : ∀ c ∈ cs, MemFree c) :
    endM P fn (e, st) = some (.uniq ee sz k (cs.take (k * sz))) := by
  have h : finishM P fn st = some (.uniq ee sz k (cs.take (k * sz))) := by
    unfold finishM
    rw [hr]
    simp only [h1, h2]
    rw [if_pos ⟨hk, hl, hm⟩]
  rcases he with rfl | rfl <;> exact h
theorem initM_env0 (e sz n : Nat) (cs rest : List AV) : (St.initM e sz n cs rest).env 0 = .own 0 0 := rfl
theorem initM_env (e sz n : Nat) (cs rest : List AV) (t : Nat) : (St.initM e sz n cs rest).env (t + 1) = (rest[t]?).getD (.v undef) := rfl
theorem initM_heap (e sz n : Nat) (cs rest : List AV) : (St.initM e sz n cs rest).heap 0 0 = some (.row e sz n cs) := rfl
theorem initM_heap' (e sz n : Nat) (cs rest : List AV) (s g : Nat) (h : ¬ (s = 0 ∧ g = 0)) : (St.initM e sz n cs rest).heap s g = none := if_neg h
theorem initM_cnt0 (e sz n : Nat) (cs rest : List AV) : (St.initM e sz n cs rest).cnt 0 = 1 := rfl
theorem initM_cnt (e sz n : Nat) (cs rest : List AV) (s : Nat) (h : s ≠ 0) : (St.initM e sz n cs rest).cnt s = 0 := if_neg h
end Go.Ab
