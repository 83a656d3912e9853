/-
  Part Ab14 of the proof: an evaluator of the programs written in Lean once, and its soundness.
-/
import Derived.Test.YtmcjkemalibacaaAb13
set_option linter.all false
namespace Go.Ab
open Classical
variable [Ext]

section
variable {P : Program} {call : Nat → List AV → Option AV} {inl : Nat → List AV → St → Option (AV × St)} {bi : Bool} {nt : Nat} {h0 : Nat → Obj → Prop} {w0 : World} {F : Frm}

theorem codeOk_region {ops : Array Oper} {id : Nat} {draw : Bool} (h : codeOk bi nt (.region id ops draw) = true) : (∀ (j : Nat) o, ops[j]? = some o → ∀ d, o.dst = some d → d < nt) ∧ (draw = true → drawOk ops (if bi = true then Ext.dyn id ops.size (firstDst ops) else []) = true) := by
  simp only [codeOk, Bool.and_eq_true, Bool.or_eq_true, Bool.not_eq_true'] at h
  refine ⟨fun j o ho d hd => ?_, fun hdr => h.2.resolve_left (by rw [hdr]; simp)⟩
  have := Array.all_eq_true_iff_forall_mem.1 h.1 o (Array.mem_of_getElem? ho)
  simpa [hd] using this

/-- A callee that runs in its caller's memory. -/
def InlOk (P : Program) (inl : Nat → List AV → St → Option (AV × St)) : Prop :=
  ∀ g xs st r s', inl g xs st = some (r, s') → Enters P g ∧
    ∀ (F : Frm) (h0 : Nat → Obj → Prop) (w0 : World) (nt : Nat) (ρ : Nat → Nat → Value) (a : Act) (w : World) (vs : Array Value) (K : Value → World → Prop), Sim F h0 w0 nt ρ st a w → RelL (ctx h0 w0 ρ st w) xs vs.toList →
      (∀ ρ' w' v, Sim F h0 w0 nt ρ' (st.back s') a w' → RelV (ctx h0 w0 ρ' (st.back s') w') r v → K v w') → Calls P g vs w fun en w' => ∃ v, en = .returned v ∧ K v w'

theorem isInl_spec {o : Oper} {g : Nat} {args : List Operand} (h : isInl o = some (g, args)) : ∃ c, o.op = .call c ∧ c.callee = .value (.func g) ∧ c.args.toList = args := by
  obtain ⟨dst, op, type, pos, after, guard⟩ := o
  unfold isInl at h
  split at h
  · rename_i g' args' ats hop
    split at h
    · simp only [Option.some.injEq, Prod.mk.injEq] at h
      obtain ⟨rfl, rfl⟩ := h
      exact ⟨_, hop, rfl, rfl⟩
    · cases h
  · cases h

theorem evOpI_sound {ops : Array Oper} {Q : Exit → Act → World → Prop} {ρ : Nat → Nat → Value} {st st' : St} {a : Act} {w : World} {K : Act → World → Prop} (S : Sim F h0 w0 nt ρ st a w) (hcall : CallOk P call) (hinl : InlOk P inl) {i : Nat} {o : Oper}
    (hi : ops[i]? = some o) (hd : ∀ d, o.dst = some d → d < nt) (h : evOpI P bi call inl ops o st = some st')
    (hK : ∀ ρ' a' w', Sim F h0 w0 nt ρ' st' a' w' → K a' w') : wpOp P ops Q i K a w := by
  unfold evOpI at h
  split at h
  · rename_i g args hg
    have hg' : isInl o = some (g, args) := by
      split at hg
      · exact hg
      · cases hg
    obtain ⟨c, hop, hcal, hargs⟩ := isInl_spec hg'
    unfold wpOp
    simp only [hi]
    cases hgv : gv ops st o.guard with
    | none => simp [hgv] at h
    | some b =>
      rw [gv_sound S hgv]
      simp only [hgv] at h
      cases b with
      | true =>
        simp only [if_true] at h ⊢
        cases he : inl g (args.map st.ev) st with
        | none => simp [he] at h
        | some r =>
          obtain ⟨x, s'⟩ := r
          simp only [he, Option.map_some, Option.some.injEq] at h
          subst h
          refine .inl ?_
          obtain ⟨⟨fn, hfun, hname, hbody⟩, hcalls⟩ := hinl g _ st x s' he
          have hnb : fn.body.isNone = false := by
            cases hb : fn.body <;> simp [hb] at hbody ⊢
          have hn1 : ¬ fn.name = "runtime.NumGoroutine" := by simpa using hname
          have hn2 : ¬ fn.body = none := by intro h; simp [h] at hnb
          have hrun : (execOp a.eval o).run P w = .ok (.enter g (c.args.map a.eval)) w := by
            simp [execOp, hop, resolve, hcal, Act.eval, Deferred.ofValue, invoke, callFunc, hfun, hn1, hn2]
          have hrel : RelL (ctx h0 w0 ρ st w) (args.map st.ev) (c.args.map a.eval).toList := by
            rw [← hargs]
            simpa using RelL.map c.args.toList _ _ fun p _ => S.ev p
          unfold Oper.wp
          rw [hrun, Oper.upon_enter]
          refine (hcalls F h0 w0 nt ρ a w (c.args.map a.eval) (fun v w' => K (a.put o.dst v) w') S hrel fun ρ' w' v S' hv => ?_).mono ?_
          · exact hK ρ' _ w' (S'.put o.dst hd hv)
          · rintro en w' ⟨v, rfl, hk⟩
            exact hk
      | false =>
        simp only [Bool.false_eq_true, if_false, Option.some.injEq] at h ⊢
        subst h
        exact hK ρ _ w (S.put o.dst hd (.v _))
  · exact evOp_sound S hcall hi hd h hK

theorem opsI_sound {ops : Array Oper} (hcall : CallOk P call) (hinl : InlOk P inl) (hdst : ∀ (j : Nat) o, ops[j]? = some o → ∀ d, o.dst = some d → d < nt) {Q : Exit → Act → World → Prop} {sf : St}
    (hQ : ∀ ρ' a' w', Sim F h0 w0 nt ρ' sf a' w' → Q .normal a' w') : ∀ (l : List Oper) (k : Nat) (st : St) (ρ : Nat → Nat → Value) (a : Act) (w : World), (∀ (j : Nat) o, l[j]? = some o → ops[k + j]? = some o) → Sim F h0 w0 nt ρ st a w →
      evOpsI P bi call inl ops l st = some sf → wpOps P ops Q (List.range' k l.length) a w
  | [], k, st, ρ, a, w, hl, S, h => by
    simp only [evOpsI, Option.some.injEq] at h
    subst h
    exact hQ ρ a w S
  | o :: l, k, st, ρ, a, w, hl, S, h => by
    rw [List.length_cons, List.range'_succ, wpOps_cons]
    have hi : ops[k]? = some o := hl 0 o rfl
    unfold evOpsI at h
    cases h1 : evOpI P bi call inl ops o st with
    | none => simp [h1, bnd] at h
    | some s1 =>
      simp only [h1, bnd] at h
      exact evOpI_sound S hcall hinl hi (hdst k o hi) h1 fun ρ' a' w' S' => opsI_sound hcall hinl hdst hQ l (k + 1) s1 ρ' a' w' (fun j o' hj => by
        have := hl (j + 1) o' (by simpa using hj)
        rw [show k + 1 + j = k + (j + 1) by omega]; exact this) S' h

/-- The operations of a list of places, one after the other. -/
noncomputable def evIx (P : Program) (bi : Bool) (call : Nat → List AV → Option AV) (inl : Nat → List AV → St → Option (AV × St)) (ops : Array Oper) : List Nat → St → Option St
  | [], st => some st
  | i :: r, st =>
    match ops[i]? with
    | some o => bnd (evOpI P bi call inl ops o st) (evIx P bi call inl ops r)
    | none => evIx P bi call inl ops r st

theorem evOpsI_evIx {ops : Array Oper} : ∀ (l : List Oper) (k : Nat) (st : St), (∀ j, l[j]? = ops[k + j]? ∨ l.length ≤ j) → evOpsI P bi call inl ops l st = evIx P bi call inl ops (List.range' k l.length) st
  | [], k, st, h => rfl
  | o :: l, k, st, h => by
    have h0 := (h 0).resolve_right (by simp)
    simp only [List.getElem?_cons_zero, Nat.add_zero] at h0
    simp only [evOpsI, List.length_cons, List.range'_succ, evIx, ← h0]
    cases evOpI P bi call inl ops o st with
    | none => rfl
    | some s =>
      simp only [bnd]
      exact evOpsI_evIx l (k + 1) s fun j => by
        rcases h (j + 1) with h | h
        · left
          rw [show k + 1 + j = k + (j + 1) by omega, ← h]
          simp
        · right
          simpa using h

theorem evOp_env {ops : Array Oper} {o : Oper} {st s : St} {a : Nat} (h : evOp P call ops o st = some s) (hd : o.dst ≠ some a) : s.env a = st.env a := by
  rw [evOp_eq] at h
  cases he : evEff P call ops o st with
  | none => simp [he] at h
  | some e =>
    simp only [he, Option.map_some, Option.some.injEq] at h
    subst h
    rw [apply_env, (evEff_shape he).1, if_neg hd]
theorem noI_spec {o : Oper} (h : noI o = true) : isInl o = none := by simpa [noI] using h
theorem evOpI_no {ops : Array Oper} {o : Oper} (h : noI o = true) (st : St) : evOpI P bi call inl ops o st = evOp P call ops o st := by
  unfold evOpI
  rw [noI_spec h]
  cases bi <;> rfl
theorem evOpI_env {ops : Array Oper} {o : Oper} {st s : St} {a : Nat} (h : evOpI P bi call inl ops o st = some s) (hd : o.dst ≠ some a) : s.env a = st.env a := by
  unfold evOpI at h
  have hput : ∀ (s0 : St) (x : AV), (s0.put o.dst x).env a = s0.env a := fun s0 x => by
    cases hod : o.dst with
    | none => rfl
    | some d =>
      simp only [St.put]
      rw [if_neg]
      rintro rfl
      exact hd hod
  split at h
  · split at h
    · split at h
      · simp only [Option.map_eq_some_iff] at h
        obtain ⟨r, _, rfl⟩ := h
        exact hput _ _
      · simp only [Option.some.injEq] at h
        subst h
        exact hput _ _
    · cases h
  · exact evOp_env h hd
theorem evIx_env {ops : Array Oper} {a : Nat} : ∀ (l : List Nat) {st sf : St}, (∀ m ∈ l, ∀ o, ops[m]? = some o → o.dst ≠ some a) → evIx P bi call inl ops l st = some sf → sf.env a = st.env a
  | [], st, sf, _, h => by
    simp only [evIx, Option.some.injEq] at h
    subst h; rfl
  | i :: l, st, sf, hd, h => by
    unfold evIx at h
    cases hi : ops[i]? with
    | none => simp only [hi] at h; exact evIx_env l (fun m hm => hd m (by simp [hm])) h
    | some o =>
      simp only [hi] at h
      cases h1 : evOpI P bi call inl ops o st with
      | none => simp [h1, bnd] at h
      | some s1 =>
        simp only [h1, bnd] at h
        rw [evIx_env l (fun m hm => hd m (by simp [hm])) h, evOpI_env h1 (hd i (by simp) o hi)]

/-- Why an operation may come before one that the text has ahead of it. -/
def MaySwap (ops : Array Oper) (sf : St) (rest : List Nat) (k : Nat) (ok oi : Oper) : Prop :=
  apartOk ops ok oi = true ∨ ∃ as bs, keyRegs ok = some as ∧ keyRegs oi = some bs ∧ Oper.apart ops ok oi = true ∧ farAll sf as bs ∧
    (∀ m ∈ rest, k ≤ m → ∀ o, ops[m]? = some o → ∀ a ∈ as, o.dst ≠ some a) ∧ (∀ m ∈ rest, ∀ o, ops[m]? = some o → ∀ b ∈ bs, o.dst ≠ some b)
theorem evIx_front {ops : Array Oper} (hcall : CallOk P call) (hdst : ∀ (j : Nat) o, ops[j]? = some o → ∀ d, o.dst = some d → d < nt) {i : Nat} {oi : Oper} (hi : ops[i]? = some oi) (l2 : List Nat) : ∀ (l1 : List Nat) (st sf : St), Valid nt st → (l1 ++ i :: l2).Pairwise (· < ·) →
    (∀ k ∈ l1, ∃ ok, ops[k]? = some ok ∧ noI ok = true ∧ noI oi = true ∧ MaySwap ops sf (l1 ++ i :: l2) k ok oi) → evIx P bi call inl ops (l1 ++ i :: l2) st = some sf → evIx P bi call inl ops (i :: (l1 ++ l2)) st = some sf
  | [], st, sf, _, _, _, h => h
  | k :: l1, st, sf, hv, hs, hap, h => by
    obtain ⟨ok, hok, hn1, hn2, hak⟩ := hap k (by simp)
    have e1 := fun st => evOpI_no (P := P) (bi := bi) (call := call) (inl := inl) (ops := ops) hn1 st
    have e2 := fun st => evOpI_no (P := P) (bi := bi) (call := call) (inl := inl) (ops := ops) hn2 st
    simp only [List.cons_append, evIx, hok, e1] at h
    cases h1 : evOp P call ops ok st with
    | none => simp [h1, bnd] at h
    | some s1 =>
      simp only [h1, bnd] at h
      rw [List.cons_append, List.pairwise_cons] at hs
      have ih := evIx_front hcall hdst hi l2 l1 s1 sf (hv.step hcall (hdst k ok hok) h1) hs.2 (fun k' hk => by
        obtain ⟨ok', h1, m1, m2, h2⟩ := hap k' (by simp [hk])
        refine ⟨ok', h1, m1, m2, h2.imp id ?_⟩
        rintro ⟨a, a', e1, e2, e3, e4, e5, e6⟩
        exact ⟨a, a', e1, e2, e3, e4, fun m hm => e5 m (by simp only [List.cons_append]; exact List.mem_cons_of_mem _ hm), fun m hm => e6 m (by simp only [List.cons_append]; exact List.mem_cons_of_mem _ hm)⟩) h
      have ih0 := ih
      simp only [evIx, hi, e2] at ih
      cases h2 : evOp P call ops oi s1 with
      | none => simp [h2, bnd] at ih
      | some s2 =>
        simp only [h2, bnd] at ih
        have hcomm : ∃ s3, evOp P call ops oi st = some s3 ∧ evOp P call ops ok s3 = some s2 := by
          rcases hak with hak | ⟨as, bs, e1', e2', e3, e4, e5, e6⟩
          · exact ev_comm hv.hp hak hv.ids h1 h2
          · have w1 : ∀ m ∈ i :: (l1 ++ l2), m ∈ (k :: l1) ++ i :: l2 ∧ k ≤ m := fun m hm => by
              have hm' : m ∈ l1 ++ i :: l2 := by
                simp only [List.mem_cons, List.mem_append] at hm ⊢
                rcases hm with h | h | h
                · exact .inr (.inl h)
                · exact .inl h
                · exact .inr (.inr h)
              exact ⟨by simp only [List.cons_append]; exact List.mem_cons_of_mem _ hm', Nat.le_of_lt (hs.1 m hm')⟩
            have f1 : ∀ a ∈ as, sf.env a = st.env a := fun a ha => by
              rw [evIx_env _ (fun m hm o ho => e5 m (w1 m hm).1 (w1 m hm).2 o ho a ha) ih0, evOp_env h1 (e5 k (by simp) (Nat.le_refl _) ok hok a ha)]
            have f2 : ∀ b ∈ bs, sf.env b = st.env b := fun b hb => by
              rw [evIx_env _ (fun m hm o ho => e6 m (w1 m hm).1 o ho b hb) ih0, evOp_env h1 (e6 k (by simp) ok hok b hb)]
            have e4' : farAll st as bs := fun a ha b hb => by
              have := e4 a ha b hb
              rw [f1 a ha, f2 b hb] at this
              exact this
            exact ev_commD hv.ids e1' e2' e3 e4' h1 h2
        obtain ⟨s3, h3, h4⟩ := hcomm
        simp only [List.cons_append, evIx, hi, hok, e1, e2, h3, h4, bnd]
        exact ih

theorem region_any {ops : Array Oper} {Q : Exit → Act → World → Prop} (hcall : CallOk P call) (hinl : InlOk P inl) (hdst : ∀ (j : Nat) o, ops[j]? = some o → ∀ d, o.dst = some d → d < nt) {dy : List (Nat × Nat)} {b : Array Nat} (D : DrawFacts ops dy b) {sf : St} (hsw : SwapsOk ops sf dy)
    (hQ : ∀ ρ' a' w', Sim F h0 w0 nt ρ' sf a' w' → Q .normal a' w') : ∀ (f : Nat) (l : List Nat) (listed : Array Bool) (st : St) (ρ : Nat → Nat → Value) (a : Act) (w : World), l.length = f → Left ops listed l → Sim F h0 w0 nt ρ st a w →
    evIx P bi call inl ops l st = some sf → wpAny P .any ops Q f listed a w
  | 0, l, listed, st, ρ, a, w, hf, L, S, he => by
    have hl := List.length_eq_zero_iff.1 hf
    subst hl
    simp only [evIx, Option.some.injEq] at he
    subst he
    refine ⟨?_, hQ ρ a w S⟩
    cases hr : Region.ready .any ops listed with
    | nil => rfl
    | cons x xs =>
      have hx : x ∈ Region.ready .any ops listed := by rw [hr]; simp
      obtain ⟨h1, o, ho, _⟩ := mem_ready.1 hx
      have := (L.mem x).2 ⟨(Array.getElem?_eq_some_iff.1 ho).1, h1⟩
      simp at this
  | f + 1, l, listed, st, ρ, a, w, hf, L, S, he => by
    refine ⟨fun hr => ?_, fun i hi => ?_⟩
    · exfalso
      cases l with
      | nil => simp at hf
      | cons i l =>
        have hil := (L.mem i).1 (by simp)
        have : i ∈ Region.ready .any ops listed := mem_ready.2 ⟨hil.2, ops[i], Array.getElem?_eq_getElem hil.1, fun e he' hb => by
          have hlt := D.lt i _ (Array.getElem?_eq_getElem hil.1) e he' hb
          cases hle : listed.getD e.on false with
          | true => rfl
          | false =>
            have hsz : e.on < listed.size := by rw [L.size]; omega
            have hin := (L.mem e.on).2 ⟨by omega, by rw [getD_flip hsz]; exact hle⟩
            rcases List.mem_cons.1 hin with h | h
            · omega
            · have := (List.pairwise_cons.1 L.sorted).1 _ h
              omega⟩
        rw [hr] at this
        simp at this
    · obtain ⟨h1, oi, hoi, hall⟩ := mem_ready.1 hi
      have hilt : i < ops.size := (Array.getElem?_eq_some_iff.1 hoi).1
      have hil := (L.mem i).2 ⟨hilt, h1⟩
      obtain ⟨l1, l2, rfl⟩ := List.append_of_mem hil
      have hs := L.sorted
      rw [List.pairwise_append] at hs
      obtain ⟨s1, s2, s3⟩ := hs
      have hno : ∀ m, (b.getD i 0).testBit m = true → m ∉ l1 ++ i :: l2 := fun m h hm => by
        have hkm := (L.mem m).1 hm
        have := bits_listed D L i oi hoi hall m h
        rw [← getD_flip (by rw [L.size]; exact hkm.1), hkm.2] at this
        cases this
      have hap : ∀ k ∈ l1, ∃ ok, ops[k]? = some ok ∧ noI ok = true ∧ noI oi = true ∧ MaySwap ops sf (l1 ++ i :: l2) k ok oi := fun k hk => by
        have hki := s3 k hk i (by simp)
        have hkm := (L.mem k).1 (by simp [hk])
        refine ⟨ops[k], Array.getElem?_eq_getElem hkm.1, ?_⟩
        rcases D.apart k i _ oi hki (Array.getElem?_eq_getElem hkm.1) hoi with h | ⟨n1, n2, h | ⟨hm, h⟩⟩
        · exact absurd (by simp [hk]) (hno k h)
        · exact ⟨n1, n2, .inl h⟩
        · refine ⟨n1, n2, .inr ?_⟩
          have hsa := hsw.mem _ hm
          unfold SwapAt at hsa
          simp only [Array.getElem?_eq_getElem hkm.1, hoi, Option.bind_some] at hsa
          unfold swapSt at h
          cases ha : keyRegs ops[k] with
          | none => rw [ha] at h; cases h
          | some as =>
            cases ha' : keyRegs oi with
            | none => rw [ha, ha'] at h; cases h
            | some bs =>
              rw [ha, ha'] at hsa h
              simp only [Bool.and_eq_true] at h hsa
              refine ⟨as, bs, rfl, rfl, h.1.1, hsa, fun m hm hkm' o ho a haa hd => ?_, fun m hm o ho b hbb hd => ?_⟩
              · have hb := wroteBefore_spec haa _ 0 h.1.2 m o (by simpa using ho) hd
                rw [Nat.zero_add] at hb
                have hlt := D.bit_lt k _ (Array.getElem?_eq_getElem hkm.1) m hb
                omega
              · have hb := wroteBefore_spec hbb _ 0 h.2 m o (by simpa using ho) hd
                rw [Nat.zero_add] at hb
                exact hno m hb hm
      have he' := evIx_front hcall hdst hoi l2 l1 st sf ⟨F, h0, w0, ρ, a, w, S⟩ L.sorted hap he
      simp only [evIx, hoi] at he'
      cases h2 : evOpI P bi call inl ops oi st with
      | none => simp [h2, bnd] at he'
      | some s2' =>
        simp only [h2, bnd] at he'
        refine evOpI_sound S hcall hinl hoi (hdst i oi hoi) h2 fun ρ' a' w' S' => ?_
        refine region_any hcall hinl hdst D hsw hQ f (l1 ++ l2) _ s2' ρ' a' w' (by simp at hf ⊢; omega) ⟨by simp [L.size], fun j => ?_, ?_, fun j o ho hlj e he'' hb => ?_⟩ S' he'
        · have hm := L.mem j
          simp only [List.mem_append, List.mem_cons] at hm ⊢
          by_cases hji : j = i
          · subst hji
            have hn1 : j ∉ l1 := fun h => by have := s3 j h j (by simp); omega
            have hn2 : j ∉ l2 := fun h => by have := (List.pairwise_cons.1 s2).1 j h; omega
            have hset : (listed.setIfInBounds j true).getD j true = true := by
              have : j < listed.size := by rw [L.size]; exact hilt
              simp [this]
            simp [hn1, hn2, hset]
          · rw [getD_set_ne true (Ne.symm hji)]
            simpa [hji] using hm
        · rw [List.pairwise_append]
          exact ⟨s1, (List.pairwise_cons.1 s2).2, fun x hx y hy => s3 x hx y (by simp [hy])⟩
        · by_cases hji : i = j
          · subst hji
            rw [hoi] at ho
            cases ho
            exact getD_set_true (hall e he'' hb)
          · rw [getD_set_ne false hji] at hlj
            exact getD_set_true (L.closed j o ho hlj e he'' hb)
theorem evOpsI_no {ops : Array Oper} : ∀ (l : List Oper) (st : St), (∀ o ∈ l, isInl o = none) → evOpsI P bi call inl ops l st = evOps P call ops l st
  | [], st, _ => rfl
  | o :: l, st, h => by
    have e : ∀ s, evOpI P bi call inl ops o s = evOp P call ops o s := fun s => by
      unfold evOpI
      rw [h o (by simp)]
      cases bi <;> rfl
    unfold evOpsI evOps
    rw [e]
    congr 1
    funext s
    exact evOpsI_no l s fun o' h' => h o' (by simp [h'])
theorem noInl_spec {ops : Array Oper} (h : noInl ops = true) : ∀ o ∈ ops.toList, isInl o = none := fun o ho => by
  have := Array.all_eq_true_iff_forall_mem.1 h o (by simpa using ho)
  exact noI_spec this

theorem region_sound (hm : P.follows .mixedOrders = true) (hcall : CallOk P call) (hinl : InlOk P inl) {ops : Array Oper} {id : Nat} {draw : Bool} (hok : codeOk bi nt (.region id ops draw) = true) {Q : Exit → Act → World → Prop} {st sf : St} {ρ : Nat → Nat → Value} {a : Act} {w : World}
    (S : Sim F h0 w0 nt ρ st a w) (hsw : bi = true → SwapsOk ops sf (Ext.dyn id ops.size (firstDst ops))) (h : evOpsI P bi call inl ops ops.toList st = some sf) (hQ : ∀ ρ' a' w', Sim F h0 w0 nt ρ' sf a' w' → Q .normal a' w') : (Code.region id ops draw).wp P Q a w := by
  obtain ⟨hdst, hdraw⟩ := codeOk_region hok
  cases draw with
  | false =>
    refine wp_region ?_
    rw [List.range_eq_range']
    have := opsI_sound hcall hinl hdst hQ ops.toList 0 st ρ a w (fun j o hj => by simpa using hj) S h
    simpa using this
  | true =>
    rw [evOpsI_evIx ops.toList 0 st (fun j => .inl (by simp))] at h
    obtain ⟨b, D⟩ := drawOk_spec (hdraw rfl)
    refine wp_region_any hm ?_
    have hg : w.grownBy { w with drawn := w.drawn + 1 } none := ⟨rfl, rfl, rfl, Nat.le_refl _, fun _ _ _ => rfl⟩
    have hsw' : SwapsOk ops sf (if bi = true then Ext.dyn id ops.size (firstDst ops) else []) := by
      cases bi with
      | true => exact hsw rfl
      | false => exact trivial
    refine region_any hcall hinl hdst D hsw' hQ ops.size (List.range' 0 ops.size) _ st ρ a _ (by simp) ⟨by simp, fun j => ?_, ?_, fun j o ho hl => ?_⟩ (S.grow hg).1 (by simpa using h)
    · rw [← List.range_eq_range', List.mem_range]
      constructor
      · intro hj; exact ⟨hj, by simp [hj]⟩
      · exact fun h => h.1
    · rw [← List.range_eq_range']
      exact List.pairwise_lt_range
    · simp [Array.getD_eq_getD_getElem?, Array.getElem?_replicate] at hl
      split at hl <;> simp at hl

theorem exists_least {p : Nat → Prop} (h : ∃ n, p n) : ∃ n, p n ∧ ∀ m, p m → n ≤ m := by
  obtain ⟨n, hn⟩ := h
  induction n using Nat.strongRecOn with
  | _ n ih =>
    by_cases hl : ∃ m, m < n ∧ p m
    · obtain ⟨m, hm, hp⟩ := hl
      exact ih m hm hp
    · exact ⟨n, hn, fun m hm => by
        rcases Nat.lt_or_ge m n with h | h
        · exact absurd ⟨m, h, hm⟩ hl
        · exact h⟩

noncomputable def leastN (p : Nat → Prop) : Nat := if h : ∃ n, p n then Classical.choose (exists_least h) else 0
theorem leastN_spec {p : Nat → Prop} (h : ∃ n, p n) : p (leastN p) ∧ ∀ m, p m → leastN p ≤ m := by
  unfold leastN
  rw [dif_pos h]
  exact Classical.choose_spec (exists_least h)

def Ex.to : Ex → Exit
  | .normal => .normal
  | .exit id => .exit id
  | .ret => .ret

theorem evC_sound (hm : P.follows .mixedOrders = true) (hcall : CallOk P call) (hinl : InlOk P inl) (n : Nat) : ∀ (c : Code) (st sf : St) (ex : Ex) (ρ : Nat → Nat → Value) (a : Act) (w : World) (Q : Exit → Act → World → Prop), codeOk bi nt c = true →
    Sim F h0 w0 nt ρ st a w → evC P bi call inl n c st = some (ex, sf) → (∀ ρ' a' w', Sim F h0 w0 nt ρ' sf a' w' → Q ex.to a' w') → c.wp P Q a w := by
  induction n using Nat.strongRecOn with
  | _ n ih =>
  have evC_sound : ∀ m, m < n → ∀ (c : Code) (st sf : St) (ex : Ex) (ρ : Nat → Nat → Value) (a : Act) (w : World) (Q : Exit → Act → World → Prop), codeOk bi nt c = true →
    Sim F h0 w0 nt ρ st a w → evC P bi call inl m c st = some (ex, sf) → (∀ ρ' a' w', Sim F h0 w0 nt ρ' sf a' w' → Q ex.to a' w') → c.wp P Q a w := ih
  clear ih
  intro c st sf ex ρ a w Q hok S h hQ
  cases n with
  | zero => simp [evC] at h
  | succ n =>
    cases c <;> simp only [evC] at h
    case skip =>
      simp only [Option.some.injEq, Prod.mk.injEq] at h
      obtain ⟨rfl, rfl⟩ := h
      exact wp_skip (hQ ρ a w S)
    case region id ops draw =>
      cases h1 : evOpsI P bi call inl ops ops.toList st with
      | none => simp [h1, bnd] at h
      | some s1 =>
        simp only [h1, bnd] at h
        split at h
        · cases h
        · rename_i hsw
          simp only [Option.some.injEq, Prod.mk.injEq] at h
          obtain ⟨rfl, rfl⟩ := h
          exact region_sound hm hcall hinl hok S (fun hb => Classical.byContradiction fun hc => hsw ⟨hb, hc⟩) h1 hQ
    case seq x y =>
      simp only [codeOk, Bool.and_eq_true] at hok
      cases h1 : evC P bi call inl n x st with
      | none => simp [h1, bnd] at h
      | some r =>
        obtain ⟨e1, s1⟩ := r
        simp only [h1, bnd] at h
        refine wp_seq (evC_sound n (by omega) x st s1 e1 ρ a w _ hok.1 S h1 fun ρ' a' w' S' => ?_)
        cases e1 with
        | normal => exact evC_sound n (by omega) y s1 sf ex ρ' a' w' Q hok.2 S' h hQ
        | exit id =>
          simp only [Option.some.injEq, Prod.mk.injEq] at h
          obtain ⟨rfl, rfl⟩ := h
          exact hQ ρ' a' w' S'
        | ret =>
          simp only [Option.some.injEq, Prod.mk.injEq] at h
          obtain ⟨rfl, rfl⟩ := h
          exact hQ ρ' a' w' S'
    case cond c x y =>
      simp only [codeOk, Bool.and_eq_true] at hok
      split at h
      · rename_i t ht
        have hr := S.ev c
        rw [ht] at hr
        have hv := relV_v hr
        refine wp_cond (t := t) hv ?_
        cases t with
        | true => exact evC_sound n (by omega) x st sf ex ρ a w Q hok.1 S (by simpa using h) hQ
        | false => exact evC_sound n (by omega) y st sf ex ρ a w Q hok.2 S (by simpa using h) hQ
      · cases h
    case block id b =>
      simp only [codeOk] at hok
      cases h1 : evC P bi call inl n b st with
      | none => simp [h1, bnd] at h
      | some r =>
        obtain ⟨e1, s1⟩ := r
        simp only [h1, bnd, Option.some.injEq, Prod.mk.injEq] at h
        obtain ⟨rfl, rfl⟩ := h
        refine wp_block (evC_sound n (by omega) b st s1 e1 ρ a w _ hok S h1 fun ρ' a' w' S' => ?_)
        have := hQ ρ' a' w' S'
        cases e1 with
        | normal => exact this
        | exit i =>
          simp only [Ex.inBlock] at this
          simp only [Ex.to, Exit.inBlock]
          by_cases hi : i = id
          · rw [if_pos hi] at this ⊢; exact this
          · rw [if_neg hi] at this ⊢; exact this
        | ret => exact this
    case loop b =>
      have hok' := hok
      simp only [codeOk] at hok
      let p : Act → World → Nat → Prop := fun a w m => m ≤ n + 1 ∧ ∃ st ρ, Sim F h0 w0 nt ρ st a w ∧ evC P bi call inl m (.loop b) st = some (ex, sf)
      refine wp_loop (fun a w => ∃ m, p a w m) (fun a w => leastN (p a w)) ⟨n + 1, Nat.le_refl _, st, ρ, S, h⟩ fun a w hI => ?_
      obtain ⟨⟨hle, st1, ρ1, S1, h1⟩, _⟩ := leastN_spec hI
      generalize leastN (p a w) = m at h1 hle
      cases m with
      | zero => simp [evC] at h1
      | succ m =>
        simp only [evC] at h1
        cases h2 : evC P bi call inl m b st1 with
        | none => simp [h2, bnd] at h1
        | some r =>
          obtain ⟨e1, s1⟩ := r
          simp only [h2, bnd] at h1
          have hmn : m ≤ n := by omega
          refine evC_sound m (by omega) b st1 s1 e1 ρ1 a w _ hok S1 h2 fun ρ' a' w' S' => ?_
          cases e1 with
          | normal =>
            have hp : p a' w' m := ⟨by omega, s1, ρ', S', h1⟩
            exact ⟨⟨m, hp⟩, Nat.lt_succ_of_le ((leastN_spec ⟨m, hp⟩).2 m hp)⟩
          | exit id =>
            simp only [Option.some.injEq, Prod.mk.injEq] at h1
            obtain ⟨rfl, rfl⟩ := h1
            exact hQ ρ' a' w' S'
          | ret =>
            simp only [Option.some.injEq, Prod.mk.injEq] at h1
            obtain ⟨rfl, rfl⟩ := h1
            exact hQ ρ' a' w' S'
    case exit id =>
      simp only [Option.some.injEq, Prod.mk.injEq] at h
      obtain ⟨rfl, rfl⟩ := h
      exact wp_exit (hQ ρ a w S)
    case ret =>
      simp only [Option.some.injEq, Prod.mk.injEq] at h
      obtain ⟨rfl, rfl⟩ := h
      exact wp_ret (hQ ρ a w S)
    all_goals cases h
end
end Go.Ab
