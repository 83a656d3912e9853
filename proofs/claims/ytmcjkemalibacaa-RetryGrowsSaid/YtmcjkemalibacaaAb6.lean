/-
  Part Ab6 of the proof: an evaluator of the programs written in Lean once, and its soundness.
-/
import Derived.Test.YtmcjkemalibacaaAb5m
set_option linter.all false
set_option linter.unusedSimpArgs false
namespace Go.Ab
open Classical

section
variable {P : Program} {h0 : Nat → Obj → Prop} {w0 : World} {F : Frm} {nt : Nat} {ρ : Nat → Nat → Value} {st : St} {a : Act} {w : World}

theorem slice_sound (S : Sim F h0 w0 nt ρ st a w) {T : Nat} {x z : AV} {lo hi : Option Operand} {u : Value} (h : sliceA P st T x lo hi = some z) (hu : RelV (ctx h0 w0 ρ st w) x u) :
    ∃ r, (Instr.sliceAt T u (lo.map a.eval) (hi.map a.eval) none).run P w = .ok r w ∧ RelV (ctx h0 w0 ρ st w) z r := by
  unfold sliceA at h
  cases hs : slInfo P T with
  | none =>
    simp only [hs] at h
    split at h
    · rename_i n sz s g o ha
      obtain ⟨e, ei, hT, hi, rfl, hne⟩ := arrInfo_spec ha
      cases he : st.heap s g with
      | none => simp [he] at h
      | some en =>
        cases en with
        | cells es =>
          simp only [he, Option.some.injEq] at h
          subst h
          obtain ⟨_, _, b1, arr, T1, hρ, _⟩ := S.ent s g _ he
          cases hu with
          | ptr _ _ _ b hg hb =>
            refine ⟨.slice (some ⟨b, o, none⟩) n n, ?_, .vw s g o n b n hg hb (Nat.le_refl _) (fun ho p n0 c0 hc => by
              have h2 : ρ s g = .slice p n0 c0 := hc
              rw [hρ] at h2; cases h2)⟩
            simp [Instr.sliceAt, run_underlying' hT, Instr.sureAddr, Instr.sliceBounds, run_sizeOf w hi, addr_add]
        | _ => simp [he] at h
    · cases h
  | some t =>
    obtain ⟨e, sz, by_⟩ := t
    simp only [hs] at h
    obtain ⟨ei, ez, hT, hie, hz0, rfl, hzs, rfl, hpos⟩ := slInfo_spec hs
    have hiv : ∀ (o : Option Operand) (n : Int) (k : IntKind) (i : Int), (match o with | some h => st.ev h | none => AV.v (.int .i64 n)) = .v (.int k i) →
        (match o with | some h => a.eval h | none => Value.int .i64 n) = .int k i := fun o n k i ho => by
      cases o with
      | none => simp only at ho ⊢; cases ho; rfl
      | some p =>
        simp only at ho ⊢
        have := S.ev p
        rw [ho] at this
        exact relV_v this
    have hrun : ∀ (p : Option Addr) (n cap : Nat) (kh kl : IntKind) (H L : Int), n ≤ cap → (match hi with | some h => a.eval h | none => Value.int .i64 n) = .int kh H → (match lo with | some l => a.eval l | none => Value.int .i64 0) = .int kl L →
        0 ≤ L → L ≤ H → H ≤ n →
        (Instr.sliceAt T (.slice p n cap) (lo.map a.eval) (hi.map a.eval) none).run P w = .ok (.slice (if cap = L.toNat then p else p.map (·.add (L.toNat * ei.size))) (H.toNat - L.toNat) (cap - L.toNat)) w := by
      intro p n cap kh kl H L hcap hh hl l0 l1 l2
      have b1 : H ≤ (cap : Int) := by omega
      have b2 : L ≤ ((H.toNat : Nat) : Int) := by omega
      have b3 : 0 ≤ H := by omega
      have b6 : max H 0 = H := by omega
      cases hi with
      | none =>
        simp only [Value.int.injEq] at hh
        obtain ⟨rfl, rfl⟩ := hh
        cases lo with
        | none =>
          simp only [Value.int.injEq] at hl
          obtain ⟨rfl, rfl⟩ := hl
          simp [Instr.sliceAt, Instr.slice, Instr.sliceBounds, run_underlying' hT, run_sizeOf w hie]
        | some l =>
          simp only at hl
          simp [Instr.sliceAt, Instr.slice, Instr.sliceBounds, Instr.sliceBound, asIntOf, run_underlying' hT, run_sizeOf w hie, hl, l0, l1]
      | some h =>
        simp only at hh
        cases lo with
        | none =>
          simp only [Value.int.injEq] at hl
          obtain ⟨rfl, rfl⟩ := hl
          simp [Instr.sliceAt, Instr.slice, Instr.sliceBounds, Instr.sliceBound, asIntOf, run_underlying' hT, run_sizeOf w hie, hh, b3, b1]
        | some l =>
          simp only at hl
          simp [Instr.sliceAt, Instr.slice, Instr.sliceBounds, Instr.sliceBound, asIntOf, run_underlying' hT, run_sizeOf w hie, hh, hl, l0, b3, b1, b6, l1]
    cases x with
    | sl n cs =>
      simp only at h
      split at h
      · rename_i kh H kl L e1 e2
        split at h
        · rename_i hc
          obtain ⟨c1, c2, c3, c4⟩ := hc
          simp only [Option.some.injEq] at h
          subst h
          have e1' := hiv hi n kh H e1
          have e2' := hiv lo 0 kl L e2
          have hHL : (H - L).toNat = H.toNat - L.toNat := by omega
          cases hu with
          | sl0 n cap p hcap =>
            refine ⟨_, hrun p n cap kh kl H L hcap e1' e2' c1 c2 c3, ?_⟩
            rw [hHL]
            simp only [List.drop_nil, List.take_nil]
            exact .sl0 _ _ _ (by omega)
          | sl n cs b off cap arr T' fr hcap hb hle hr h1 =>
            refine ⟨_, hrun _ n cap kh kl H L hcap e1' e2' c1 c2 c3, ?_⟩
            rw [hHL]
            by_cases hm : cap = L.toNat
            · have hz : H.toNat - L.toNat = 0 := by omega
              rw [if_pos hm, hz]
              simp only [Nat.zero_mul, List.take_zero]
              exact .sl0 _ _ _ (by omega)
            · rw [if_neg hm]
              simp only [Option.map_some, addr_add]
              have hbound : L.toNat * ei.size + (H.toNat - L.toNat) * ei.size ≤ cs.length := by
                rw [c4, ← Nat.add_mul]
                exact Nat.mul_le_mul_right _ (by omega)
              refine .sl _ _ b (off + L.toNat * ei.size) _ arr T' fr (by omega) hb (by simp; omega) (fun i x y hx hy => ?_) (fun i y hi' hy => ?_)
              · rw [List.getElem?_take] at hx
                split at hx
                · rw [List.getElem?_drop] at hx
                  exact hr _ x y hx (by rw [← Nat.add_assoc]; exact hy)
                · cases hx
              · simp only [List.length_take, List.length_drop] at hi'
                exact h1 (L.toNat * ei.size + i) y (by omega) (by rw [← Nat.add_assoc]; exact hy)
        · cases h
      · cases h
    | v xv =>
      split at h
      · rename_i heq; cases heq
      · rename_i heq
        cases heq
        split at h
        · rename_i kh H kl L e1 e2
          split at h
          · rename_i hc
            obtain ⟨rfl, rfl⟩ := hc
            simp only [Option.some.injEq] at h
            subst h
            have := relV_v hu
            subst this
            have e1' := hiv hi 0 kh 0 e1
            have e2' := hiv lo 0 kl 0 e2
            refine ⟨_, hrun none 0 0 kh kl 0 0 (Nat.le_refl _) e1' e2' (by omega) (by omega) (by omega), ?_⟩
            simp
            exact .v _
          · cases h
        · cases h
      · rename_i heq; cases heq
      · rename_i heq; cases heq
      · cases h
    | own s g =>
      simp only at h
      cases he : st.heap s g with
      | none => simp [he] at h
      | some en =>
        cases en with
        | row e' sz' n es =>
          simp only [he] at h
          split at h
          · rename_i kh H kl L e1 e2
            split at h
            · rename_i hc
              obtain ⟨c1, c2, c3⟩ := hc
              have e1' := hiv hi n kh H e1
              have e2' := hiv lo 0 kl L e2
              have hHL : (H - L).toNat = H.toNat - L.toNat := by omega
              obtain ⟨hlt, _, xs, ho, hcl⟩ := S.ent s g _ he
              cases hu with
              | own _ _ hg h1 =>
                show ∃ r, (Instr.sliceAt T (ρ s g) (lo.map a.eval) (hi.map a.eval) none).run P w = .ok r w ∧ _
                rcases ho.2 with ⟨p, hρ, hn⟩ | ⟨b', cap, cur, hρ, _, hh, hnc, _, _, ht, hc0⟩
                · rw [hρ]
                  subst hn
                  have hLH : L = H := by omega
                  rw [if_pos ⟨hLH, by omega⟩] at h
                  simp only [Option.some.injEq] at h
                  subst h
                  have hz : H.toNat - L.toNat = 0 := by omega
                  refine ⟨_, hrun p 0 0 kh kl H L (Nat.le_refl _) e1' e2' c1 c2 c3, ?_⟩
                  rw [hz]
                  exact .sl0 _ _ _ (by omega)
                · rw [hρ]
                  refine ⟨_, hrun _ n cap kh kl H L hnc e1' e2' c1 c2 c3, ?_⟩
                  split at h
                  · rename_i hLH
                    simp only [Option.some.injEq] at h
                    subst h
                    have hz : H.toNat - L.toNat = 0 := by omega
                    rw [hz]
                    exact .sl0 _ _ _ (by omega)
                  · rename_i hLH
                    simp only [Option.some.injEq] at h
                    subst h
                    rw [if_neg (by omega), hHL]
                    simp only [Option.map_some, addr_add, Nat.zero_add]
                    exact .vw s g _ _ b' _ hg (by show blkOf (ρ s g) = _; rw [hρ, blkOf_sl hc0]) (by omega) (fun hz p n0 c0 hc => by
                      have h3 : L.toNat = 0 := (Nat.mul_eq_zero.1 hz).resolve_right (by omega)
                      have h2 : ρ s g = .slice p n0 c0 := hc
                      rw [hρ] at h2
                      simp only [Value.slice.injEq] at h2
                      omega)
            · cases h
          · cases h
        | _ => simp [he] at h
    | vw s g o k =>
      cases o with
      | succ o => simp at h
      | zero =>
      simp only at h
      split at h
      · rename_i e' sz' n es ho' hl' he
        split at h
        · rename_i kh H kl L e1 e2
          split at h
          · rename_i hc
            obtain ⟨c1, c2, c3⟩ := hc
            simp only [Option.some.injEq] at h
            subst h
            obtain ⟨hlt, _, xs, ho, hcl⟩ := S.ent s g _ he
            cases hu with
            | vw _ _ _ _ b cap hg hb hcap hfull =>
              have hb' : blkOf (ρ s g) = some b := hb
              rcases ho.2 with ⟨p, hρ, hn⟩ | ⟨b', cap', cur, hρ, _, hh, hnc, _, _, ht, hc0⟩
              · rw [hρ, blkOf_sl0] at hb'; cases hb'
              · have hbb : b' = b := by rw [hρ, blkOf_sl hc0] at hb'; simpa using hb'
                subst hbb
                have hcc : cap = cap' := hfull rfl _ _ _ hρ
                subst hcc
                have f1 : a.eval ho' = .int kh H := by
                  have := S.ev ho'
                  rw [e1] at this
                  exact relV_v this
                have f2 : a.eval hl' = .int kl L := by
                  have := S.ev hl'
                  rw [e2] at this
                  exact relV_v this
                have b1 : H ≤ (cap : Int) := by omega
                have b2 : L ≤ ((H.toNat : Nat) : Int) := by omega
                have b3 : 0 ≤ H := by omega
                have b6 : max H 0 = H := by omega
                have b7 : ¬ cap = L.toNat := by omega
                refine ⟨.slice (some ⟨b', L.toNat * ei.size, none⟩) (H.toNat - L.toNat) (cap - L.toNat), ?_, ?_⟩
                · simp [Instr.sliceAt, Instr.slice, Instr.sliceBounds, Instr.sliceBound, asIntOf, run_underlying' hT, run_sizeOf w hie, f1, f2, c1, b3, b1, b6, b2, b7, addr_add, show L ≤ H by omega]
                · rw [show (H - L).toNat = H.toNat - L.toNat by omega]
                  exact .vw s g _ _ b' _ hg hb (by omega) (fun hz p n0 c0 hc => by
                    have h3 : L.toNat = 0 := (Nat.mul_eq_zero.1 hz).resolve_right (by omega)
                    have h2 : ρ s g = .slice p n0 c0 := hc
                    rw [hρ] at h2
                    simp only [Value.slice.injEq] at h2
                    omega)
          · cases h
        · cases h
      · cases h
    | _ => first | (simp at h; done) | (cases h; done)

theorem slice3_sound (S : Sim F h0 w0 nt ρ st a w) {T : Nat} {x z : AV} {lo : Option Operand} {hi mx : Operand} {u : Value} (h : sliceA3 P st T x lo hi mx = some z) (hu : RelV (ctx h0 w0 ρ st w) x u) :
    ∃ r, (Instr.sliceAt T u (lo.map a.eval) (some (a.eval hi)) (some (a.eval mx))).run P w = .ok r w ∧ RelV (ctx h0 w0 ρ st w) z r := by
  unfold sliceA3 at h
  cases hs : slInfo P T with
  | none => simp [hs] at h
  | some t =>
    obtain ⟨e, sz, by_⟩ := t
    simp only [hs] at h
    obtain ⟨ei, ez, hT, hie, hz0, rfl, hzs, rfl, hpos⟩ := slInfo_spec hs
    have hop : ∀ (o : Operand) (k : IntKind) (i : Int), st.ev o = .v (.int k i) → a.eval o = .int k i := fun o k i ho => by
      have := S.ev o
      rw [ho] at this
      exact relV_v this
    split at h
    · rename_i kh H km M kl L e1 e2 e3
      have f1 := hop _ _ _ e1
      have f2 := hop _ _ _ e2
      have hrun : ∀ (p : Option Addr) (n cap : Nat), n ≤ cap → 0 ≤ L → L ≤ H → H = M → H ≤ n →
          (Instr.sliceAt T (.slice p n cap) (lo.map a.eval) (some (a.eval hi)) (some (a.eval mx))).run P w = .ok (.slice (if H.toNat = L.toNat then p else p.map (·.add (L.toNat * ei.size))) (H.toNat - L.toNat) (H.toNat - L.toNat)) w := by
        intro p n cap hcap l0 l1 l2 l3
        subst l2
        have b1 : H ≤ (cap : Int) := by omega
        have b2 : L ≤ ((H.toNat : Nat) : Int) := by omega
        have b3 : 0 ≤ H := by omega
        have b4 : H ≤ ((H.toNat : Nat) : Int) := by omega
        have b6 : max H 0 = H := by omega
        cases lo with
        | none =>
          simp only [AV.v.injEq, Value.int.injEq] at e3
          obtain ⟨rfl, rfl⟩ := e3
          simp [Instr.sliceAt, Instr.slice, Instr.sliceBounds, Instr.sliceBound, asIntOf, run_underlying' hT, run_sizeOf w hie, f1, f2, b3, b1, b4, b6]
        | some l =>
          simp only at e3
          have f3 := hop _ _ _ e3
          simp [Instr.sliceAt, Instr.slice, Instr.sliceBounds, Instr.sliceBound, asIntOf, run_underlying' hT, run_sizeOf w hie, f1, f2, f3, l0, l1, b3, b1, b2, b4, b6]
      split at h
      · rename_i n cs
        split at h
        · rename_i hc
          obtain ⟨c1, c2, c3, c4, c5⟩ := hc
          simp only [Option.some.injEq] at h
          subst h
          have hHL : (H - L).toNat = H.toNat - L.toNat := by omega
          cases hu with
          | sl0 n cap p hcap =>
            refine ⟨_, hrun p n cap hcap c1 c2 c3 c4, ?_⟩
            rw [hHL]
            simp only [List.drop_nil, List.take_nil]
            exact .cl0 _ _
          | sl n cs b off cap arr T' fr hcap hb hle hr h1 =>
            refine ⟨_, hrun _ n cap hcap c1 c2 c3 c4, ?_⟩
            rw [hHL]
            by_cases hm : H.toNat = L.toNat
            · have hz : H.toNat - L.toNat = 0 := by omega
              rw [if_pos hm, hz]
              simp only [Nat.zero_mul, List.take_zero]
              exact .cl0 _ _
            · rw [if_neg hm]
              simp only [Option.map_some, addr_add]
              have hbound : L.toNat * ei.size + (H.toNat - L.toNat) * ei.size ≤ cs.length := by
                rw [c5, ← Nat.add_mul]
                exact Nat.mul_le_mul_right _ (by omega)
              refine .cl _ _ b (off + L.toNat * ei.size) arr T' fr hb (by simp; omega) (fun i x y hx hy => ?_) (fun i y hi' hy => ?_)
              · rw [List.getElem?_take] at hx
                split at hx
                · rw [List.getElem?_drop] at hx
                  exact hr _ x y hx (by rw [← Nat.add_assoc]; exact hy)
                · cases hx
              · simp only [List.length_take, List.length_drop] at hi'
                exact h1 (L.toNat * ei.size + i) y (by omega) (by rw [← Nat.add_assoc]; exact hy)
        · cases h
      · split at h
        · rename_i hc
          obtain ⟨c1, c2, c3⟩ := hc
          simp only [Option.some.injEq] at h
          subst h
          have := relV_v hu
          subst this
          refine ⟨_, hrun none 0 0 (Nat.le_refl _) (by omega) (by omega) (by omega) (by omega), ?_⟩
          subst c2
          simp
          exact .v _
        · cases h
      · rename_i s g
        cases he : st.heap s g with
        | none => simp [he] at h
        | some en =>
          cases en with
          | row e' sz' n es =>
            simp only [he] at h
            split at h
            · rename_i hc
              obtain ⟨c1, c2, c3, c4⟩ := hc
              simp only [Option.some.injEq] at h
              subst h
              obtain ⟨hlt, _, xs, ho, hcl⟩ := S.ent s g _ he
              have hrun3 : ∀ (p : Option Addr) (cap : Nat), n ≤ cap → ∃ q, (Instr.sliceAt T (.slice p n cap) (lo.map a.eval) (some (a.eval hi)) (some (a.eval mx))).run P w = .ok (.slice q (H.toNat - L.toNat) (M.toNat - L.toNat)) w := by
                intro p cap hcap
                have b1 : M ≤ (cap : Int) := by omega
                have b2 : L ≤ ((H.toNat : Nat) : Int) := by omega
                have b3 : 0 ≤ H := by omega
                have b4 : H ≤ ((M.toNat : Nat) : Int) := by omega
                have b5 : 0 ≤ M := by omega
                have b6 : max M 0 = M := by omega
                have b7 : max H 0 = H := by omega
                cases lo with
                | none =>
                  simp only [AV.v.injEq, Value.int.injEq] at e3
                  obtain ⟨rfl, rfl⟩ := e3
                  exact ⟨_, by simp [Instr.sliceAt, Instr.slice, Instr.sliceBounds, Instr.sliceBound, asIntOf, run_underlying' hT, run_sizeOf w hie, f1, f2, b3, b1, b4, b5, b6, b7, c3] <;> rfl⟩
                | some l =>
                  simp only at e3
                  have f3 := hop _ _ _ e3
                  exact ⟨_, by simp [Instr.sliceAt, Instr.slice, Instr.sliceBounds, Instr.sliceBound, asIntOf, run_underlying' hT, run_sizeOf w hie, f1, f2, f3, c1, c2, c3, b3, b1, b2, b4, b5, b6, b7] <;> rfl⟩
              cases hu with
              | own _ _ hg h1 =>
                show ∃ r, (Instr.sliceAt T (ρ s g) _ _ _).run P w = .ok r w ∧ _
                have hsl : ∃ p cap, ρ s g = .slice p n cap ∧ n ≤ cap := by
                  rcases ho.2 with ⟨p, hρ, hn⟩ | ⟨b', cap, cur, hρ, _, hh, hnc, _⟩
                  · exact ⟨p, 0, by rw [hρ, hn], by omega⟩
                  · exact ⟨_, cap, hρ, hnc⟩
                obtain ⟨p, cap, hρ, hnc⟩ := hsl
                rw [hρ]
                obtain ⟨q, hq⟩ := hrun3 p cap hnc
                exact ⟨_, hq, by rw [show (H - L).toNat = H.toNat - L.toNat by omega]; exact .sl0 _ _ _ (by omega)⟩
            · cases h
          | _ => simp [he] at h
      · cases h
    · cases h

theorem relV_ptr {C : Ctx} {s g off : Nat} {v : Value} (h : RelV C (.ptr s g off) v) : ∃ b off, v = .pointer (some ⟨b, off, none⟩) := by
  cases h; exact ⟨_, _, rfl⟩
theorem relV_ip {C : Ctx} {cs : List AV} {o : Nat} {v : Value} (h : RelV C (.ip cs o) v) : ∃ b off, v = .pointer (some ⟨b, off, none⟩) := by
  cases h; exact ⟨_, _, rfl⟩
theorem relV_tup {C : Ctx} {vs : List AV} {v : Value} (h : RelV C (.tup vs) v) : ∃ ar, v = .tuple ar ∧ vs.length = ar.size ∧ ∀ (i : Nat) (x : AV) (y : Value), vs[i]? = some x → ar[i]? = some y → RelV C x y := by
  cases h with
  | tup cs a hl hr => exact ⟨a, rfl, hl, hr⟩

theorem opVal_sound (S : Sim F h0 w0 nt ρ st a w) {o : Oper} {x : AV} (h : opVal P st o.op = some x) :
    ∃ v, (execOp a.eval o).run P w = .ok (.value v) w ∧ RelV (ctx h0 w0 ρ st w) x v := by
  cases hop : o.op with
  | move y => rw [hop] at h; simp [opVal] at h; subst h; exact ⟨_, by simp [execOp, hop], S.ev y⟩
  | assign y => rw [hop] at h; simp [opVal] at h; subst h; exact ⟨_, by simp [execOp, hop], S.ev y⟩
  | pick c y z =>
    rw [hop] at h
    simp only [opVal] at h
    split at h
    · rename_i t hc
      simp only [Option.some.injEq] at h
      subst h
      have := S.ev c
      rw [hc] at this
      have := relV_v this
      refine ⟨if t = true then a.eval y else a.eval z, by simp [execOp, hop, this, asBool], ?_⟩
      cases t
      · exact S.ev z
      · exact S.ev y
    · cases h
  | binOp op T y z yT =>
    rw [hop] at h
    simp only [opVal] at h
    obtain ⟨r, hr, hrel⟩ := binA_sound (w := w) y z h (S.ev y) (S.ev z)
    exact ⟨r, by simp only [execOp, hop]; rw [run_ok_bind hr]; rfl, hrel⟩
  | unOp op T y =>
    rw [hop] at h
    simp only [opVal] at h
    obtain ⟨r, hr, hrel⟩ := unA_sound (P := P) (w := w) h (S.ev y)
    exact ⟨r, by simp only [execOp, hop]; rw [run_ok_bind hr]; rfl, hrel⟩
  | convert src dst y =>
    rw [hop] at h
    simp only [opVal] at h
    split at h
    · rename_i k' n k ks hy hk hks
      simp only [Option.some.injEq] at h
      subst h
      have := S.ev y
      rw [hy] at this
      have hv := relV_v this
      have hu : ∀ {t : Nat} {k : IntKind}, intKind P t = some k → P.underlying t = some (.int k) := fun {t k} hk => by
        unfold intKind at hk
        split at hk
        · rename_i hu; cases hk; exact hu
        · cases hk
      refine ⟨_, ?_, .v _⟩
      simp [execOp, hop, hv, convert, run_underlying' (hu hk), run_underlying' (hu hks), Conv.intToInt]
    · cases h
  | nilCheck y =>
    rw [hop] at h
    simp only [opVal] at h
    split at h
    · rename_i s g off hy
      simp only [Option.some.injEq] at h
      subst h
      have hr := S.ev y
      rw [hy] at hr
      obtain ⟨b, off', hv⟩ := relV_ptr hr
      exact ⟨a.eval y, by simp [execOp, hop, hv], hr⟩
    · rename_i cs o hy
      simp only [Option.some.injEq] at h
      subst h
      have hr := S.ev y
      rw [hy] at hr
      obtain ⟨b, off', hv⟩ := relV_ip hr
      exact ⟨a.eval y, by simp [execOp, hop, hv], hr⟩
    · cases h
  | fieldAddr T y f =>
    rw [hop] at h
    simp only [opVal] at h
    split at h
    · rename_i k hf
      obtain ⟨r, hr, hrel⟩ := fieldAddr_sound (w := w) hf h (S.ev y)
      exact ⟨r, by simp only [execOp, hop]; rw [run_ok_bind hr]; rfl, hrel⟩
    · cases h
  | field T y f =>
    rw [hop] at h
    simp only [opVal] at h
    unfold fieldA at h
    split at h
    · rename_i cs hy
      have hr := S.ev y
      rw [hy] at hr
      obtain ⟨u, hu⟩ : ∃ u, a.eval y = u := ⟨_, rfl⟩
      rw [hu] at hr
      cases hr with
      | agg _ ar hl hrel h1 =>
        have key : ∀ off b k, fieldInfo P T f = some (off, b, k) → ∃ fs fd i d, P.underlying T = some (.struct fs) ∧ fs[f]? = some fd ∧ fd.offset = off ∧ P.info? fd.type = some i ∧ P.underlying fd.type = some d ∧ isAggT P fd.type = b ∧ i.size = k ∧ (b = true ∨ k = 1) := fun off b k hf => by
          unfold fieldInfo at hf
          split at hf
          · rename_i fs hT
            split at hf
            · rename_i fd hfd
              split at hf
              · rename_i b' k' hld
                split at hf
                · rename_i hc
                  simp only [Option.some.injEq, Prod.mk.injEq] at hf
                  obtain ⟨rfl, rfl, rfl⟩ := hf
                  obtain ⟨i, d, hi, hd, hagg, hk⟩ := ldInfo_spec hld
                  exact ⟨fs, fd, i, d, hT, hfd, rfl, hi, hd, hagg, hk, hc⟩
                · cases hf
              · cases hf
            · cases hf
          · cases hf
        split at h
        · rename_i off k hf
          obtain ⟨fs, fd, i, d, hT, hfd, rfl, hi, hd, hagg, rfl, _⟩ := key _ _ _ hf
          split at h
          · rename_i hle
            simp only [Option.some.injEq] at h
            subst h
            have hp := run_part w hd hi ar.toList fd.offset (by rw [hagg]; simp) (by simp; omega)
            rw [hagg] at hp
            simp only [mk, if_true, Array.toArray_toList] at hp
            refine ⟨_, by
              simp only [execOp, hop, hu]
              rw [run_ok_bind (show (Instr.field T (Value.agg ar) f).run P w = .ok _ w by
                simp only [Instr.field, Sem.run_bind, run_underlying' hT, Result.andThen_ok, hfd, asAgg, Sem.run_pure]
                exact hp)]
              rfl, .agg _ _ (by simp [hl]) (fun j x z hx hz => ?_) fun j z hz => ?_⟩
            · rw [List.getElem?_take] at hx
              split at hx
              · rename_i hj
                rw [List.getElem?_drop] at hx
                refine hrel _ x z hx ?_
                simpa [hj, List.getElem?_take, List.getElem?_drop] using hz
              · cases hx
            · have hz' : ar[fd.offset + j]? = some z := by
                simp only [List.getElem?_toArray, List.getElem?_take, List.getElem?_drop] at hz
                split at hz
                · simpa using hz
                · cases hz
              exact h1 _ z hz'
          · cases h
        · rename_i off k hf
          obtain ⟨fs, fd, i, d, hT, hfd, rfl, hi, hd, hagg, rfl, hk⟩ := key _ _ _ hf
          have hk1 : i.size = 1 := by simpa using hk
          have hlt : fd.offset < cs.length := (List.getElem?_eq_some_iff.1 h).1
          have hp := run_part w hd hi ar.toList fd.offset (fun _ => hk1) (by simp; omega)
          rw [hagg] at hp
          simp only [mk, Bool.false_eq_true, if_false, Array.toArray_toList] at hp
          refine ⟨_, by
            simp only [execOp, hop, hu]
            rw [run_ok_bind (show (Instr.field T (Value.agg ar) f).run P w = .ok _ w by
              simp only [Instr.field, Sem.run_bind, run_underlying' hT, Result.andThen_ok, hfd, asAgg, Sem.run_pure]
              exact hp)]
            rfl, ?_⟩
          refine hrel fd.offset x _ h ?_
          have : fd.offset < ar.size := by omega
          rw [hk1, List.take_one]
          simp [List.head?_drop, this]
        · cases h
    · cases h
  | indexAddr T y i =>
    rw [hop] at h
    simp only [opVal] at h
    obtain ⟨r, hr, hrel⟩ := indexAddr_sound S h (S.ev y) (S.ev i)
    exact ⟨r, by simp only [execOp, hop]; rw [run_ok_bind hr]; rfl, hrel⟩
  | load T y =>
    rw [hop] at h
    simp only [opVal] at h
    cases hra : readAt st (st.ev y) with
    | none => simp [hra, bnd] at h
    | some cs =>
      simp only [hra, bnd] at h
      obtain ⟨r, hr, hrel⟩ := load_sound S hra h (S.ev y)
      exact ⟨r, by simp only [execOp, hop]; rw [run_ok_bind hr]; rfl, hrel⟩
  | extract t i =>
    rw [hop] at h
    simp only [opVal] at h
    split at h
    · rename_i vs ht
      have hr := S.ev t
      rw [ht] at hr
      obtain ⟨ar, hv, hl, hrel⟩ := relV_tup hr
      have hi : i < vs.length := (List.getElem?_eq_some_iff.1 h).1
      have hi' : i < ar.size := by omega
      refine ⟨ar[i], ?_, hrel i x ar[i] h (by simp [hi'])⟩
      simp [execOp, hop, hv, Instr.extract, hi']
    · cases h
  | build T parts =>
    rw [hop] at h
    simp only [opVal] at h
    obtain ⟨r, hr, hrel⟩ := build_sound S h
    exact ⟨r, by simp only [execOp, hop]; rw [run_ok_bind hr]; rfl, hrel⟩
  | slice T y lo hi mx =>
    rw [hop] at h
    cases mx with
    | some m =>
      cases hi with
      | none => simp [opVal] at h
      | some hh =>
        simp only [opVal] at h
        obtain ⟨r, hr, hrel⟩ := slice3_sound S h (S.ev y)
        exact ⟨r, by simp only [execOp, hop, Option.map_some]; rw [run_ok_bind hr]; rfl, hrel⟩
    | none =>
      simp only [opVal] at h
      obtain ⟨r, hr, hrel⟩ := slice_sound S h (S.ev y)
      exact ⟨r, by simp only [execOp, hop, Option.map_none]; rw [run_ok_bind hr]; rfl, hrel⟩
  | lookup T y i ok =>
    rw [hop] at h
    simp only [opVal] at h
    obtain ⟨r, hr, hrel⟩ := look_sound S h (S.ev y) (S.ev i)
    exact ⟨r, by simp only [execOp, hop]; rw [run_ok_bind hr]; rfl, hrel⟩
  | makeFunc fn first captured =>
    rw [hop] at h
    cases fn with
    | func f =>
      simp only [opVal] at h
      split at h
      · rename_i hf
        subst hf
        simp only [Option.some.injEq] at h
        subst h
        have hrel : RelL (ctx h0 w0 ρ st w) (captured.toList.map st.ev) (captured.toList.map a.eval) := RelL.map _ _ _ fun p _ => S.ev p
        refine ⟨.func (.func f) #[] (captured.map a.eval), ?_, .clo f _ _ (by simp) fun i x y hx hy => hrel.rel i x y hx (by simpa using hy)⟩
        simp [execOp, hop, Instr.makeFunc]
      · cases h
    | _ => simp [opVal] at h
  | _ => rw [hop] at h; simp [opVal] at h
end
end Go.Ab
