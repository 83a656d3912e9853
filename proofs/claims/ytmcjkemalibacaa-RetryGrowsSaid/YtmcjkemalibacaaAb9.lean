/-
  Part Ab9 of the proof: an evaluator of the programs written in Lean once, and its soundness.
-/
import Derived.Test.YtmcjkemalibacaaAb8
set_option linter.all false
namespace Go.Ab
open Classical

section
variable {P : Program} {h0 : Nat → Obj → Prop} {w0 : World} {F : Frm} {nt : Nat} {ρ : Nat → Nat → Value} {st : St} {a : Act} {w : World} {K : Act → World → Prop} {Q : Exit → Act → World → Prop}

theorem upon_value {o : Oper} {v : Value} {w' : World} (h : (execOp a.eval o).run P w = .ok (.value v) w') (hk : K (a.put o.dst v) w') : o.wp P a w K Q := by
  unfold Oper.wp; rw [h]; exact hk

theorem heap_alloc_get (w : World) (o : Obj) : (w.alloc o).heap[w.heap.size]? = some o := heap_alloc_new w o

/-- A new variable. -/
theorem Sim.newVar (S : Sim F h0 w0 nt ρ st a w) (d : Nat) (hd : d < nt) (cs : List AV) (arr : Array Value) (T : Nat) (hc : CellL (ctx h0 w0 ρ st w) cs arr.toList) :
    ∃ ρ', Sim F h0 w0 nt ρ' ((st.new d (.cells cs)).put (some d) (.ptr d (st.cnt d) 0)) (a.put (some d) (.pointer (some ⟨w.heap.size, 0, none⟩))) (w.alloc (.cells arr T)) := by
  obtain ⟨S', k, hnew⟩ := S.new (World.grownBy_alloc w (.cells arr T) none) d (.cells cs) (.pointer (some ⟨w.heap.size, 0, none⟩)) rfl (fun b hb => by simp [blkOf] at hb; omega)
    (fun C k _ => ⟨w.heap.size, arr, T, rfl, S.ext.size, heap_alloc_new w _, hc.le k⟩)
  exact ⟨_, S'.put (some d) (fun t ht => by cases ht; exact hd) (.ptr d (st.cnt d) 0 w.heap.size (by simp [ctx, St.new]) (by show blkOf (upρ _ _ _ _ _ _) = _; rw [hnew]; rfl))⟩

/-- A new slice. -/
theorem Sim.newRow (S : Sim F h0 w0 nt ρ st a w) (d : Nat) (hd : d < nt) {w' : World} (hg : w.grownBy w' none) (e sz n : Nat) (cs : List AV) (xs : List Value) (v : Value) (ho : ownsR w' w.heap.size e sz v n xs) (hc : CellL (ctx h0 w0 ρ st w) cs xs) :
    ∃ ρ', Sim F h0 w0 nt ρ' ((st.new d (.row e sz n cs)).put (some d) (.own d (st.cnt d))) (a.put (some d) v) w' := by
  obtain ⟨S', k, hnew⟩ := S.new hg d (.row e sz n cs) v (ownsR_one ho) (fun b hb => (ownsR_blk ho b hb).1) (fun C k _ => ⟨xs, ownsR_base ho S.ext.size, hc.le k⟩)
  refine ⟨_, S'.put (some d) (fun t ht => by cases ht; exact hd) ?_⟩
  have hlt : st.cnt d < (ctx h0 w0 (upρ ρ d (st.cnt d) v) (st.new d (.row e sz n cs)) w').cnt d := by simp [ctx, St.new]
  have hρ : (ctx h0 w0 (upρ ρ d (st.cnt d) v) (st.new d (.row e sz n cs)) w').ρ d (st.cnt d) = v := hnew
  have := RelV.own (C := ctx h0 w0 (upρ ρ d (st.cnt d) v) (st.new d (.row e sz n cs)) w') d (st.cnt d) hlt (by rw [hρ]; exact ownsR_one ho)
  rw [hρ] at this
  exact this

theorem modc_toList (z : Array Value) (n : Nat) : ((Array.range (n * z.size)).map (z[· % z.size]!)).toList = (List.range n).flatMap fun _ => z.toList := by
  rw [Array.toList_map]
  have : (Array.range (n * z.size)).toList = List.range (n * z.size) := by simp
  rw [this]
  clear this
  induction n with
  | zero => simp
  | succ n ih =>
    rw [Nat.succ_mul, List.range_add, List.map_append, ih, List.range_succ, List.flatMap_append]
    congr 1
    simp only [List.flatMap_cons, List.flatMap_nil, List.append_nil, List.map_map]
    apply List.ext_getElem?
    intro i
    by_cases hi : i < z.size
    · simp [hi, Nat.mod_eq_of_lt hi, Nat.mul_comm n z.size]
    · simp [hi]

theorem cellL_rep {C : Ctx} {z : List Value} (h1 : ∀ y ∈ z, y.oneCell' = true) (n : Nat) : CellL C ((List.range n).flatMap fun _ => z.map .v) ((List.range n).flatMap fun _ => z) := by
  generalize List.range n = l
  induction l with
  | nil => exact .nil C
  | cons x l ih => simp only [List.flatMap_cons]; exact (CellL.vs C z h1).app ih

theorem buildSlice_sound (S : Sim F h0 w0 nt ρ st a w) {T n e sz by_ : Nat} {parts : Array (Nat × Operand)} {z : List Value} {cs : List AV} (hs : slInfo P T = some (e, sz, by_)) (hz : zeroL P e = some z)
    (hn : 0 < n ∨ parts = #[]) (hlim : n * sz ≤ 2 ^ 24) (hst : (parts.toList.all fun p => (st.ev p.2).stor) = true)
    (hf : fillA (fun i => some (i * sz, sz)) ((List.range n).flatMap fun _ => z.map .v) (parts.toList.map fun p => (p.1, st.ev p.2)) = some cs) :
    ∃ v w' xs, (Instr.buildSlice T n (parts.map fun (i, x) => (i, a.eval x))).run P w = .ok v w' ∧ w.grownBy w' none ∧ ownsR w' w.heap.size e sz v n xs ∧ CellL (ctx h0 w0 ρ st w) cs xs := by
  obtain ⟨ei, ez, hT, hie, hz0, rfl, hzs, rfl, hpos⟩ := slInfo_spec hs
  obtain ⟨i', zv, hi', hzz, rfl, hz1⟩ := zeroL_spec hz
  rw [hie] at hi'
  cases hi'
  rw [hz0] at hzz
  cases hzz
  rcases Nat.eq_zero_or_pos n with h0' | hn
  · subst h0'
    have hp : parts = #[] := by
      rcases hn with h | h
      · omega
      · exact h
    subst hp
    simp [fillA] at hf
    subst hf
    refine ⟨.slice (some ⟨w.heap.size, 0, none⟩) 0 0, w.alloc (.cells #[] e), [], ?_, World.grownBy_alloc w _ none, ⟨by simp, .inl ⟨_, rfl, rfl⟩⟩, .nil _⟩
    simp [Instr.buildSlice, run_underlying hT, sizeOf, typeInfo, zeroValue, hie, Instr.fill, newRow]
    rw [show Array.map (fun x => (default : Value)) (Array.range 0) = #[] from by simp [Array.range]]
  have hrel : RelL (ctx h0 w0 ρ st w) ((parts.toList.map fun p => (p.1, st.ev p.2)).map (·.2)) ((parts.toList.map fun p => (p.1, a.eval p.2)).map (·.2)) := by
    simp only [List.map_map]
    exact RelL.map _ _ _ fun p _ => S.ev p.2
  have hnz : ¬ n * ei.size = 0 := by
    have := Nat.mul_pos hn hpos
    omega
  have hmod : ((Array.range (n * ei.size)).map (ez.cells[· % ez.cells.size]!)).toList = (List.range n).flatMap fun _ => ez.cells.toList := by
    rw [← hzs]
    exact modc_toList ez.cells n
  obtain ⟨cells, hfill, hcell⟩ := fill_sound (place := fun i => some (i * ei.size, ei.size)) (parts.toList.map fun p => (p.1, st.ev p.2)) (parts.toList.map fun p => (p.1, a.eval p.2)) _ ((Array.range (n * ei.size)).map (ez.cells[· % ez.cells.size]!)) cs (by simp) hrel
    (fun p hp' => by
      obtain ⟨q, hq, rfl⟩ := List.mem_map.1 hp'
      exact List.all_eq_true.1 hst q hq) (by rw [hmod]; exact cellL_rep hz1 n) hf
  have hr := run_buildSlice (P := P) w T e n (parts.map fun (i, x) => (i, a.eval x)) cells ei ez hT hie hz0 (by omega) hnz (by simpa using hfill)
  have hsz : cells.size = n * ei.size := by
    have hlen : ∀ (place : Nat → Option (Nat × Nat)) (ps : List (Nat × AV)) (c out : List AV), fillA place c ps = some out → out.length = c.length := by
      intro place ps
      induction ps with
      | nil => intro c out h; simp [fillA] at h; rw [h]
      | cons p ps ih =>
        intro c out h
        obtain ⟨i, x⟩ := p
        unfold fillA at h
        split at h
        · cases h
        · split at h
          · rename_i hc
            have := ih _ _ h
            rw [this]
            simp
            omega
          · cases h
    have h1 := hlen _ _ _ _ hf
    have h2 := hcell.len
    have h3 := (cellL_rep (C := ctx h0 w0 ρ st w) hz1 n).len
    rw [← hmod] at h3
    simp only [Array.length_toList, Array.size_map, Array.size_range] at h2 h3
    omega
  refine ⟨_, _, cells.toList, hr, World.grownBy_alloc w _ none, ownsR_of ?_, hcell⟩
  refine ⟨by simp [hsz], .inr ⟨w.heap.size, n, cells, rfl, Nat.le_refl _, heap_alloc_new w _, Nat.le_refl _, ?_, hsz, ?_⟩⟩
  · have : n ≤ n * ei.size := Nat.le_mul_of_pos_right n hpos
    simp only [maxLen]
    omega
  · rw [← hsz, ← Array.length_toList, List.take_length]

theorem makeSlice_sound (C : Ctx) {T e sz by_ : Nat} {z : List Value} {n : Nat} (hs : slInfo P T = some (e, sz, by_)) (hz : zeroL P e = some z)
    (hb : n * by_ ≤ 140737488355328) (hm : n ≤ maxLen) :
    ∃ v w' xs, (Instr.makeSlice T (.int .i64 n) (.int .i64 n)).run P w = .ok v w' ∧ w.grownBy w' none ∧ ownsR w' w.heap.size e sz v n xs ∧ CellL C ((List.range n).flatMap fun _ => z.map .v) xs := by
  obtain ⟨ei, ez, hT, hie, hz0, rfl, hzs, rfl, hpos⟩ := slInfo_spec hs
  obtain ⟨i', zv, hi', hzz, rfl, hz1⟩ := zeroL_spec hz
  rw [hie] at hi'
  cases hi'
  rw [hz0] at hzz
  cases hzz
  obtain ⟨w', hr, ho, hg⟩ := run_make_full (P := P) w w.heap.size T e ei ez ei.size hT hie hz0 rfl .i64 .i64 n (by rw [Nat.mul_comm]; omega) hm (Nat.le_refl _)
  have hmod : (madeCells ez.cells (n * ei.size)).toList = (List.range n).flatMap fun _ => ez.cells.toList := by
    unfold madeCells
    rw [← hzs]
    exact modc_toList ez.cells n
  exact ⟨_, w', _, hr, hg, ownsR_of ho, by rw [hmod]; exact cellL_rep hz1 n⟩

theorem store_sound (S : Sim F h0 w0 nt ρ st a w) {T : Nat} {x y : AV} {s g : Nat} {e : Ent} {u v : Value} (h : storeA P st T x y = some (s, g, e)) (hu : RelV (ctx h0 w0 ρ st w) x u) (hv : RelV (ctx h0 w0 ρ st w) y v) :
    ∃ w', (Instr.storeAt T u v).run P w = .ok () w' ∧ Sim F h0 w0 nt ρ (st.setH s g (some e)) a w' := by
  unfold storeA at h
  split at h
  · rename_i s' g' off
    split at h
    · rename_i ba k hld
      split at h
      · rename_i hc
        obtain ⟨c1, c2⟩ := hc
        obtain ⟨i, d, hi, hd, hagg, rfl⟩ := ldInfo_spec hld
        have hcells := hv.cells c2
        have hlen := hcells.len
        simp only [Array.length_toList] at hlen
        cases hu with
        | ptr _ _ _ b hg hb =>
          have hb' : blkOf (ρ s' g') = some b := hb
          have main : ∀ (arr : Array Value) (B : Nat), w.heap[b]? = some (.cells arr B (0, 0)) → off + i.size ≤ arr.size →
              (Instr.storeAt T (.pointer (some ⟨b, off, none⟩)) v).run P w = .ok () (w.setRow b (arr.toList.take off ++ v.cells.toList ++ arr.toList.drop (off + i.size)).toArray) := by
            intro arr B hh hle
            have hst := run_storeCells_at P b off B v.cells.toList 0 arr w hh (by simp; omega) (fun y hy => by
              obtain ⟨j, hj, rfl⟩ := List.getElem_of_mem hy
              exact hcells.one j _ (by simp))
            simp only [Nat.add_zero, Array.length_toList] at hst
            simp only [Instr.storeAt, Instr.sureAddr]
            rw [run_ok_bind (Sem.run_pure P w _)]
            simp only [storeVar, run_ok_bind (run_sizeOf w hi)]
            rw [if_neg (by omega), show off + i.size = off + v.cells.size by omega]
            exact hst
          have grown : ∀ (cs : Array Value), w.grownBy (w.setRow b cs) (some b) := fun cs => ⟨rfl, rfl, rfl, by simp, fun k _ hk => setRow_other w b k cs (fun e => hk (by rw [e]))⟩
          cases he : st.heap s' g' with
          | none => simp [he] at h
          | some e' =>
            obtain ⟨_, _, her⟩ := S.ent s' g' _ he
            cases e' with
            | cells cs =>
              simp only [he] at h
              split at h
              · rename_i hle
                simp only [Option.some.injEq, Prod.mk.injEq] at h
                obtain ⟨rfl, rfl, rfl⟩ := h
                obtain ⟨b', arr, B, hρ, hbase, hh, hc⟩ := her
                have hbb : b' = b := by rw [hρ] at hb'; simpa [blkOf] using hb'
                subst hbb
                have hl := hc.len
                simp only [Array.length_toList] at hl
                refine ⟨_, main arr B hh (by omega), S.store he hb' (grown _) fun C k => ⟨b', _, B, hρ, hbase, setRow_heap w b' arr _ B (0, 0) hh, ?_⟩⟩
                exact (((hc.take off).app hcells).app (hc.drop _)).le k
              · cases h
            | row e2 sz n cs =>
              simp only [he] at h
              split at h
              · rename_i hle
                simp only [Option.some.injEq, Prod.mk.injEq] at h
                obtain ⟨rfl, rfl, rfl⟩ := h
                obtain ⟨xs, ho, hc⟩ := her
                have ho' := ho
                rcases ho.2 with ⟨p, hρ, _⟩ | ⟨b', cap, cur, hρ, hbase, hh, hnc, hcm, hcs, ht, hc0⟩
                · rw [hρ, blkOf_sl0] at hb'; cases hb'
                · have hbb : b' = b := by rw [hρ, blkOf_sl hc0] at hb'; simpa using hb'
                  subst hbb
                  have hl := hc.len
                  have hx := ho.1
                  have hle2 : n * sz ≤ cap * sz := Nat.mul_le_mul_right _ hnc
                  refine ⟨_, main cur e2 hh (by omega), S.store he hb' (grown _) fun C k => ⟨xs.take off ++ v.cells.toList ++ xs.drop (off + i.size), ?_, (((hc.take off).app hcells).app (hc.drop _)).le k⟩⟩
                  refine ⟨by simp; omega, .inr ⟨b', cap, _, hρ, hbase, setRow_heap w b' cur _ e2 (0, 0) hh, hnc, hcm, by simp; omega, ?_, hc0⟩⟩
                  simp only
                  rw [← ht]
                  have hcl : cur.toList.length = cur.size := rfl
                  have hvl : v.cells.toList.length = v.cells.size := rfl
                  have l1 : (cur.toList.take off ++ v.cells.toList).length = off + i.size := by simp; omega
                  rw [List.take_append, l1, List.take_of_length_le (by omega), List.drop_take, List.take_take, Nat.min_eq_left (by omega)]
              · cases h
            | map es => simp [he] at h
      · cases h
    · cases h
  · cases h
end
end Go.Ab
