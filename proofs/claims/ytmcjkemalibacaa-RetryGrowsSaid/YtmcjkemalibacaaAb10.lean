/-
  Part Ab10 of the proof: an evaluator of the programs written in Lean once, and its soundness.
-/
import Derived.Test.YtmcjkemalibacaaAb9
import Derived.Deep.Upon
set_option linter.all false
namespace Go.Ab
open Classical

section
variable {P : Program} {h0 : Nat → Obj → Prop} {w0 : World} {F : Frm} {nt : Nat} {ρ : Nat → Nat → Value} {st : St} {a : Act} {w : World} {K : Act → World → Prop} {Q : Exit → Act → World → Prop}

/-- An append, run: the slice that it leaves lies where the old one lay, or in a new block. -/
theorem append_run {base T ty e : Nat} {ei : TypeInfo} {ez : Value} (hT : P.underlying T = some (.slice e)) (hie : P.info? e = some ei) (hz0 : ei.zero = some ez) (hzs : ez.cells.size = ei.size) (hpos : 0 < ei.size)
    (hbase : base ≤ w.heap.size) {v : Value} {n : Nat} {xs : List Value} (hown : ownsR w base e ei.size v n xs)
    {p : Option Addr} {m c : Nat} {news : List Value} (hl : news.length = m * ei.size) (hsrc : news ≠ [] → ∃ ad, p = some ad ∧ ∀ (j : Nat) (u : Value), news[j]? = some u → w.cell? (ad.add j) = some u)
    (h1 : ∀ u ∈ news, u.oneCell' = true) (h63 : n + m ≤ maxLen) (hb : (n + m) * ei.bytes ≤ 140737488355328) :
    ∃ v' w', (Builtin.append_ #[T, T] ty #[v, .slice p m c]).run P w = .ok v' w' ∧ ownsR w' base e ei.size v' (n + m) (xs ++ news) ∧ w.grownBy w' (blkOf v) ∧ (∀ b, blkOf v' = some b → blkOf v = some b ∨ w.heap.size ≤ b) := by
  by_cases hm : m = 0
  · subst hm
    have hn : news = [] := List.eq_nil_of_length_eq_zero (by simpa using hl)
    subst hn
    refine ⟨v, w, ?_, by simpa using hown, ⟨rfl, rfl, rfl, Nat.le_refl _, fun _ _ _ => rfl⟩, fun b hb => .inl hb⟩
    have hfc : ∀ (x : Value), (∃ p, x = .slice p 0 c) → (Builtin.firstCells ei.size 0 x).run P w = .ok #[] w := by
      rintro x ⟨p, rfl⟩
      cases p <;> simp [Builtin.firstCells, loadCells, loadCellsFrom]
    rcases hown.2 with ⟨q, rfl, rfl⟩ | ⟨g, cap, cur, rfl, _, _, hnc, _⟩
    · cases q <;> simp [Builtin.append_, run_underlying' hT, run_sizeOf w hie, Builtin.lenOf, hfc _ ⟨p, rfl⟩, storeCells]
    · simp [Builtin.append_, run_underlying' hT, run_sizeOf w hie, Builtin.lenOf, hfc _ ⟨p, rfl⟩, hnc, storeCells]
  · have hne : news ≠ [] := by
      intro h
      subst h
      have : 0 < m * ei.size := Nat.mul_pos (by omega) hpos
      simp at hl
      omega
    obtain ⟨ad, rfl, hnews⟩ := hsrc hne
    have hlen : (xs ++ news).length = (n + m) * ei.size := by rw [List.length_append, hown.1, hl, Nat.add_mul]
    have grow : ∀ (ga : Addr) (cap : Nat), cap < n + m → (∀ (j : Nat) (u : Value), xs[j]? = some u → w.cell? (ga.add j) = some u) → ∃ v' w', (Builtin.append_ #[T, T] ty #[.slice (some ga) n cap, .slice (some ad) m c]).run P w = .ok v' w' ∧
        ownsR w' base e ei.size v' (n + m) (xs ++ news) ∧ w.grownBy w' none ∧ ∀ b, blkOf v' = some b → w.heap.size ≤ b := by
      intro ga cap hroom holds
      have hr := run_append_grow (P := P) w T ty e ei ez hT hie hz0 ga n cap xs hown.1 holds ad m c news hl hnews (by omega) (by simp only [maxLen] at h63; omega) (growslice_fits (by omega) hb)
      have hge := grownCap_ge w (n + m) cap e
      have hcm' := grownCap_le_maxLen w (n + m) cap e h63
      refine ⟨_, _, hr, ⟨hlen, .inr ⟨w.heap.size, _, _, rfl, hbase, heap_alloc_new w.drew _, hge, hcm', ?_, ?_, by omega⟩⟩, ⟨rfl, rfl, rfl, by simp, fun k hk _ => heap_alloc_old w.drew _ hk⟩, fun b hb => ?_⟩
      · simp only [Array.size_append, List.size_toArray, size_zeroCells, hzs, hown.1, hl, ← Nat.add_mul]
        congr 1
        omega
      · simp only [Array.toList_append, List.append_assoc]
        rw [← List.append_assoc, ← hlen]
        exact List.take_left
      · rw [blkOf_sl (by omega)] at hb
        simp at hb
        omega
    rcases hown.2 with ⟨q, rfl, rfl⟩ | ⟨g, cap, cur, rfl, hbg, hg, hnc, hcm, hcs, htake, hc0⟩
    · have hx : xs = [] := List.eq_nil_of_length_eq_zero (by simpa using hown.1)
      cases q with
      | none =>
        subst hx
        obtain ⟨v', w', hr, ho, hgr, _⟩ := run_append_own (P := P) w w.heap.size T ty e ei ez ei.size ei.bytes hT hie hz0 rfl rfl hzs hpos (.slice none 0 0) 0 [] (World.ownsRow_nil w _ e ei.size)
          ad m c news hl hnews h1 (by simpa using h63) (by simpa using hb) (Nat.le_refl _)
        exact ⟨v', w', hr, ownsR_base (ownsR_of ho) hbase, hgr, fun b hb => .inr ((ownsR_blk (ownsR_of ho) b hb).1)⟩
      | some ga =>
        obtain ⟨v', w', hr, ho, hgr, hb'⟩ := grow ga 0 (by omega) (by rw [hx]; simp)
        exact ⟨v', w', hr, ho, by rw [blkOf_sl0]; exact hgr, fun b hb => .inr (hb' b hb)⟩
    · by_cases hroom : n + m ≤ cap
      · have hfit : n * ei.size + news.length ≤ cur.size := by rw [hl, hcs, ← Nat.add_mul]; exact Nat.mul_le_mul_right _ hroom
        have hr := run_append_room (P := P) w T ty e ei hT hie g n cap cur hg ad m c news hl hnews h1 hroom hfit
        refine ⟨_, _, hr, ⟨hlen, .inr ⟨g, cap, _, rfl, hbg, setRow_heap w g cur _ e _ hg, hroom, hcm, ?_, ?_, hc0⟩⟩, ⟨rfl, rfl, rfl, by simp, fun k _ hk => setRow_other w g k _ (fun e => hk (by rw [blkOf_sl hc0, e]))⟩, fun b hb => .inl (by rw [blkOf_sl hc0] at hb ⊢; exact hb)⟩
        · simp only [List.size_toArray, List.length_append, List.length_take, List.length_drop, Array.length_toList]
          omega
        · rw [htake, ← hlen]
          exact List.take_left
      · have holds : ∀ (j : Nat) (u : Value), xs[j]? = some u → w.cell? ((⟨g, 0, none⟩ : Addr).add j) = some u := fun j u hu => by
          rw [addr_add, Nat.zero_add, cell_of_row w g j cur e (0, 0) hg]
          rw [← htake, List.getElem?_take] at hu
          split at hu
          · simpa using hu
          · cases hu
        obtain ⟨v', w', hr, ho, hgr, hb'⟩ := grow ⟨g, 0, none⟩ cap (by omega) holds
        exact ⟨v', w', hr, ho, ⟨hgr.os, hgr.tape, hgr.output, hgr.size, fun k hk _ => hgr.block k hk (by simp)⟩, fun b hb => .inr (hb' b hb)⟩

theorem apply_one (dst : Option Nat) (v : AV) (d : Nat) (x : Ent) : Eff.apply { dst := dst, val := v, new := some (d, [x]) } st = (st.new d x).put dst v := by
  simp only [Eff.apply, news_one]
theorem apply_two (dst : Option Nat) (v : AV) (s g d : Nat) (z : Option Ent) (x : Ent) : Eff.apply { dst := dst, val := v, upd := some (s, g, z), new := some (d, [x]) } st = ((st.setH s g z).new d x).put dst v := by
  simp only [Eff.apply, news_one]

theorem append_sound (S : Sim F h0 w0 nt ρ st a w) {T ty d : Nat} {s x : AV} {u : Option (Nat × Nat)} {r : Ent} {sv xv : Value} (hd : d < nt) (h : appendA P st T s x = some (u, r))
    (hs : RelV (ctx h0 w0 ρ st w) s sv) (hx : RelV (ctx h0 w0 ρ st w) x xv) :
    ∃ v w' ρ', (Builtin.append_ #[T, T] ty #[sv, xv]).run P w = .ok v w' ∧
      Sim F h0 w0 nt ρ' (Eff.apply { dst := some d, val := .own d (st.cnt d), upd := u.map fun p => (p.1, p.2, none), new := some (d, [r]) } st) (a.put (some d) v) w' := by
  unfold appendA at h
  cases hsl : slInfo P T with
  | none => simp [hsl] at h
  | some t =>
    obtain ⟨e, sz, by_⟩ := t
    simp only [hsl] at h
    obtain ⟨ei, ez, hT, hie, hz0, rfl, hzs, rfl, hpos⟩ := slInfo_spec hsl
    cases hv : sliceView st x with
    | none => simp [hv] at h
    | some mn =>
      obtain ⟨m, news⟩ := mn
      simp only [hv] at h
      split at h
      · rename_i hlen
        obtain ⟨p, c, rfl, hsrc⟩ := sliceView_sound S hv hx
        -- the source's cells
        have hsrc' : ∃ nv : List Value, CellL (ctx h0 w0 ρ st w) news nv ∧ (nv ≠ [] → ∃ ad, p = some ad ∧ ∀ (j : Nat) (u : Value), nv[j]? = some u → w.cell? (ad.add j) = some u) := by
          by_cases hne : news = []
          · subst hne; exact ⟨[], .nil _, fun h => absurd rfl h⟩
          · obtain ⟨b, off, arr, T', fr, hp, hb, hc⟩ := hsrc hne
            refine ⟨_, hc, fun _ => ⟨_, hp, fun j u hu => ?_⟩⟩
            rw [addr_add, cell_of_row w b (off + j) arr T' fr hb]
            rw [List.getElem?_take] at hu
            split at hu
            · rw [List.getElem?_drop] at hu
              simpa using hu
            · cases hu
        obtain ⟨nv, hnc, hcell⟩ := hsrc'
        have hnl : nv.length = m * ei.size := by rw [← hnc.len, hlen]
        have hn1 : ∀ u ∈ nv, u.oneCell' = true := fun u hu => by
          obtain ⟨j, hj, rfl⟩ := List.getElem_of_mem hu
          exact hnc.one j _ (by simp)
        split at h
        · split at h
          · rename_i hc
            simp only [Option.some.injEq, Prod.mk.injEq] at h
            obtain ⟨rfl, rfl⟩ := h
            have := relV_v hs
            subst this
            obtain ⟨v', w', hr, ho, hg, hfr⟩ := append_run (P := P) (w := w) (base := w.heap.size) (ty := ty) hT hie hz0 hzs hpos (Nat.le_refl _) (ownsR_of (World.ownsRow_nil w _ e ei.size)) (p := p) (c := c) hnl hcell hn1 (by simpa using hc.2) (by simpa using hc.1)
            simp only [Nat.zero_add, List.nil_append] at ho
            obtain ⟨ρ', S'⟩ := S.newRow d hd hg e ei.size m news nv v' ho hnc
            exact ⟨v', w', ρ', hr, by rw [Option.map_none, apply_one]; exact S'⟩
          · cases h
        · rename_i s' g'
          cases he : st.heap s' g' with
          | none => simp [he] at h
          | some e' =>
            cases e' with
            | row e2 sz2 n cs =>
              simp only [he] at h
              split at h
              · rename_i hc
                obtain ⟨rfl, rfl, hb, h63⟩ := hc
                simp only [Option.some.injEq, Prod.mk.injEq] at h
                obtain ⟨rfl, rfl⟩ := h
                obtain ⟨_, _, xs, ho, hcs⟩ := S.ent s' g' _ he
                cases hs with
                | own _ _ hg1 ho1 =>
                  obtain ⟨v', w', hr, ho', hg, hfr⟩ := append_run (P := P) (w := w) (ty := ty) hT hie hz0 hzs hpos S.ext.size ho (p := p) (c := c) hnl hcell hn1 h63 hb
                  obtain ⟨S', k, hnew⟩ := S.regrow he hg d (.row e2 ei.size (n + m) (cs ++ news)) v' (ownsR_one ho') hfr (fun C k => ⟨xs ++ nv, ho', (hcs.app hnc).le k⟩)
                  have hlt : st.cnt d < (ctx h0 w0 (upρ ρ d (st.cnt d) v') ((st.setH s' g' none).new d (.row e2 ei.size (n + m) (cs ++ news))) w').cnt d := by simp [ctx, St.new, St.setH]
                  have hρ : (ctx h0 w0 (upρ ρ d (st.cnt d) v') ((st.setH s' g' none).new d (.row e2 ei.size (n + m) (cs ++ news))) w').ρ d (st.cnt d) = v' := hnew
                  have := RelV.own (C := ctx h0 w0 (upρ ρ d (st.cnt d) v') ((st.setH s' g' none).new d (.row e2 ei.size (n + m) (cs ++ news))) w') d (st.cnt d) hlt (by rw [hρ]; exact ownsR_one ho')
                  rw [hρ] at this
                  have hS := S'.put (some d) (fun t ht => by cases ht; exact hd) this
                  exact ⟨v', w', _, hr, by rw [Option.map_some, apply_two]; exact hS⟩
              · cases h
            | _ => simp [he] at h
        · rename_i n cs
          split at h
          · rename_i hc
            obtain ⟨c1, c2, c3, c4⟩ := hc
            simp only [Option.some.injEq, Prod.mk.injEq] at h
            obtain ⟨rfl, rfl⟩ := h
            have main : ∀ (q : Option Addr) (ys : List Value), sv = .slice q n n → CellL (ctx h0 w0 ρ st w) cs ys → (ys ≠ [] → ∃ ad, q = some ad ∧ ∀ (j : Nat) (u : Value), ys[j]? = some u → w.cell? (ad.add j) = some u) →
                ∃ v' w', (Builtin.append_ #[T, T] ty #[sv, .slice p m c]).run P w = .ok v' w' ∧ ownsR w' w.heap.size e ei.size v' (n + m) (ys ++ nv) ∧ w.grownBy w' none := by
              rintro q ys rfl hys hcell'
              have hyl : ys.length = n * ei.size := by rw [← hys.len, c1]
              by_cases hm : m = 0
              · have hn0 : n = 0 := by omega
                subst hm; subst hn0
                have hy0 : ys = [] := List.eq_nil_of_length_eq_zero (by simpa using hyl)
                have hn0 : nv = [] := List.eq_nil_of_length_eq_zero (by simpa using hnl)
                subst hy0; subst hn0
                obtain ⟨v', w', hr, ho, hg, _⟩ := append_run (P := P) (w := w) (base := w.heap.size) (ty := ty) (v := .slice q 0 0) (n := 0) (xs := []) hT hie hz0 hzs hpos (Nat.le_refl _) ⟨by simp, .inl ⟨q, rfl, rfl⟩⟩ (p := p) (c := c) hnl hcell (by simp) c4 c3
                rw [blkOf_sl0] at hg
                exact ⟨v', w', hr, ho, hg⟩
              · have hne : nv ≠ [] := by
                  intro h
                  rw [h] at hnl
                  have : 0 < m * ei.size := Nat.mul_pos (by omega) hpos
                  simp at hnl
                  omega
                obtain ⟨ad, rfl, hnews⟩ := hcell hne
                have hlen' : (ys ++ nv).length = (n + m) * ei.size := by rw [List.length_append, hyl, hnl, Nat.add_mul]
                cases q with
                | none =>
                  have hy0 : ys = [] := by
                    by_cases h : ys = []
                    · exact h
                    · obtain ⟨ad, h1, _⟩ := hcell' h
                      cases h1
                  subst hy0
                  have hn0 : n = 0 := by
                    rcases Nat.eq_zero_or_pos n with h | h
                    · exact h
                    · have := Nat.mul_pos h hpos
                      simp at hyl
                      omega
                  subst hn0
                  obtain ⟨v', w', hr, ho, hg, _⟩ := append_run (P := P) (w := w) (base := w.heap.size) (ty := ty) (v := .slice none 0 0) (n := 0) (xs := []) hT hie hz0 hzs hpos (Nat.le_refl _) ⟨by simp, .inl ⟨none, rfl, rfl⟩⟩ (p := some ad) (c := c) hnl hcell hn1 c4 c3
                  rw [blkOf_sl0] at hg
                  exact ⟨v', w', hr, ho, hg⟩
                | some ga =>
                  have holds : ∀ (j : Nat) (u : Value), ys[j]? = some u → w.cell? (ga.add j) = some u := fun j u hu => by
                    have hne' : ys ≠ [] := by intro h; rw [h] at hu; simp at hu
                    obtain ⟨ad', h1, h2⟩ := hcell' hne'
                    cases h1
                    exact h2 j u hu
                  have hr := run_append_grow (P := P) w T ty e ei ez hT hie hz0 ga n n ys hyl holds ad m c nv hnl hnews (by omega) (by simp only [maxLen] at c4; omega) (growslice_fits (by omega) c3)
                  have hge := grownCap_ge w (n + m) n e
                  have hcm' := grownCap_le_maxLen w (n + m) n e c4
                  refine ⟨_, _, hr, ⟨hlen', .inr ⟨w.heap.size, _, _, rfl, Nat.le_refl _, heap_alloc_new w.drew _, hge, hcm', ?_, ?_, by omega⟩⟩, ⟨rfl, rfl, rfl, by simp, fun k hk _ => heap_alloc_old w.drew _ hk⟩⟩
                  · simp only [Array.size_append, List.size_toArray, size_zeroCells, hzs, hyl, hnl, ← Nat.add_mul]
                    congr 1
                    omega
                  · simp only [Array.toList_append, List.append_assoc]
                    rw [← List.append_assoc, ← hlen']
                    exact List.take_left
            have fin : ∀ (ys : List Value), CellL (ctx h0 w0 ρ st w) cs ys → (∃ v' w', (Builtin.append_ #[T, T] ty #[sv, .slice p m c]).run P w = .ok v' w' ∧ ownsR w' w.heap.size e ei.size v' (n + m) (ys ++ nv) ∧ w.grownBy w' none) →
                ∃ v w' ρ', (Builtin.append_ #[T, T] ty #[sv, .slice p m c]).run P w = .ok v w' ∧
                  Sim F h0 w0 nt ρ' (Eff.apply { dst := some d, val := .own d (st.cnt d), upd := (none : Option (Nat × Nat)).map fun p => (p.1, p.2, none), new := some (d, [.row e ei.size (n + m) (cs ++ news)]) } st) (a.put (some d) v) w' := by
              rintro ys hys ⟨v', w', hr, ho, hg⟩
              obtain ⟨ρ', S'⟩ := S.newRow d hd hg e ei.size (n + m) (cs ++ news) (ys ++ nv) v' ho (hys.app hnc)
              exact ⟨v', w', ρ', hr, by rw [Option.map_none, apply_one]; exact S'⟩
            cases hs with
            | cl0 n q => exact fin [] (.nil _) (main q [] rfl (.nil _) (by simp))
            | cl n cs b off arr T' fr hb hle hr h1' =>
              have hcl : CellL (ctx h0 w0 ρ st w) cs ((arr.toList.drop off).take cs.length) := by
                refine ⟨by simp; omega, fun i x y hx hy => ?_, fun i y hy => ?_⟩
                · have hi := (List.getElem?_eq_some_iff.1 hx).1
                  rw [List.getElem?_take, if_pos hi, List.getElem?_drop] at hy
                  exact hr i x y hx (by simpa using hy)
                · rw [List.getElem?_take] at hy
                  split at hy
                  · rename_i hi; rw [List.getElem?_drop] at hy
                    exact h1' i y hi (by simpa using hy)
                  · cases hy
              refine fin _ hcl (main _ _ rfl hcl fun _ => ⟨⟨b, off, none⟩, rfl, fun j u hu => ?_⟩)
              rw [addr_add, cell_of_row w b (off + j) arr T' fr hb.1]
              rw [List.getElem?_take] at hu
              split at hu
              · rw [List.getElem?_drop] at hu
                simpa using hu
              · cases hu
          · cases h
        · cases h
      · cases h

/-- An append in place. -/
theorem appendV_sound (S : Sim F h0 w0 nt ρ st a w) {T ty : Nat} {s x : AV} {u : Nat × Nat × Ent × Nat} {sv xv : Value} (h : appendV P st T s x = some u)
    (hs : RelV (ctx h0 w0 ρ st w) s sv) (hx : RelV (ctx h0 w0 ρ st w) x xv) :
    ∃ v w', (Builtin.append_ #[T, T] ty #[sv, xv]).run P w = .ok v w' ∧ Sim F h0 w0 nt ρ (st.setH u.1 u.2.1 (some u.2.2.1)) a w' ∧
      RelV (ctx h0 w0 ρ (st.setH u.1 u.2.1 (some u.2.2.1)) w') (.vw u.1 u.2.1 0 u.2.2.2) v := by
  unfold appendV at h
  split at h
  · rename_i e sz by_ m news s' g' k hsl hv
    obtain ⟨ei, ez, hT, hie, hz0, rfl, hzs, rfl, hpos⟩ := slInfo_spec hsl
    cases he : st.heap s' g' with
    | none => simp [he] at h
    | some en =>
      cases en with
      | row e' sz' n cs =>
        simp only [he] at h
        split at h
        · rename_i hc
          obtain ⟨rfl, rfl, hlen, hfit⟩ := hc
          simp only [Option.some.injEq] at h
          subst h
          obtain ⟨p, c, rfl, hsrc⟩ := sliceView_sound S hv hx
          have hsrc' : ∃ nv : List Value, CellL (ctx h0 w0 ρ st w) news nv ∧ (nv ≠ [] → ∃ ad, p = some ad ∧ ∀ (j : Nat) (u : Value), nv[j]? = some u → w.cell? (ad.add j) = some u) := by
            by_cases hne : news = []
            · subst hne; exact ⟨[], .nil _, fun h => absurd rfl h⟩
            · obtain ⟨b, off, arr, T', fr, hp, hb, hc⟩ := hsrc hne
              refine ⟨_, hc, fun _ => ⟨_, hp, fun j u hu => ?_⟩⟩
              rw [addr_add, cell_of_row w b (off + j) arr T' fr hb]
              rw [List.getElem?_take] at hu
              split at hu
              · rw [List.getElem?_drop] at hu
                simpa using hu
              · cases hu
          obtain ⟨nv, hnc, hcell⟩ := hsrc'
          have hnl : nv.length = m * ei.size := by rw [← hnc.len, hlen]
          have hn1 : ∀ u ∈ nv, u.oneCell' = true := fun u hu => by
            obtain ⟨j, hj, rfl⟩ := List.getElem_of_mem hu
            exact hnc.one j _ (by simp)
          obtain ⟨_, _, xs, ho, hcl⟩ := S.ent s' g' _ he
          cases hs with
          | vw _ _ _ _ b cap hg hb hcap hfull =>
            have hb' : blkOf (ρ s' g') = some b := hb
            rcases ho.2 with ⟨q, hρ, hn⟩ | ⟨b', cap', cur, hρ, hbase, hh, hnc', hcm, hcs, ht, hc0⟩
            · rw [hρ, blkOf_sl0] at hb'; cases hb'
            · have hbb : b' = b := by rw [hρ, blkOf_sl hc0] at hb'; simpa using hb'
              subst hbb
              have hcc : cap = cap' := hfull rfl _ _ _ hρ
              subst hcc
              have hkm : (k + m) * ei.size ≤ n * ei.size := Nat.mul_le_mul_right _ hfit
              have hnn : n * ei.size ≤ cap * ei.size := Nat.mul_le_mul_right _ hnc'
              rw [Nat.add_mul] at hkm
              have hcl' : cur.toList.length = cur.size := rfl
              have hrun : (Builtin.append_ #[T, T] ty #[.slice (some ⟨b', 0, none⟩) k cap, .slice p m c]).run P w = .ok (.slice (some ⟨b', 0, none⟩) (k + m) cap) (w.setRow b' (cur.toList.take (k * ei.size) ++ nv ++ cur.toList.drop (k * ei.size + nv.length)).toArray) := by
                by_cases hne : nv = []
                · have hm : m = 0 := by
                    rw [hne] at hnl
                    rcases Nat.eq_zero_or_pos m with h | h
                    · exact h
                    · have := Nat.mul_pos h hpos
                      simp at hnl
                      omega
                  subst hm
                  have hfc : ∀ (x : Value), (∃ p, x = .slice p 0 c) → (Builtin.firstCells ei.size 0 x).run P w = .ok #[] w := by
                    rintro x ⟨p, rfl⟩
                    cases p <;> simp [Builtin.firstCells, loadCells, loadCellsFrom]
                  have e0 : (cur.toList.take (k * ei.size) ++ nv ++ cur.toList.drop (k * ei.size + nv.length)).toArray = cur := by
                    rw [hne]; simp
                  rw [e0, setRow_self w b' cur e' (0, 0) hh]
                  have hkc : k ≤ cap := by omega
                  simp [Builtin.append_, run_underlying' hT, run_sizeOf w hie, Builtin.lenOf, hfc _ ⟨p, rfl⟩, storeCells, hkc]
                · obtain ⟨ad, rfl, hnews⟩ := hcell hne
                  exact run_append_room (P := P) w T ty e' ei hT hie b' k cap cur hh ad m c nv hnl hnews hn1 (by omega) (by omega)
              have hxl := ho.1
              have hcsl := hcl.len
              have S' := S.store (e' := .row e' ei.size n (cs.take (k * ei.size) ++ news ++ cs.drop (k * ei.size + m * ei.size))) (w' := w.setRow b' (cur.toList.take (k * ei.size) ++ nv ++ cur.toList.drop (k * ei.size + nv.length)).toArray) he hb' ⟨rfl, rfl, rfl, by simp, fun j _ hj => setRow_other w b' j _ (fun e => hj (by rw [e]))⟩ (fun C kC => by
                refine ⟨xs.take (k * ei.size) ++ nv ++ xs.drop (k * ei.size + m * ei.size), ⟨by simp; omega, .inr ⟨b', cap, _, hρ, hbase, setRow_heap w b' cur _ e' (0, 0) hh, hnc', hcm, by simp; omega, ?_, hc0⟩⟩, (((hcl.take _).app hnc).app (hcl.drop _)).le kC⟩
                simp only
                rw [← ht, hnl]
                have l1 : (cur.toList.take (k * ei.size) ++ nv).length = k * ei.size + m * ei.size := by simp; omega
                rw [List.take_append, l1, List.take_of_length_le (by omega), List.drop_take, List.take_take, Nat.min_eq_left (by omega)])
              exact ⟨_, _, hrun, S', .vw s' g' 0 _ b' cap hg hb (by show k + m ≤ cap; omega) (fun _ => hfull rfl)⟩
        · cases h
      | _ => simp [he] at h
  · cases h
/-- A part of a row is cleared. -/
theorem clear_sound (S : Sim F h0 w0 nt ρ st a w) {T ty : Nat} {x : AV} {u : Option (Nat × Nat × Ent)} {xv : Value} (h : clearA P st T x = some u) (hx : RelV (ctx h0 w0 ρ st w) x xv) :
    ∃ w', (Builtin.clear_ #[T] ty #[xv]).run P w = .ok (.tuple #[]) w' ∧ Sim F h0 w0 nt ρ (match u with | some p => st.setH p.1 p.2.1 (some p.2.2) | none => st) a w' := by
  unfold clearA at h
  split at h
  · rename_i e sz by_ s g o k hsl _
    obtain ⟨ei, ez, hT, hie, hz0, rfl, hzs, rfl, hpos⟩ := slInfo_spec hsl
    split at h
    · rename_i z e' sz' n cs hz he
      split at h
      · rename_i hc
        obtain ⟨rfl, rfl, hfit⟩ := hc
        simp only [Option.some.injEq] at h
        subst h
        obtain ⟨i', zv, hi', hzz, rfl, hz1⟩ := zeroL_spec hz
        rw [hie] at hi'
        cases hi'
        rw [hz0] at hzz
        cases hzz
        obtain ⟨_, _, xs, ho, hcl⟩ := S.ent s g _ he
        cases hx with
        | vw _ _ _ _ b cap hg hb hcap hfull =>
          have hb' : blkOf (ρ s g) = some b := hb
          rcases ho.2 with ⟨q, hρ, hn⟩ | ⟨b', cap', cur, hρ, hbase, hh, hnc', hcm, hcs, ht, hc0⟩
          · rw [hρ, blkOf_sl0] at hb'; cases hb'
          · have hbb : b' = b := by rw [hρ, blkOf_sl hc0] at hb'; simpa using hb'
            subst hbb
            have hxl := ho.1
            have hcsl := hcl.len
            have hnn : n * ei.size ≤ cap' * ei.size := Nat.mul_le_mul_right _ hnc'
            have hcl' : cur.toList.length = cur.size := rfl
            have hmod : (Builtin.zeroCells ez.cells k).toList = (List.range k).flatMap fun _ => ez.cells.toList := by
              unfold Builtin.zeroCells
              rw [← modc_toList]
            have hzl : ((List.range k).flatMap fun _ => ez.cells.toList).length = k * ei.size := by
              rw [← hmod, Array.length_toList, size_zeroCells, hzs]
            have hz1' : ∀ v ∈ (List.range k).flatMap fun _ => ez.cells.toList, v.oneCell' = true := fun v hv => by
              obtain ⟨_, _, hv⟩ := List.mem_flatMap.1 hv
              exact hz1 v hv
            have hst := run_storeCells_at P b' o e' ((List.range k).flatMap fun _ => ez.cells.toList) 0 cur w hh (by rw [hzl]; omega) hz1'
            simp only [Nat.add_zero] at hst
            have S' := S.store (e' := .row e' ei.size n (cs.take o ++ ((List.range k).flatMap fun _ => ez.cells.toList.map .v) ++ cs.drop (o + k * ei.size))) (w' := w.setRow b' (cur.toList.take o ++ ((List.range k).flatMap fun _ => ez.cells.toList) ++ cur.toList.drop (o + ((List.range k).flatMap fun _ => ez.cells.toList).length)).toArray) he hb' ⟨rfl, rfl, rfl, by simp, fun j _ hj => setRow_other w b' j _ (fun e => hj (by rw [e]))⟩ (fun C kC => by
              refine ⟨xs.take o ++ ((List.range k).flatMap fun _ => ez.cells.toList) ++ xs.drop (o + k * ei.size), ⟨by rw [List.length_append, List.length_append, hzl]; simp; omega, .inr ⟨b', cap', _, hρ, hbase, setRow_heap w b' cur _ e' (0, 0) hh, hnc', hcm, by rw [List.size_toArray, List.length_append, List.length_append, hzl]; simp; omega, ?_, hc0⟩⟩, (((hcl.take _).le kC).app (cellL_rep hz1 k)).app ((hcl.drop _).le kC)⟩
              simp only
              rw [← ht, hzl]
              have l1 : (cur.toList.take o ++ ((List.range k).flatMap fun _ => ez.cells.toList)).length = o + k * ei.size := by rw [List.length_append, hzl]; simp; omega
              rw [List.take_append, l1, List.take_of_length_le (by omega), List.drop_take, List.take_take, Nat.min_eq_left (by omega)])
            refine ⟨_, ?_, S'⟩
            have hzv : (zeroValue e').run P w = .ok ez w := by simp [zeroValue, typeInfo, hie, hz0]
            cases k with
            | zero =>
              have e0 : (cur.toList.take o ++ ((List.range 0).flatMap fun _ => ez.cells.toList) ++ cur.toList.drop (o + ((List.range 0).flatMap fun _ => ez.cells.toList).length)).toArray = cur := by simp
              rw [e0, setRow_self w b' cur e' (0, 0) hh]
              simp [Builtin.clear_, run_underlying' hT]
            | succ k =>
              have hst2 : (storeCells ⟨b', o, none⟩ (Builtin.zeroCells ez.cells (k + 1)).toList).run P w = .ok () (w.setRow b' (cur.toList.take o ++ ((List.range (k + 1)).flatMap fun _ => ez.cells.toList) ++ cur.toList.drop (o + ((List.range (k + 1)).flatMap fun _ => ez.cells.toList).length)).toArray) := by rw [hmod]; exact hst
              obtain ⟨W, hW⟩ : ∃ W, w.setRow b' (cur.toList.take o ++ ((List.range (k + 1)).flatMap fun _ => ez.cells.toList) ++ cur.toList.drop (o + ((List.range (k + 1)).flatMap fun _ => ez.cells.toList).length)).toArray = W := ⟨_, rfl⟩
              rw [hW] at hst2
              rw [hW]
              simp [Builtin.clear_, run_underlying' hT, hzv, hst2]
      · cases h
    · cases h
  · rename_i t cs hsl _
    simp only [Option.some.injEq] at h
    subst h
    obtain ⟨e, sz, by_⟩ := t
    obtain ⟨ei, ez, hT, _⟩ := slInfo_spec hsl
    refine ⟨w, ?_, S⟩
    cases hx with
    | sl0 n cap p hcap => cases p <;> simp [Builtin.clear_, run_underlying' hT]
    | sl n cs b off cap arr T fr hcap hb hle hr h1 => simp [Builtin.clear_, run_underlying' hT]
  · rename_i t hsl _
    simp only [Option.some.injEq] at h
    subst h
    obtain ⟨e, sz, by_⟩ := t
    obtain ⟨ei, ez, hT, _⟩ := slInfo_spec hsl
    have := relV_v hx
    subst this
    exact ⟨w, by simp [Builtin.clear_, run_underlying' hT], S⟩
  · cases h

theorem asFn_sound {C : Ctx} {x : AV} {v : Value} {g : Nat} {caps : List AV} (h : asFn x = some (g, caps)) (hr : RelV C x v) : ∃ cv, v = .func (.func g) #[] cv ∧ RelL C caps cv.toList := by
  unfold asFn at h
  split at h
  · split at h
    · rename_i hc
      obtain ⟨rfl, rfl⟩ := hc
      simp only [Option.some.injEq, Prod.mk.injEq] at h
      obtain ⟨rfl, rfl⟩ := h
      have := relV_v hr
      subst this
      exact ⟨#[], rfl, .nil C⟩
    · cases h
  · simp only [Option.some.injEq, Prod.mk.injEq] at h
    obtain ⟨rfl, rfl⟩ := h
    cases hr with
    | clo f cs a hl hr => exact ⟨a, rfl, by simpa using hl, fun i x y hx hy => hr i x y hx (by simpa using hy)⟩
  · cases h

variable [Ext]
theorem callEff_sound (S : Sim F h0 w0 nt ρ st a w) {call : Nat → List AV → Option AV} (hcall : CallOk P call) {o : Oper} {c : Call} (hop : o.op = .call c) {e : Eff}
    (h : callEff P call c o.dst st = some e) (hd : ∀ d, o.dst = some d → d < nt)
    (hK : ∀ ρ' a' w', Sim F h0 w0 nt ρ' (e.apply st) a' w' → K a' w') : o.wp P a w K Q := by
  have hargs : RelL (ctx h0 w0 ρ st w) (c.args.toList.map st.ev) (c.args.toList.map a.eval) := RelL.map _ _ _ fun p _ => S.ev p
  unfold callEff at h
  split at h
  · rename_i f hf
    have fin : ∀ g cv, a.eval f = .func (.func g) #[] cv → (Enters P g ∧ Calls P g (c.args.map a.eval ++ cv) w fun en w' => ∃ v, en = .returned v ∧ K (a.put o.dst v) w') → o.wp P a w K Q := by
      rintro g cv hv ⟨⟨fn, hfun, hname, hbody⟩, hcalls⟩
      have hnb : fn.body.isNone = false := by
        cases hb : fn.body <;> simp [hb] at hbody ⊢
      have hn1 : ¬ fn.name = "runtime.NumGoroutine" := by simpa using hname
      have hn2 : ¬ fn.body = none := by intro h; simp [h] at hnb
      have hrun : (execOp a.eval o).run P w = .ok (.enter g (c.args.map a.eval ++ cv)) w := by
        simp [execOp, hop, resolve, hf, hv, Deferred.ofValue, invoke, callFunc, hfun, hn1, hn2]
      unfold Oper.wp
      rw [hrun, Oper.upon_enter]
      refine hcalls.mono ?_
      rintro en w' ⟨v, rfl, hk⟩
      exact hk
    have gen : ∀ g caps, asFn (st.ev f) = some (g, caps) → callFn call g (c.args.toList.map st.ev ++ caps) st o.dst = some e → o.wp P a w K Q := by
      intro g caps hfn h
      obtain ⟨cv, hv, hcaps⟩ := asFn_sound hfn (S.ev f)
      have hrel : RelL (ctx h0 w0 ρ st w) (c.args.toList.map st.ev ++ caps) (c.args.map a.eval ++ cv).toList := by
        simpa using hargs.app hcaps
      exact fin g cv hv (callFn_sound S hcall h hrel hd hK)
    unfold callVal at h
    split at h
    · rename_i g
      split at h
      · refine fin g #[] rfl ?_
        exact callMv_sound S hcall h (by simpa using hargs) hd hK
      · split at h
        · refine fin g #[] rfl ?_
          exact callEat_sound S hcall h (by simpa using hargs) hd hK
        · exact gen g [] rfl (by simpa using h)
    · split at h
      · rename_i g caps hfn
        exact gen g caps hfn h
      · cases h
  · rename_i hf
    split at h
    · rename_i x T hx hT
      cases hs : slInfo P T with
      | none => simp [hs] at h
      | some t =>
        cases hv : sliceView st (st.ev x) with
        | none => simp [hs, hv] at h
        | some nc =>
          obtain ⟨n, cs⟩ := nc
          simp only [hs, hv, Option.some.injEq] at h
          subst h
          obtain ⟨p, cap, hval, _⟩ := sliceView_sound S hv (S.ev x)
          obtain ⟨e, sz, by_⟩ := t
          obtain ⟨ei, ez, hu, _⟩ := slInfo_spec hs
          have ha : c.args = #[x] := by apply Array.ext'; simpa using hx
          have ht : c.argTypes = #[T] := by apply Array.ext'; simpa using hT
          refine upon_value (v := .int .i64 n) ?_ (hK ρ _ w (S.put o.dst hd (.v _)))
          simp [execOp, hop, resolve, hf, ha, ht, invoke, builtin, Builtin.len_, hval, run_underlying' hu, goInt]
    · cases h
  · rename_i hf
    split at h
    · rename_i x y hx
      split at h
      · rename_i k p k' q h1 h2
        simp only [Option.some.injEq] at h
        subst h
        have e1 := S.ev x
        rw [h1] at e1
        have e1 := relV_v e1
        have e2 := S.ev y
        rw [h2] at e2
        have e2 := relV_v e2
        have ha : c.args = #[x, y] := by apply Array.ext'; simpa using hx
        refine upon_value (v := .int k (if q < p then q else p)) ?_ (hK ρ _ w (S.put o.dst hd (.v _)))
        simp [execOp, hop, resolve, hf, ha, invoke, builtin, Builtin.min_, Builtin.min2, e1, e2]
      · cases h
    · cases h
  · rename_i hf
    split at h
    · rename_i x y hx
      split at h
      · rename_i k p k' q h1 h2
        simp only [Option.some.injEq] at h
        subst h
        have e1 := S.ev x
        rw [h1] at e1
        have e1 := relV_v e1
        have e2 := S.ev y
        rw [h2] at e2
        have e2 := relV_v e2
        have ha : c.args = #[x, y] := by apply Array.ext'; simpa using hx
        refine upon_value (v := .int k (if q > p then q else p)) ?_ (hK ρ _ w (S.put o.dst hd (.v _)))
        simp [execOp, hop, resolve, hf, ha, invoke, builtin, Builtin.max_, Builtin.max2, e1, e2]
      · cases h
    · cases h
  · rename_i hf
    cases hdst : o.dst with
    | none => simp [hdst, bnd] at h
    | some d =>
    simp only [hdst, bnd] at h
    split at h
    · rename_i s x T T' hx hT
      split at h
      · rename_i hTT
        subst hTT
        split at h
        · cases hap : appendV P st T (st.ev s) (st.ev x) with
          | none => simp [hap] at h
          | some u =>
          simp only [hap, Option.map_some, Option.some.injEq] at h
          subst h
          obtain ⟨v, w', hr, S', hv⟩ := appendV_sound (ty := o.type) S hap (S.ev s) (S.ev x)
          have ha : c.args = #[s, x] := by apply Array.ext'; simpa using hx
          have ht : c.argTypes = #[T, T] := by apply Array.ext'; simpa using hT
          rw [hdst] at hd
          have hk := hK ρ _ w' (S'.put (some d) hd hv)
          unfold Oper.wp
          simp only [execOp, hop, resolve, hf, ha, ht, invoke, builtin]
          simp [hr]
          unfold Oper.upon
          rw [hdst]
          exact hk
        split at h
        · rename_i hpa
          obtain ⟨_, hs0, hsl, hv'⟩ := hpa
          obtain ⟨⟨_, cs⟩, hv, hv0⟩ := Option.map_eq_some_iff.1 hv'
          simp only at hv0
          subst hv0
          simp only [Option.some.injEq] at h
          subst h
          have e1 := S.ev s
          rw [hs0] at e1
          have e1 := relV_v e1
          obtain ⟨q, c', hxv, _⟩ := sliceView_sound S hv (S.ev x)
          cases hsi : slInfo P T with
          | none => rw [hsi] at hsl; cases hsl
          | some t =>
          obtain ⟨e, sz, by_⟩ := t
          obtain ⟨ei, ez, hT', hie, _⟩ := slInfo_spec hsi
          have hz : ∀ w : World, (Builtin.firstCells ei.size 0 (.slice q 0 c')).run P w = .ok ([] : List Value).toArray w := fun w => by cases q <;> simp [Builtin.firstCells, loadCells, loadCellsFrom]
          have hr : (Builtin.append_ #[T, T] o.type #[.slice none 0 0, .slice q 0 c']).run P w = .ok (.slice none 0 0) w := run_append_nothing w T T o.type e ei hT' hie none 0 0 (Nat.le_refl _) _ ⟨.inl ⟨e, hT'⟩, fun w' => by simp [Builtin.lenOf], hz _, hz _, by simp, by simp⟩
          have ha : c.args = #[s, x] := by apply Array.ext'; simpa using hx
          have ht : c.argTypes = #[T, T] := by apply Array.ext'; simpa using hT
          rw [hdst] at hd
          refine upon_value (v := .slice none 0 0) ?_ (by rw [hdst]; exact hK ρ _ w (S.put (some d) hd (.v _)))
          simp [execOp, hop, resolve, hf, ha, ht, invoke, builtin, e1, hxv, hr]
        cases hap : appendA P st T (st.ev s) (st.ev x) with
        | none => simp [hap] at h
        | some ur =>
          obtain ⟨u, r⟩ := ur
          simp only [hap, Option.some.injEq] at h
          subst h
          obtain ⟨v, w', ρ', hr, S'⟩ := append_sound (ty := o.type) S (hd d hdst) hap (S.ev s) (S.ev x)
          have ha : c.args = #[s, x] := by apply Array.ext'; simpa using hx
          have ht : c.argTypes = #[T, T] := by apply Array.ext'; simpa using hT
          have hk := hK ρ' _ w' S'
          unfold Oper.wp
          simp only [execOp, hop, resolve, hf, ha, ht, invoke, builtin]
          simp [hr]
          unfold Oper.upon
          rw [hdst]
          exact hk
      · cases h
    · cases h
  · rename_i hf
    split at h
    · rename_i x T hx hT
      cases hap : clearA P st T (st.ev x) with
      | none => simp [hap] at h
      | some u =>
        simp only [hap, Option.map_some, Option.some.injEq] at h
        subst h
        obtain ⟨w', hr, S'⟩ := clear_sound (ty := o.type) S hap (S.ev x)
        have ha : c.args = #[x] := by apply Array.ext'; simpa using hx
        have ht : c.argTypes = #[T] := by apply Array.ext'; simpa using hT
        have hk := hK ρ (a.put o.dst (.tuple #[])) w' (by
          have := S'.put o.dst hd (x := .tup []) (v := .tuple #[]) (.tup [] #[] rfl (by simp))
          cases u with
          | none => exact this
          | some p => exact this)
        unfold Oper.wp
        simp only [execOp, hop, resolve, hf, ha, ht, invoke, builtin]
        simp [hr]
        unfold Oper.upon
        exact hk
    · cases h
  · cases h

theorem opEff_sound (S : Sim F h0 w0 nt ρ st a w) {call : Nat → List AV → Option AV} (hcall : CallOk P call) {o : Oper} {e : Eff} (h : opEff P call o st = some e) (hd : ∀ d, o.dst = some d → d < nt)
    (hK : ∀ ρ' a' w', Sim F h0 w0 nt ρ' (e.apply st) a' w' → K a' w') : o.wp P a w K Q := by
  unfold opEff at h
  split at h
  · rename_i T hop
    cases hdst : o.dst with
    | none => simp [hdst, bnd] at h
    | some d =>
      cases hz : zeroL P T with
      | none => simp [hdst, hz, bnd] at h
      | some z =>
        simp only [hdst, hz, bnd, Option.some.injEq] at h
        subst h
        obtain ⟨i, zv, hi, hzz, rfl, hz1⟩ := zeroL_spec hz
        obtain ⟨ρ', S'⟩ := S.newVar d (hd d hdst) (zv.cells.toList.map .v) zv.cells T (CellL.vs _ _ hz1)
        refine upon_value (v := .pointer (some ⟨w.heap.size, 0, none⟩)) (w' := w.alloc (.cells zv.cells T)) ?_ (by rw [hdst]; exact hK ρ' _ _ (by rw [apply_one]; exact S'))
        simp only [execOp, hop, Instr.alloc]
        simp [run_zeroValue w hi hzz, Go.newVar, Go.newRow]
  · rename_i T x hop
    cases hdst : o.dst with
    | none => simp [hdst, bnd] at h
    | some d =>
      simp only [hdst, bnd] at h
      split at h
      · rename_i hst
        simp only [Option.some.injEq] at h
        subst h
        obtain ⟨ρ', S'⟩ := S.newVar d (hd d hdst) (st.ev x).cells (a.eval x).cells T ((S.ev x).cells hst)
        refine upon_value (v := .pointer (some ⟨w.heap.size, 0, none⟩)) (w' := w.alloc (.cells (a.eval x).cells T)) ?_ (by rw [hdst]; exact hK ρ' _ _ (by rw [apply_one]; exact S'))
        simp only [execOp, hop, Instr.box]
        simp [Go.newVar, Go.newRow]
      · cases h
  · rename_i T n parts hop
    cases hdst : o.dst with
    | none => simp [hdst, bnd] at h
    | some d =>
      cases hs : slInfo P T with
      | none => simp [hdst, hs, bnd] at h
      | some t =>
        obtain ⟨e', sz, by_⟩ := t
        cases hz : zeroL P e' with
        | none => simp [hdst, hs, hz, bnd] at h
        | some z =>
          simp only [hdst, hs, hz, bnd] at h
          split at h
          · rename_i hc
            obtain ⟨c1, c2, c3⟩ := hc
            cases hf : fillA (fun i => some (i * sz, sz)) ((List.range n).flatMap fun _ => z.map .v) (parts.toList.map fun p => (p.1, st.ev p.2)) with
            | none => simp [hf] at h
            | some cs =>
              simp only [hf, Option.some.injEq] at h
              subst h
              obtain ⟨v, w', xs, hr, hg, ho, hcell⟩ := buildSlice_sound S hs hz c1 c2 c3 hf
              obtain ⟨ρ', S'⟩ := S.newRow d (hd d hdst) hg e' sz n cs xs v ho hcell
              refine upon_value (v := v) (w' := w') ?_ (by rw [hdst]; exact hK ρ' _ _ (by rw [apply_one]; exact S'))
              simp only [execOp, hop]
              rw [run_ok_bind hr]
              rfl
          · cases h
  · rename_i T l c hop
    cases hdst : o.dst with
    | none => simp [hdst, bnd] at h
    | some d =>
      cases hs : slInfo P T with
      | none => simp [hdst, hs, bnd] at h
      | some t =>
        obtain ⟨e', sz, by_⟩ := t
        cases hz : zeroL P e' with
        | none => simp [hdst, hs, hz, bnd] at h
        | some z =>
          simp only [hdst, hs, hz, bnd] at h
          split at h
          · rename_i n m hl hc
            split at h
            · rename_i hcond
              obtain ⟨c1, rfl, c3, c4⟩ := hcond
              simp only [Option.some.injEq] at h
              subst h
              obtain ⟨k, rfl⟩ : ∃ k : Nat, n = k := ⟨n.toNat, by omega⟩
              obtain ⟨v, w', xs, hr, hg, ho, hcell⟩ := makeSlice_sound (w := w) (ctx h0 w0 ρ st w) hs hz (n := k) (by
                have : ((k * by_ : Nat) : Int) ≤ 140737488355328 := by rw [Int.natCast_mul]; exact c3
                omega) (by omega)
              obtain ⟨ρ', S'⟩ := S.newRow d (hd d hdst) hg e' sz k _ xs v ho hcell
              simp only [Int.toNat_natCast] at hK
              refine upon_value (v := v) (w' := w') ?_ (by rw [hdst]; exact hK ρ' _ _ (by rw [apply_one]; exact S'))
              have e1 := S.ev l
              rw [hl] at e1
              have e1 := relV_v e1
              have e2 := S.ev c
              rw [hc] at e2
              have e2 := relV_v e2
              simp only [execOp, hop, e1, e2]
              rw [run_ok_bind hr]
              rfl
            · cases h
          · cases h
  · rename_i T x y hop
    cases hs : storeA P st T (st.ev x) (st.ev y) with
    | none => simp [hs] at h
    | some u =>
      obtain ⟨s, g, e'⟩ := u
      simp only [hs, Option.map_some, Option.some.injEq] at h
      subst h
      obtain ⟨w', hr, S'⟩ := store_sound S hs (S.ev x) (S.ev y)
      have hk := hK ρ _ w' (S'.put o.dst hd (.v undef))
      unfold Oper.wp
      simp only [execOp, hop]
      rw [run_ok_bind hr]
      exact hk
  · rename_i T hop
    cases hdst : o.dst with
    | none => simp [hdst, bnd] at h
    | some d =>
      simp only [hdst, bnd, Option.some.injEq] at h
      subst h
      obtain ⟨S', k, hnew⟩ := S.new (World.grownBy_alloc w (.map #[] 0) none) d (.map []) (.map (some w.heap.size)) rfl (fun b hb => by simp [blkOf] at hb; omega)
        (fun C k _ => ⟨w.heap.size, #[], 0, rfl, S.ext.size, heap_alloc_new w _, trivial⟩)
      have hlt : st.cnt d < (ctx h0 w0 (upρ ρ d (st.cnt d) (.map (some w.heap.size))) (st.new d (.map [])) (w.alloc (.map #[] 0))).cnt d := by simp [ctx, St.new]
      have hρ : (ctx h0 w0 (upρ ρ d (st.cnt d) (.map (some w.heap.size))) (st.new d (.map [])) (w.alloc (.map #[] 0))).ρ d (st.cnt d) = .map (some w.heap.size) := hnew
      have := RelV.mp (C := ctx h0 w0 (upρ ρ d (st.cnt d) (.map (some w.heap.size))) (st.new d (.map [])) (w.alloc (.map #[] 0))) d (st.cnt d) hlt (by rw [hρ]; rfl)
      rw [hρ] at this
      have hS := S'.put (some d) (fun t ht => by cases ht; exact hd d hdst) this
      refine upon_value (v := .map (some w.heap.size)) (w' := w.alloc (.map #[] 0)) ?_ (by rw [hdst]; exact hK _ _ _ (by rw [apply_one]; exact hS))
      simp only [execOp, hop, Option.map_none]
      rfl
  · rename_i T m x y hop
    cases hs : mapSetA P st T (st.ev m) (st.ev x) (st.ev y) with
    | none => simp [hs] at h
    | some u =>
      obtain ⟨s, g, e'⟩ := u
      simp only [hs, Option.map_some, Option.some.injEq] at h
      subst h
      obtain ⟨w', hr, S'⟩ := mapSet_sound S hs (S.ev m) (S.ev x) (S.ev y)
      have hk := hK ρ _ w' (S'.put o.dst hd (.v undef))
      unfold Oper.wp
      simp only [execOp, hop]
      rw [run_ok_bind hr]
      exact hk
  · rename_i c hop
    exact callEff_sound S hcall hop h hd hK
  · cases hv : opVal P st o.op with
    | none => simp [hv] at h
    | some x =>
      simp only [hv, Option.map_some, Option.some.injEq] at h
      subst h
      obtain ⟨v, hr, hrel⟩ := opVal_sound S hv
      exact upon_value hr (hK ρ _ w (S.put o.dst hd hrel))
end
end Go.Ab
