/-
  Part L9 of the proof: what functions of this program compute.
-/
import Derived.Test.YtgpkmepalmdmeaaL7
import Derived.Test.YtgpkmepalmdmeaaL8
import Derived.Test.YtgpkmepalmdmeaaW1
set_option linter.all false
set_option linter.unusedSimpArgs false
set_option linter.unusedVariables false
set_option maxRecDepth 20000
set_option maxHeartbeats 4000000
namespace Go.Ab
open Classical
def minE (st : St) (d : Option Nat) (x y : AV) : Option St :=
  match x, y with
  | .v (.int k a), .v (.int _ b) => some (st.put d (.v (.int k (if b < a then b else a))))
  | _, _ => none
theorem ev_min {P : Program} [Ext] {call : Nat → List AV → Option AV} {ops : Array Oper} {st : St} {d : Option Nat} {T : Nat} {pos : String} {aft : Array Edge} (x y : Operand) (ats : Array Nat) : evOp P call ops ⟨d, .call ⟨.builtin .min, #[x, y], ats⟩, T, pos, aft, none⟩ st = minE st d (st.ev x) (st.ev y) := by
  rw [evOp_none]
  simp only [opEff, callEff, minE]
  cases st.ev x <;> try rfl
  rename_i u
  cases u <;> try rfl
  cases st.ev y <;> try rfl
  rename_i u
  cases u <;> rfl
theorem minE_int (st : St) (d : Option Nat) (k k' : IntKind) (a b : Int) : minE st d (.v (.int k a)) (.v (.int k' b)) = some (st.put d (.v (.int k (if b < a then b else a)))) := rfl
namespace Try
open Go.Proofs
theorem chl_mem (ns : List Node) (i x : Int) : ∀ k : Nat, x ∈ chl ns i k ↔ (0 ≤ x ∧ x < k) ∧ (nd ns x).up = i
  | 0 => by simp [chl]; intro h h'; omega
  | k + 1 => by
    have ih := chl_mem ns i x k
    simp only [chl]
    split
    · rename_i h
      rw [List.mem_append, ih, List.mem_singleton]
      constructor
      · rintro (⟨h1, h2⟩ | rfl)
        · exact ⟨by omega, h2⟩
        · exact ⟨by omega, h⟩
      · rintro ⟨h1, h2⟩
        by_cases hk : x = k
        · exact .inr hk
        · exact .inl ⟨by omega, h2⟩
    · rename_i h
      rw [ih]
      constructor
      · rintro ⟨h1, h2⟩; exact ⟨by omega, h2⟩
      · rintro ⟨h1, h2⟩
        by_cases hk : x = k
        · subst hk; exact absurd h2 h
        · exact ⟨by omega, h2⟩
theorem chl_nd (ns : List Node) (i : Int) : ∀ k : Nat, (chl ns i k).Nodup
  | 0 => List.nodup_nil
  | k + 1 => by
    have ih := chl_nd ns i k
    simp only [chl]
    split
    · rw [List.nodup_append]
      refine ⟨ih, by simp, fun a ha b hb => ?_⟩
      simp at hb
      have := ((chl_mem ns i a k).1 ha).1.2
      omega
    · exact ih
theorem lvs_pre (ns : List Node) {k : Nat} : ∀ d : Nat, ∃ t, lvs ns (k + d) = lvs ns k ++ t
  | 0 => ⟨[], by simp⟩
  | d + 1 => by
    obtain ⟨t, ht⟩ := lvs_pre ns (k := k) d
    rw [← Nat.add_assoc]
    simp only [lvs]
    split
    · exact ⟨t ++ [((k + d : Nat) : Int)], by rw [ht, List.append_assoc]⟩
    · exact ⟨t, ht⟩
theorem lvs_at (ns : List Node) {k n : Nat} (hk : k < n) (h : chl ns k ns.length = []) : it (lvs ns n) (lvs ns k).length = k ∧ (lvs ns k).length < (lvs ns n).length := by
  obtain ⟨t, ht⟩ := lvs_pre ns (k := k + 1) (n - (k + 1))
  rw [show k + 1 + (n - (k + 1)) = n by omega] at ht
  have hs : lvs ns (k + 1) = lvs ns k ++ [(k : Int)] := by simp only [lvs]; rw [if_pos h]
  rw [hs, List.append_assoc] at ht
  rw [ht]
  constructor
  · simp [it]
  · simp
/-- BlocktreeFamilies -/
theorem c15 (l : List Int) (hl : (l.length : Int) ≤ 9223372036854775807) : callL Try.prog 15 [.sl l.length (csInt l)] = some (.v (.bool true)) := by
  rw [callL_eq Try.prog Try.func15 rfl ok15 _ (ext_none _ (by decide)) rfl]
  have g := (c30 l hl).2
  have k0 := k30 l hl
  generalize treeOf l = ns at g k0
  have g9 := g.len9
  have g0 := g.len0
  have hn : (ns.length : Int) < 1000000 := by omega
  have hll := lvs_ne g.up g.up0 g0
  have h61 := k61 ns g.up g.up0 hn hll
  have h58 := k58 ns g.up g.up0 hn
  have hmax : (ns.length : Int) ≤ maxLen := by unfold maxLen; omega
  have hb1 : (ns.length : Int) * 8 ≤ 140737488355328 := by omega
  have hnn : (0 : Int) ≤ (ns.length : Int) := by omega
  have mkI : ∀ n : Nat, ((List.range n).flatMap fun _ => [AV.v (.int .i64 0)]) = csInt (List.replicate n 0) := by
    intro n
    rw [csInt_eq, List.map_replicate]
    induction n with
    | zero => rfl
    | succ n ih => rw [List.range_succ, List.flatMap_append, ih, List.replicate_succ']; rfl
  have hlvl := lvs_len ns ns.length
  simp -implicitDefEqProofs only [ZZ, seval, k0, h61, hmax, hb1, hnn, mkI, Int.toNat_natCast]
  refine use_loop (fun n st => ∃ (k : Nat) (sn : List Int), (st.env 3 = .ptr 3 0 0 ∧ st.heap 3 0 = some (.cells (cTree ⟨ns⟩)) ∧ st.env 4 = .own 16 0 ∧ st.heap 16 0 = some (.row 3 1 sn.length (csInt sn)) ∧ st.env 5 = .own 18 0 ∧ st.heap 18 0 = some (.row 3 1 (lvs ns ns.length).length (csInt (lvs ns ns.length))) ∧ st.env 6 = .v (.int .i64 (lvs ns k).length) ∧ st.env 7 = .v (.int .i64 k)) ∧ sn.length = ns.length ∧
      (∀ j : Int, 0 ≤ j → j < ns.length → it sn j = if 0 < j ∧ (nd ns j).up < k then 1 else 0) ∧ k ≤ ns.length ∧ n = ns.length - k)
    (fun e st => e = .exit 0 ∧ ∃ sn : List Int, (st.env 4 = .own 16 0 ∧ st.heap 16 0 = some (.row 3 1 sn.length (csInt sn)) ∧ st.env 5 = .own 18 0 ∧ st.heap 18 0 = some (.row 3 1 (lvs ns ns.length).length (csInt (lvs ns ns.length))) ∧ st.env 6 = .v (.int .i64 (lvs ns ns.length).length)) ∧ sn.length = ns.length ∧
      (∀ j : Int, 0 ≤ j → j < ns.length → it sn j = if 0 < j then 1 else 0)) ns.length ?step ?start ?rest
  case step =>
    rintro n st ⟨k, sn, hI, hsl, hs, hk, hn'⟩
    have hkl := lvs_len ns k
    by_cases hlt : (k : Int) < ns.length
    · have hw : IntKind.i64.wrap ((k : Int) + 1) = ((k + 1 : Nat) : Int) := by rw [w64 _ (by omega) (by omega)]; omega
      have q0 : (0 : Int) ≤ k := by omega
      have hcv : chlV ns k = chl ns k ns.length := if_neg (by omega)
      have hcl := chl_len ns k ns.length
      by_cases hc : chl ns k ns.length = []
      · have hK := k56n ns hn k (by rw [hcv]; exact hc)
        obtain ⟨p1, p2⟩ := lvs_at ns (k := k) (n := ns.length) (by omega) hc
        have hnl : (((lvs ns ns.length).length : Int) ≤ ((lvs ns k).length : Int)) = False := eq_false (by omega)
        have hll2 : ((lvs ns k).length : Int) < (lvs ns ns.length).length := by omega
        have r0 : (0 : Int) ≤ ((lvs ns k).length : Int) := by omega
        have hv : (it (lvs ns ns.length) (lvs ns k).length != (k : Int)) = false := by rw [p1]; exact bne_self_eq_false _
        have hw2 : IntKind.i64.wrap (((lvs ns k).length : Int) + 1) = (((lvs ns k).length + 1 : Nat) : Int) := by rw [w64 _ (by omega) (by omega)]; omega
        have hs2 : (lvs ns (k + 1)).length = (lvs ns k).length + 1 := by simp only [lvs]; rw [if_pos hc]; simp
        have hs3 : ∀ j : Int, 0 ≤ j → j < ns.length → it sn j = if 0 < j ∧ (nd ns j).up < ((k + 1 : Nat) : Int) then 1 else 0 := by
          intro j j0 j1
          rw [hs j j0 j1]
          have : (nd ns j).up ≠ k := fun h => by
            have : j ∈ chl ns k ns.length := (chl_mem ns k j _).2 ⟨⟨j0, j1⟩, h⟩
            rw [hc] at this; cases this
          by_cases hj : 0 < j ∧ (nd ns j).up < k
          · rw [if_pos hj, if_pos ⟨hj.1, by omega⟩]
          · rw [if_neg hj, if_neg (fun h => hj ⟨h.1, by omega⟩)]
        refine go_on (st' := ?s1) ?h1 (ns.length - (k + 1)) (by omega) ?q1
        case h1 =>
          simp -implicitDefEqProofs only [ZZ, seval, hI, hlt, hw, hK, evL_loop, hnl, hll2, r0, hv, hw2, Int.lt_irrefl]
          rfl
        case q1 => exact ⟨k + 1, sn, by rw [hs2]; simp only [EV, seval, hI], hsl, hs3, by omega, rfl⟩
      · have hK := k56 ns hn k (by rw [hcv]; exact hc)
        rw [hcv] at hK
        have hmem := fun x => chl_mem ns k x ns.length
        have hnd := chl_nd ns k ns.length
        have hs2 : (lvs ns (k + 1)).length = (lvs ns k).length := by simp only [lvs]; rw [if_neg hc]
        have hne : (((chl ns k ns.length).length : Int) == 0) = false := by simp [hc]
        generalize chl ns k ns.length = C at hK hmem hnd hcl hne
        have hCl : (C.length : Int) < 1000000 := by omega
        have hne2 : (0 : Int) ≤ (C.length : Int) := by omega
        simp -implicitDefEqProofs only [ZZ, seval, hI, hlt, hK]
        refine use_loopN (fun n s2 => ∃ (m : Nat) (sn' : List Int), (s2.env 3 = .ptr 3 0 0 ∧ s2.heap 3 0 = some (.cells (cTree ⟨ns⟩)) ∧ s2.env 4 = .own 16 0 ∧ s2.heap 16 0 = some (.row 3 1 sn'.length (csInt sn')) ∧ s2.env 5 = .own 18 0 ∧ s2.heap 18 0 = some (.row 3 1 (lvs ns ns.length).length (csInt (lvs ns ns.length))) ∧ s2.env 6 = .v (.int .i64 (lvs ns k).length) ∧ s2.env 7 = .v (.int .i64 k) ∧ s2.env 8 = .own 28 (st.cnt 28) ∧ s2.heap 28 (st.cnt 28) = some (.row 3 1 C.length (csInt C)) ∧ s2.env 9 = .v (.int .i64 m)) ∧ sn'.length = ns.length ∧
            (∀ j : Int, 0 ≤ j → j < ns.length → it sn' j = if (0 < j ∧ (nd ns j).up < k) ∨ j ∈ C.take m then 1 else 0) ∧ m ≤ C.length ∧ n = C.length - m)
          (fun e s2 => e = .exit 2 ∧ ∃ sn' : List Int, (s2.env 3 = .ptr 3 0 0 ∧ s2.heap 3 0 = some (.cells (cTree ⟨ns⟩)) ∧ s2.env 4 = .own 16 0 ∧ s2.heap 16 0 = some (.row 3 1 sn'.length (csInt sn')) ∧ s2.env 5 = .own 18 0 ∧ s2.heap 18 0 = some (.row 3 1 (lvs ns ns.length).length (csInt (lvs ns ns.length))) ∧ s2.env 6 = .v (.int .i64 (lvs ns k).length) ∧ s2.env 7 = .v (.int .i64 k) ∧ s2.env 8 = .own 28 (st.cnt 28) ∧ s2.heap 28 (st.cnt 28) = some (.row 3 1 C.length (csInt C))) ∧ sn'.length = ns.length ∧
            (∀ j : Int, 0 ≤ j → j < ns.length → it sn' j = if (0 < j ∧ (nd ns j).up < k) ∨ j ∈ C then 1 else 0)) C.length ?step2 ?start2 ?rest2
        case step2 =>
          rintro n s2 ⟨m, sn', hJ, hsl', hs', hm, hn2⟩
          by_cases hml : (m : Int) < C.length
          · have m0 : (0 : Int) ≤ m := by omega
            have hxC := it_mem m0 hml
            obtain ⟨⟨x0, x1⟩, hxu⟩ := (hmem _).1 hxC
            have ht := take_it m0 hml
            have hwm : IntKind.i64.wrap ((m : Int) + 1) = ((m + 1 : Nat) : Int) := by rw [w64 _ (by omega) (by omega)]; omega
            have hnin : it C m ∉ C.take m := by
              have h1 : C.take (m + 1) = C.take m ++ [it C m] := by
                have := ht
                rw [show ((m : Int) + 1).toNat = m + 1 by omega, show ((m : Int)).toNat = m by omega] at this
                exact this
              have h2 := List.Nodup.sublist (List.take_sublist (m + 1) C) hnd
              rw [h1, List.nodup_append] at h2
              intro hmm
              exact h2.2.2 _ hmm _ (by simp) rfl
            have ht' : C.take (m + 1) = C.take m ++ [it C m] := by
              have := ht
              rw [show ((m : Int) + 1).toNat = m + 1 by omega, show ((m : Int)).toNat = m by omega] at this
              exact this
            obtain ⟨x, hx⟩ : ∃ x, it C m = x := ⟨_, rfl⟩
            rw [hx] at hxC x0 x1 hxu hnin ht'
            have hx0 : 0 < x := by
              by_cases h0 : x = 0
              · subst h0; rw [g.up0] at hxu; omega
              · omega
            have hup := g.up x hx0 x1
            have hpar := g.par x hx0 x1
            have hstep := path_step g.up hx0 x1
            rw [hxu] at hup hpar hstep
            have hnle : ¬ x ≤ (k : Int) := by omega
            have hnge : ((ns.length : Int) ≤ x) = False := eq_false (by omega)
            have hpl := path_lt g.up (k : Int)
            have hwd : IntKind.i64.wrap (((path ns k).length : Int) + 1) = ((path ns k).length : Int) + 1 := w64 _ (by omega) (by omega)
            have hdep : (((path ns x).length : Int) != ((path ns k).length : Int) + 1) = false := by rw [hstep]; simp
            have hpd : decide ((nd ns x).block.parent = (nd ns k).block.root) = true := decide_eq_true hpar
            have hsx : it sn' x = 0 := by
              rw [hs' x x0 x1, if_neg]
              rintro (h | h)
              · omega
              · exact hnin h
            have hwv : IntKind.i64.wrap (it sn' x + 1) = 1 := by rw [hsx]; rfl
            have hup1 := up_csI sn' x 1 (by omega)
            have hle : x.toNat + 1 ≤ sn'.length := by omega
            have xs' : x < sn'.length := by omega
            have hnew : ∀ j : Int, 0 ≤ j → j < ns.length → it (sn'.set x.toNat 1) j = if (0 < j ∧ (nd ns j).up < k) ∨ j ∈ C.take (m + 1) then 1 else 0 := by
              intro j j0 j1
              rw [ht']
              by_cases hj : j = x
              · subst hj
                rw [it_set_eq (by omega), if_pos (.inr (by simp))]
              · rw [it_set_ne x0 j0 (Ne.symm hj), hs' j j0 j1]
                simp [hj]
            refine go_on (st' := ?s2) ?h2 (C.length - (m + 1)) (by omega) ?q2
            case h2 =>
              simp -implicitDefEqProofs only [ZZ, seval, hJ, hml, m0, hx, hnle, hnge, h58, hwd, hdep, hpd, q0, hlt, x0, x1, hwv, hup1, hle, xs', hwm]
              rfl
            case q2 => exact ⟨m + 1, sn'.set x.toNat 1, by simp only [EV, seval, hJ, List.length_set], by simpa using hsl', hnew, by omega, rfl⟩
          · obtain rfl : m = C.length := by omega
            refine go_out (e := .exit 2) (st' := ?s3) ?h3 (by simp) ?q3
            case h3 =>
              simp -implicitDefEqProofs only [ZZ, seval, hJ, hml]
              rfl
            case q3 => exact ⟨rfl, sn', by simp only [EV, seval, hJ], hsl', fun j j0 j1 => by rw [hs' j j0 j1, List.take_length]⟩
        case start2 => exact ⟨0, sn, by simp only [EV, seval, hI], hsl, fun j j0 j1 => by rw [hs j j0 j1]; simp, by omega, by omega⟩
        case rest2 =>
          rintro e s2 ⟨rfl, sn', hJ, hsl', hs'⟩
          have hs3 : ∀ j : Int, 0 ≤ j → j < ns.length → it sn' j = if 0 < j ∧ (nd ns j).up < ((k + 1 : Nat) : Int) then 1 else 0 := by
            intro j j0 j1
            rw [hs' j j0 j1]
            by_cases hj : (0 < j ∧ (nd ns j).up < k) ∨ j ∈ C
            · rw [if_pos hj, if_pos]
              rcases hj with hj | hj
              · exact ⟨hj.1, by omega⟩
              · have := ((hmem j).1 hj).2
                refine ⟨?_, by omega⟩
                by_cases h0 : j = 0
                · subst h0; rw [g.up0] at this; omega
                · omega
            · rw [if_neg hj, if_neg]
              rintro ⟨h1, h2⟩
              apply hj
              by_cases h3 : (nd ns j).up < k
              · exact .inl ⟨h1, h3⟩
              · exact .inr ((hmem j).2 ⟨⟨j0, j1⟩, by omega⟩)
          refine go_onX (st' := ?s4) ?h4 (ns.length - (k + 1)) (by omega) ?q4
          case h4 =>
            simp -implicitDefEqProofs only [ZZ, seval, hJ, hne, hw]
            rfl
          case q4 => exact ⟨k + 1, sn', by rw [hs2]; simp only [EV, seval, hJ], hsl', hs3, by omega, rfl⟩
    · obtain rfl : k = ns.length := by omega
      refine go_out (e := .exit 0) (st' := ?s5) ?h5 (by simp) ?q5
      case h5 =>
        simp -implicitDefEqProofs only [ZZ, seval, hI, hlt]
        rfl
      case q5 => exact ⟨rfl, sn, by simp only [EV, seval, hI], hsl, fun j j0 j1 => by
        rw [hs j j0 j1]
        have := up_lt g.up g.up0 j0 j1
        by_cases hj : 0 < j
        · rw [if_pos hj, if_pos ⟨hj, this⟩]
        · rw [if_neg hj, if_neg (fun h => hj h.1)]⟩
  case start => exact ⟨0, List.replicate ns.length 0, by simp only [EV, seval, List.length_replicate, lvs, List.length_nil] <;> rfl, by simp, fun j j0 j1 => by
      have : it (List.replicate ns.length 0) j = 0 := by simp [it, List.getElem?_replicate]; split <;> rfl
      rw [this]
      by_cases hj : 0 < j
      · have := g.up j hj j1
        rw [if_neg (by omega)]
      · rw [if_neg (by omega)], by omega, rfl⟩
  case rest =>
    rintro e st ⟨rfl, sn, hI, hsl, hs⟩
    simp -implicitDefEqProofs only [ZZ, seval, hI]
    refine use_loop (fun n st => ∃ k : Nat, (st.env 4 = .own 16 0 ∧ st.heap 16 0 = some (.row 3 1 sn.length (csInt sn)) ∧ st.env 5 = .own 18 0 ∧ st.heap 18 0 = some (.row 3 1 (lvs ns ns.length).length (csInt (lvs ns ns.length))) ∧ st.env 6 = .v (.int .i64 (lvs ns ns.length).length) ∧ st.env 10 = .v (.int .i64 k)) ∧ k ≤ ns.length ∧ n = ns.length - k)
      (fun e st => e = .exit 4 ∧ st.env 5 = .own 18 0 ∧ st.heap 18 0 = some (.row 3 1 (lvs ns ns.length).length (csInt (lvs ns ns.length))) ∧ st.env 6 = .v (.int .i64 (lvs ns ns.length).length)) ns.length ?step ?start ?rest
    case step =>
      rintro n st ⟨k, hI, hk, hn'⟩
      by_cases hlt : (k : Int) < sn.length
      · have hw : IntKind.i64.wrap ((k : Int) + 1) = ((k + 1 : Nat) : Int) := by rw [w64 _ (by omega) (by omega)]; omega
        have q0 : (0 : Int) ≤ k := by omega
        by_cases h1 : (1 : Int) < k
        · have hv : (it sn k != (1 : Int)) = false := by rw [hs k q0 (by omega), if_pos (by omega)]; rfl
          refine go_on (st' := ?s6) ?h6 (ns.length - (k + 1)) (by omega) ?q6
          case h6 =>
            simp -implicitDefEqProofs only [ZZ, seval, hI, hlt, q0, hw, ev_min, minE_int, hv, h1]
            rfl
          case q6 => exact ⟨k + 1, by simp only [EV, seval, hI], by omega, rfl⟩
        · have hv : (it sn k != (k : Int)) = false := by
            rw [hs k q0 (by omega)]
            by_cases h0 : (0 : Int) < k
            · rw [if_pos h0, show (k : Int) = 1 by omega]; rfl
            · rw [if_neg h0, show (k : Int) = 0 by omega]; rfl
          refine go_on (st' := ?s7) ?h7 (ns.length - (k + 1)) (by omega) ?q7
          case h7 =>
            simp -implicitDefEqProofs only [ZZ, seval, hI, hlt, q0, hw, ev_min, minE_int, hv, h1]
            rfl
          case q7 => exact ⟨k + 1, by simp only [EV, seval, hI], by omega, rfl⟩
      · refine go_out (e := .exit 4) (st' := ?s8) ?h8 (by simp) ?q8
        case h8 =>
          simp -implicitDefEqProofs only [ZZ, seval, hI, hlt]
          rfl
        case q8 => exact ⟨rfl, by simp only [EV, seval, hI]⟩
    case start => exact ⟨0, by simp only [EV, seval, hI], by omega, rfl⟩
    case rest =>
      rintro e st ⟨rfl, hI⟩
      simp -implicitDefEqProofs only [ZZ, seval, hI, k55, beq_self_eq_true]
      exact endL_tmp (keep_none (by decide)) (.inl rfl) rfl (by simp only [EV, seval] <;> rfl) (.v _)
end Try
end Go.Ab
