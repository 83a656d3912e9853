/-
  Part K12 of the proof: several texts of the evaluator and of what functions of this program compute.
-/
import Derived.Test.YtgpkmepalmdmeaaK11
import Derived.Test.YtgpkmepalmdmeaaK6
import Derived.Test.YtgpkmepalmdmeaaK5
import Derived.Test.YtgpkmepalmdmeaaK7
import Derived.Test.YtgpkmepalmdmeaaK9
set_option linter.all false
section
set_option linter.unusedSimpArgs false
set_option linter.unusedVariables false
set_option maxRecDepth 20000
set_option maxHeartbeats 4000000
namespace Go.Ab
open Classical
/-- A closure that holds a box of the call's own, handed on. -/
noncomputable def expoP (e : Option Ent) (o : Nat) : Option AV :=
  match e with
  | some (.cells cs) => if ∀ c ∈ cs, Flat c then some (.ip cs o) else none
  | _ => none
theorem expo_clo1 (st : St) (f s g o : Nat) : expo st (.clo f [.ptr s g o]) = (expoP (st.heap s g) o).map fun y => .clo f [y] := by
  have hn : ¬ Flat (.clo f [.ptr s g o]) := by intro h; cases h with | clo _ _ h => exact not_flat_ptr s g o (h _ (by simp))
  unfold expo expoP
  rw [if_neg hn]
  simp only [List.map_cons, List.map_nil]
  unfold expo1
  rw [if_neg (not_flat_ptr s g o)]
  simp only
  cases st.heap s g with
  | none => rfl
  | some e => cases e with
    | cells cs =>
      by_cases h : ∀ c ∈ cs, Flat c
      · simp only [if_pos h, optAll, Option.map_some]
      · simp only [if_neg h, optAll, Option.map_none]
    | _ => rfl
theorem expoP_root (r : Root) (o : Nat) : expoP (some (.cells (cRoot r))) o = some (.ip (cRoot r) o) := if_pos (flat_cRoot r)
namespace Try
open Go.Proofs
theorem c93 (n : Node) (r : Root) : callL Try.prog 93 [.agg (cNode n), .ip (cRoot r) 0] = some (.v (.bool (decide (n.block.root = r)))) := by
  rw [callL_eq Try.prog Try.func93 rfl ok93 _ (ext_none _ (by decide)) rfl]
  simp -implicitDefEqProofs only [ZZ, seval]
  exact endL_tmp (keep_none (by decide)) (.inl rfl) rfl (by simp only [EV, seval]) (.v _)
theorem flatIpR (r : Root) : Flat (.ip (cRoot r) 0) := .ip _ _ (flat_cRoot r)
theorem k93 (n : Node) (r : Root) (st : St) (d : Option Nat) : callFn (callL Try.prog) 93 ([.agg (cNode n)] ++ [.ip (cRoot r) 0]) st d = some { dst := d, val := .v (.bool (decide (n.block.root = r))) } := call_flat (flat2 (.agg _ (flat_cNode n)) (flatIpR r)) (c93 n r) (.v _)
/-- slices.IndexFunc of nodes, by a root -/
theorem c92 (ns : List Node) (hn : (ns.length : Int) < 1000000) (r : Root) : callL Try.prog 92 [.sl ns.length (csNode ns), .clo 93 [.ip (cRoot r) 0]] = some (.v (.int .i64 (findR ns r))) := by
  rw [callL_eq Try.prog Try.func92 rfl ok92 _ (ext_none _ (by decide)) rfl]
  simp -implicitDefEqProofs only [ZZ, seval]
  refine use_loop (fun n st => ∃ i : Int, (st.env 0 = .sl ns.length (csNode ns) ∧ st.env 1 = .clo 93 [.ip (cRoot r) 0] ∧ st.env 7 = .v (.int .i64 ns.length) ∧ st.env 8 = .v (.int .i64 i)) ∧ 0 ≤ i ∧ i ≤ ns.length ∧ n = (ns.length - i).toNat ∧ ∀ j, 0 ≤ j → j < i → (nd ns j).block.root ≠ r)
    (fun e st => (e = .ret ∧ st.env 4 = .v (.int .i64 (findR ns r))) ∨ (e = .exit 0 ∧ findR ns r = -1)) ns.length ?step ?start ?rest
  case step =>
    rintro n st ⟨i, hI, i0, i1, hn', hb⟩
    by_cases hlt : i < ns.length
    · have hw : IntKind.i64.wrap (i + 1) = i + 1 := w64 _ (by omega) (by omega)
      by_cases hr : (nd ns i).block.root = r
      · have hd : decide ((nd ns i).block.root = r) = true := decide_eq_true hr
        refine go_out (e := .ret) (st' := ?s1) ?h1 (by simp) ?q1
        case h1 =>
          simp -implicitDefEqProofs only [ZZ, seval, hI, hlt, i0, k93, hd]
          rfl
        case q1 => exact .inl ⟨rfl, by simp only [EV, seval, findR_at i0 hlt hr hb]⟩
      · have hd : decide ((nd ns i).block.root = r) = false := decide_eq_false hr
        refine go_on (st' := ?s2) ?h2 ((ns.length - (i + 1)).toNat) (by omega) ?q2
        case h2 =>
          simp -implicitDefEqProofs only [ZZ, seval, hI, hlt, i0, k93, hd, hw]
          rfl
        case q2 => exact ⟨i + 1, by simp only [EV, seval, hI], by omega, by omega, rfl, fun j j0 j1 => by
          rcases Int.lt_or_eq_of_le (show j ≤ i by omega) with h | rfl
          · exact hb j j0 h
          · exact hr⟩
    · refine go_out (e := .exit 0) (st' := ?s3) ?h3 (by simp) ?q3
      case h3 =>
        simp -implicitDefEqProofs only [ZZ, seval, hI, hlt, i0]
        rfl
      case q3 => exact .inr ⟨rfl, findR_none fun j j0 j1 => hb j j0 (by omega)⟩
  case start => exact ⟨0, (by simp only [EV, seval]), by omega, by omega, by omega, fun j _ _ => by omega⟩
  case rest =>
    rintro e st (⟨rfl, h⟩ | ⟨rfl, h⟩)
    · simp -implicitDefEqProofs only [ZZ, seval]
      exact endL_tmp (keep_none (by decide)) (.inl rfl) rfl h (.v _)
    · simp -implicitDefEqProofs only [ZZ, seval]
      exact endL_tmp (keep_none (by decide)) (.inl rfl) rfl (by simp only [EV, seval, h]) (.v _)
theorem q92 (args : List AV) (st : St) (d : Option Nat) : callFn (callL Try.prog) 92 args st d = callQ (callL Try.prog) 92 (optAll (args.map (expo st))) (decide (∀ x ∈ args, Flat x)) st d := callFn_Q _ _ _ _ _
theorem k92 (ns : List Node) (hn : (ns.length : Int) < 1000000) (r : Root) (fl : Bool) (st : St) (d : Option Nat) : callQ (callL Try.prog) 92 (some [.sl ns.length (csNode ns), .clo 93 [.ip (cRoot r) 0]]) fl st d = some { dst := d, val := .v (.int .i64 (findR ns r)) } := Q_int (c92 ns hn r)
theorem expo_slN (st : St) (n : Nat) (l : List Node) : expo st (.sl n (csNode l)) = some (.sl n (csNode l)) := expo_id (.sl _ _ (flat_csNode l))
/-- blocktree.Find -/
theorem c59 (ns : List Node) (r : Root) (hn : (ns.length : Int) < 1000000) : callL Try.prog 59 [.agg (cTree ⟨ns⟩), .agg (cRoot r)] = some (.v (.int .i64 (findR ns r))) := by
  rw [callL_eq Try.prog Try.func59 rfl ok59 _ (ext_none _ (by decide)) rfl]
  simp -implicitDefEqProofs only [ZZ, seval, q92, expo_clo1, expoP_root, expo_slN, k92, hn]
  exact endL_tmp (keep_none (by decide)) (.inl rfl) rfl (by simp only [EV, seval]) (.v _)
theorem k59 (ns : List Node) (r : Root) (hn : (ns.length : Int) < 1000000) (st : St) (d : Option Nat) : callFn (callL Try.prog) 59 [.agg (cTree ⟨ns⟩), .agg (cRoot r)] st d = some { dst := d, val := .v (.int .i64 (findR ns r)) } := call_flat (flat2 (flatT _) (flatR _)) (c59 ns r hn) (.v _)
/-- slices.Clip of nodes -/
theorem slice23_clip (st : St) (ns : List Node) (hi mx : Operand) (h1 : st.ev hi = .v (.int .i64 ns.length)) (h2 : st.ev mx = .v (.int .i64 ns.length)) : sliceA3 Try.prog st 23 (.sl ns.length (csNode ns)) none hi mx = some (.cl ns.length (csNode ns)) := by
  have hl : (csNode ns).length = ns.length * 240 := by simp
  simp only [sliceA3, sl23, h1, h2, hl]
  rw [if_pos (by refine ⟨Int.le_refl _, by omega, trivial, Int.le_refl _, trivial⟩)]
  simp only [Int.toNat_zero, Nat.zero_mul, List.drop_zero, Int.sub_zero, Int.toNat_natCast]
  rw [List.take_of_length_le (by simp)]
theorem c91 (ns : List Node) : callL Try.prog 91 [.sl ns.length (csNode ns)] = some (.cl ns.length (csNode ns)) := by
  rw [callL_eq Try.prog Try.func91 rfl ok91 _ (ext_none _ (by decide)) rfl]
  simp -implicitDefEqProofs only [ZZ, seval, slice23_clip]
  exact endL_tmp (keep_none (by decide)) (.inl rfl) rfl (by simp only [EV, seval]) (.cl _ _ (flat_csNode ns))
theorem k91 (ns : List Node) (st : St) (d : Option Nat) : callFn (callL Try.prog) 91 [.sl ns.length (csNode ns)] st d = some { dst := d, val := .cl ns.length (csNode ns) } := call_flat (flat1 (.sl _ _ (flat_csNode ns))) (c91 ns) (.cl _ _ (flat_csNode ns))
end Try
end Go.Ab
end
section
set_option linter.unusedSimpArgs false
set_option linter.unusedVariables false
set_option maxRecDepth 20000
set_option maxHeartbeats 4000000
namespace Go.Ab.Try
open Classical Go.Proofs Go.Ab
/-- blocktree.Insert -/
theorem c54 (ns : List Node) (hn : (ns.length : Int) < 1000000) (b : Block) (s : Int) : callL Try.prog 54 [.agg (cTree ⟨ns⟩), .agg (cBlock b), .v (.int .i64 s)] = some (insA ns b s) := by
  rw [callL_eq Try.prog Try.func54 rfl ok54 _ (ext_none _ (by decide)) rfl]
  have hu := findR_range ns b.parent
  cases hs : isSt s
  · simp -implicitDefEqProofs only [ZZ, seval, k90, hs]
    rw [show insA ns b s = .tup [.agg [.v (.slice none 0 0)], .v (.int .i64 2)] from by simp [insA, insE, hs]]
    exact endL_two (keep_none (by decide)) (.inl rfl) rfl (by simp -implicitDefEqProofs only [resA, ZZ, seval]; rfl) (by simp only [resA, EV, seval] <;> rfl) (by simp only [EV, seval] <;> rfl) (by simp only [EV, seval] <;> rfl)
  by_cases h1 : 0 ≤ findR ns b.root
  · simp -implicitDefEqProofs only [ZZ, seval, k90, hs, k59, hn, h1]
    rw [show insA ns b s = .tup [.agg [.v (.slice none 0 0)], .v (.int .i64 9)] from by simp [insA, insE, hs, h1]]
    exact endL_two (keep_none (by decide)) (.inl rfl) rfl (by simp -implicitDefEqProofs only [resA, ZZ, seval]; rfl) (by simp only [resA, EV, seval] <;> rfl) (by simp only [EV, seval] <;> rfl) (by simp only [EV, seval] <;> rfl)
  by_cases h2 : findR ns b.parent < 0
  · simp -implicitDefEqProofs only [ZZ, seval, k90, hs, k59, hn, h1, h2]
    rw [show insA ns b s = .tup [.agg [.v (.slice none 0 0)], .v (.int .i64 10)] from by simp [insA, insE, hs, h1, h2]]
    exact endL_two (keep_none (by decide)) (.inl rfl) rfl (by simp -implicitDefEqProofs only [resA, ZZ, seval]; rfl) (by simp only [resA, EV, seval] <;> rfl) (by simp only [EV, seval] <;> rfl) (by simp only [EV, seval] <;> rfl)
  have u0 : 0 ≤ findR ns b.parent := by omega
  have u1 : findR ns b.parent < ns.length := hu.2
  by_cases h3 : b.slot ≤ (nd ns (findR ns b.parent)).block.slot
  · simp -implicitDefEqProofs only [ZZ, seval, k90, hs, k59, hn, h1, h2, u0, u1, h3]
    rw [show insA ns b s = .tup [.agg [.v (.slice none 0 0)], .v (.int .i64 14)] from by simp [insA, insE, hs, h1, h2, h3]]
    exact endL_two (keep_none (by decide)) (.inl rfl) rfl (by simp -implicitDefEqProofs only [resA, ZZ, seval]; rfl) (by simp only [resA, EV, seval] <;> rfl) (by simp only [EV, seval] <;> rfl) (by simp only [EV, seval] <;> rfl)
  by_cases h4 : 4096 ≤ (ns.length : Int)
  · simp -implicitDefEqProofs only [ZZ, seval, k90, hs, k59, hn, h1, h2, u0, u1, h3, h4]
    rw [show insA ns b s = .tup [.agg [.v (.slice none 0 0)], .v (.int .i64 11)] from by simp [insA, insE, hs, h1, h2, h3, h4]]
    exact endL_two (keep_none (by decide)) (.inl rfl) rfl (by simp -implicitDefEqProofs only [resA, ZZ, seval]; rfl) (by simp only [resA, EV, seval] <;> rfl) (by simp only [EV, seval] <;> rfl) (by simp only [EV, seval] <;> rfl)
  · simp -implicitDefEqProofs only [ZZ, seval, k90, hs, k59, hn, h1, h2, u0, u1, h3, h4, k91]
    rw [show insA ns b s = .tup [.agg (cTree ⟨ns ++ [⟨b, findR ns b.parent, s⟩]⟩), .v (.int .i64 0)] from by simp [insA, insE, hs, h1, h2, h3, h4]]
    exact endL_two (keep_none (by decide)) (.inl rfl) rfl (by simp -implicitDefEqProofs only [resA, ZZ, seval]; rfl) (by simp only [resA, EV, seval] <;> rfl) (by simp only [EV, seval] <;> rfl) (by simp only [EV, seval] <;> rfl)
theorem k54 (ns : List Node) (hn : (ns.length : Int) < 1000000) (b : Block) (s : Int) (st : St) (d : Option Nat) : callEat (callL Try.prog) 54 [.agg (cTree ⟨ns⟩), .agg (cBlock b), .v (.int .i64 s)] st d = some { dst := d, val := insA ns b s } := eat_call (flat3 (flatT _) (flatB _) (.v _)) (c54 ns hn b s) (flat_insA ns b s)
theorem e54 (s k : Nat) (b : Block) (x : Int) (st : St) (d : Option Nat) : callEat (callL Try.prog) 54 [.agg [.own s k], .agg (cBlock b), .v (.int .i64 x)] st d = callEQ (callL Try.prog) 54 (optAll ([.agg [.own s k], .agg (cBlock b), .v (.int .i64 x)].map (expo st))) s k d := by
  refine eat_one ?_ ?_
  · simp only [List.flatMap_cons, List.flatMap_nil, flat_keys (flatB b), flat_keys (.v (.int .i64 x)), List.append_nil]
    rfl
  · intro y hy
    rcases List.mem_cons.1 hy with rfl | hy
    · exact .inr (.inr ⟨_, rfl, fun c hc => .inr ⟨s, k, by simpa using hc⟩⟩)
    · rcases List.mem_cons.1 hy with rfl | hy
      · exact .inl (flatB b)
      · simp at hy; subst hy; exact .inl (.v _)
/-- A list of indexes that is handed over: nil where it is empty. -/
noncomputable def rowO (l : List Int) : AV := if l = [] then .v (.slice none 0 0) else .uniq 3 1 l.length (csInt l)
theorem rowO_nil : rowO [] = .v (.slice none 0 0) := if_pos rfl
theorem rowO_ne {l : List Int} (h : l ≠ []) : rowO l = .uniq 3 1 l.length (csInt l) := if_neg h
/-- The children among the first nodes. -/
def chl (ns : List Node) (i : Int) : Nat → List Int
  | 0 => []
  | k + 1 => if (nd ns k).up = i then chl ns i k ++ [(k : Int)] else chl ns i k
theorem chl_len (ns : List Node) (i : Int) : ∀ k, (chl ns i k).length ≤ k
  | 0 => Nat.le_refl _
  | k + 1 => by
    have := chl_len ns i k
    simp only [chl]
    split
    · simp; omega
    · omega
theorem chl_none {ns : List Node} {i : Int} : ∀ k : Nat, (∀ j : Int, 0 ≤ j → j < k → (nd ns j).up ≠ i) → chl ns i k = []
  | 0, _ => rfl
  | k + 1, h => by
    simp only [chl]
    rw [if_neg (h k (by omega) (by omega))]
    exact chl_none k fun j j0 j1 => h j j0 (by omega)
theorem up_lt {ns : List Node} (hu : UpOk ns) (hr : (nd ns 0).up = -1) {j : Int} (j0 : 0 ≤ j) (j1 : j < ns.length) : (nd ns j).up < ns.length := by
  by_cases h : j = 0
  · subst h; omega
  · have := hu j (by omega) j1; omega
/-- What Children answers. -/
def chlV (ns : List Node) (i : Int) : List Int := if i < 0 then [] else chl ns i ns.length
theorem chlV_big {ns : List Node} (hu : UpOk ns) (hr : (nd ns 0).up = -1) {i : Int} (h : ¬ (0 ≤ i ∧ i < ns.length)) : chlV ns i = [] := by
  unfold chlV
  split
  · rfl
  · exact chl_none _ fun j j0 j1 => by have := up_lt hu hr j0 j1; omega
/-- blocktree.Children -/
theorem c56 (ns : List Node) (hn : (ns.length : Int) < 1000000) (i : Int) : callL Try.prog 56 [.agg (cTree ⟨ns⟩), .v (.int .i64 i)] = some (rowO (chlV ns i)) := by
  rw [callL_eq Try.prog Try.func56 rfl ok56 _ (ext_none _ (by decide)) rfl]
  by_cases h0 : i < 0
  · rw [show chlV ns i = [] from if_pos h0, rowO_nil]
    simp -implicitDefEqProofs only [ZZ, seval, h0]
    exact endL_tmp (keep_none (by decide)) (.inl rfl) rfl (by simp only [EV, seval]) (.v _)
  · rw [show chlV ns i = chl ns i ns.length from if_neg h0]
    simp -implicitDefEqProofs only [ZZ, seval, h0]
    refine use_loop (fun n st => ∃ k : Nat, (st.env 1 = .v (.int .i64 i) ∧ st.env 11 = .sl ns.length (csNode ns) ∧ st.env 12 = .v (.int .i64 ns.length) ∧ st.env 13 = .v (.int .i64 k)) ∧
        ((chl ns i k = [] ∧ st.env 5 = .v (.slice none 0 0)) ∨ (chl ns i k ≠ [] ∧ ∃ g, st.env 5 = .own 25 g ∧ g < st.cnt 25 ∧ st.heap 25 g = some (.row 3 1 (chl ns i k).length (csInt (chl ns i k))))) ∧ k ≤ ns.length ∧ n = ns.length - k)
      (fun e st => e = .exit 0 ∧ ((chl ns i ns.length = [] ∧ st.env 5 = .v (.slice none 0 0)) ∨ (chl ns i ns.length ≠ [] ∧ ∃ g, st.env 5 = .own 25 g ∧ g < st.cnt 25 ∧ st.heap 25 g = some (.row 3 1 (chl ns i ns.length).length (csInt (chl ns i ns.length)))))) ns.length ?step ?start ?rest
    case step =>
      rintro n st ⟨k, hI, h5, hk, hn'⟩
      have hl := chl_len ns i k
      have hl' : ((chl ns i k).length : Int) < 1000000 := by omega
      by_cases hlt : (k : Int) < ns.length
      · have hw : IntKind.i64.wrap ((k : Int) + 1) = ((k + 1 : Nat) : Int) := by rw [w64 _ (by omega) (by omega)]; omega
        have q0 : (0 : Int) ≤ k := by omega
        by_cases hu : (nd ns k).up = i
        · have hq : ((nd ns k).up == i) = true := by simp [hu]
          have hs : chl ns i (k + 1) = chl ns i k ++ [(k : Int)] := by simp only [chl, hu, if_true]
          rcases h5 with ⟨hy, h5⟩ | ⟨hy, g, h5⟩
          · rw [hy] at hs
            refine go_on (st' := ?s1) ?h1 (ns.length - (k + 1)) (by omega) ?q1
            case h1 =>
              simp -implicitDefEqProofs only [ZZ, seval, hI, h5, hlt, hw, q0, hq]
              rfl
            case q1 => exact ⟨k + 1, by simp only [EV, seval, hI], .inr ⟨by rw [hs]; simp, _, by simp only [EV, seval] <;> rfl, (by simp only [EV, seval] <;> omega), (by rw [hs]; simp only [EV, seval] <;> rfl)⟩, by omega, rfl⟩
          · refine go_on (st' := ?s2) ?h2 (ns.length - (k + 1)) (by omega) ?q2
            case h2 =>
              simp -implicitDefEqProofs only [ZZ, seval, hI, h5, hl', hlt, hw, q0, hq]
              rfl
            case q2 => exact ⟨k + 1, by simp only [EV, seval, hI], .inr ⟨by rw [hs]; simp, _, by simp only [EV, seval] <;> rfl, (by simp only [EV, seval] <;> omega), (by rw [hs]; simp only [EV, seval] <;> rfl)⟩, by omega, rfl⟩
        · have hq : ((nd ns k).up == i) = false := by simp [hu]
          have hs : chl ns i (k + 1) = chl ns i k := by simp only [chl, hu, if_false]
          refine go_on (st' := ?s3) ?h3 (ns.length - (k + 1)) (by omega) ?q3
          case h3 =>
            simp -implicitDefEqProofs only [ZZ, seval, hI, hlt, hw, q0, hq]
            rfl
          case q3 => exact ⟨k + 1, by simp only [EV, seval, hI], by rw [hs]; simpa only [EV, seval] using h5, by omega, rfl⟩
      · obtain rfl : k = ns.length := by omega
        refine go_out (e := .exit 0) (st' := ?s4) ?h4 (by simp) ?q4
        case h4 =>
          simp -implicitDefEqProofs only [ZZ, seval, hI, hlt]
          rfl
        case q4 => exact ⟨rfl, by simpa only [EV, seval] using h5⟩
    case start => exact ⟨0, (by simp only [EV, seval]), .inl ⟨rfl, (by simp only [EV, seval])⟩, by omega, rfl⟩
    case rest =>
      rintro e st ⟨rfl, ⟨hy, h5⟩ | ⟨hy, g, h5, hg, hh5⟩⟩
      · rw [hy, rowO_nil]
        simp -implicitDefEqProofs only [ZZ, seval, h5]
        exact endL_tmp (keep_none (by decide)) (.inl rfl) rfl (by simp only [EV, seval]) (.v _)
      · rw [rowO_ne hy]
        simp -implicitDefEqProofs only [ZZ, seval, h5, hh5]
        exact endL_row (keep_none (by decide)) (.inl rfl) rfl (by simp only [EV, seval]; rfl) (by simp only [EV, seval, hh5]) (flat_csInt _)
/-- ref11.Children -/
theorem c57 (ns : List Node) (hu : UpOk ns) (hr : (nd ns 0).up = -1) (hn : (ns.length : Int) < 1000000) (i : Int) : callL Try.prog 57 [.agg (cTree ⟨ns⟩), .v (.int .i64 i)] = some (rowO (chlV ns i)) := by
  rw [callL_eq Try.prog Try.func57 rfl ok57 _ (ext_none _ (by decide)) rfl]
  by_cases hm : 0 ≤ i ∧ i < ns.length
  · have hd : (decide (0 ≤ i) && decide (i < ns.length)) = true := by simp [hm.1, hm.2]
    rw [show chlV ns i = chl ns i ns.length from if_neg (by omega)]
    simp -implicitDefEqProofs only [ZZ, seval]
    refine use_loop (fun n st => ∃ k : Nat, (st.env 1 = .v (.int .i64 i) ∧ st.env 2 = .ptr 2 0 0 ∧ st.heap 2 0 = some (.cells (cTree ⟨ns⟩)) ∧ st.env 6 = .v (.int .i64 k)) ∧
        ((chl ns i k = [] ∧ st.env 5 = .v (.slice none 0 0)) ∨ (chl ns i k ≠ [] ∧ ∃ g, st.env 5 = .own 30 g ∧ g < st.cnt 30 ∧ st.heap 30 g = some (.row 3 1 (chl ns i k).length (csInt (chl ns i k))))) ∧ k ≤ ns.length ∧ n = ns.length - k)
      (fun e st => e = .exit 0 ∧ ((chl ns i ns.length = [] ∧ st.env 5 = .v (.slice none 0 0)) ∨ (chl ns i ns.length ≠ [] ∧ ∃ g, st.env 5 = .own 30 g ∧ g < st.cnt 30 ∧ st.heap 30 g = some (.row 3 1 (chl ns i ns.length).length (csInt (chl ns i ns.length)))))) ns.length ?step ?start ?rest
    case step =>
      rintro n st ⟨k, hI, h5, hk, hn'⟩
      have hl := chl_len ns i k
      have hl' : ((chl ns i k).length : Int) < 1000000 := by omega
      by_cases hlt : (k : Int) < ns.length
      · have hw : IntKind.i64.wrap ((k : Int) + 1) = ((k + 1 : Nat) : Int) := by rw [w64 _ (by omega) (by omega)]; omega
        have q0 : (0 : Int) ≤ k := by omega
        by_cases hu : (nd ns k).up = i
        · have hq : ((nd ns k).up == i) = true := by simp [hu]
          have hs : chl ns i (k + 1) = chl ns i k ++ [(k : Int)] := by simp only [chl, hu, if_true]
          rcases h5 with ⟨hy, h5⟩ | ⟨hy, g, h5⟩
          · rw [hy] at hs
            refine go_on (st' := ?s5) ?h5 (ns.length - (k + 1)) (by omega) ?q5
            case h5 =>
              simp -implicitDefEqProofs only [ZZ, seval, hI, h5, hlt, hw, q0, hq, k86, hd]
              rfl
            case q5 => exact ⟨k + 1, by simp only [EV, seval, hI], .inr ⟨by rw [hs]; simp, _, by simp only [EV, seval] <;> rfl, (by simp only [EV, seval] <;> omega), (by rw [hs]; simp only [EV, seval] <;> rfl)⟩, by omega, rfl⟩
          · refine go_on (st' := ?s6) ?h6 (ns.length - (k + 1)) (by omega) ?q6
            case h6 =>
              simp -implicitDefEqProofs only [ZZ, seval, hI, h5, hl', hlt, hw, q0, hq, k86, hd]
              rfl
            case q6 => exact ⟨k + 1, by simp only [EV, seval, hI], .inr ⟨by rw [hs]; simp, _, by simp only [EV, seval] <;> rfl, (by simp only [EV, seval] <;> omega), (by rw [hs]; simp only [EV, seval] <;> rfl)⟩, by omega, rfl⟩
        · have hq : ((nd ns k).up == i) = false := by simp [hu]
          have hs : chl ns i (k + 1) = chl ns i k := by simp only [chl, hu, if_false]
          refine go_on (st' := ?s7) ?h7 (ns.length - (k + 1)) (by omega) ?q7
          case h7 =>
            simp -implicitDefEqProofs only [ZZ, seval, hI, hlt, hw, q0, hq, k86, hd]
            rfl
          case q7 => exact ⟨k + 1, by simp only [EV, seval, hI], by rw [hs]; simpa only [EV, seval] using h5, by omega, rfl⟩
      · obtain rfl : k = ns.length := by omega
        refine go_out (e := .exit 0) (st' := ?s8) ?h8 (by simp) ?q8
        case h8 =>
          simp -implicitDefEqProofs only [ZZ, seval, hI, hlt]
          rfl
        case q8 => exact ⟨rfl, by simpa only [EV, seval] using h5⟩
    case start => exact ⟨0, (by simp only [EV, seval]), .inl ⟨rfl, (by simp only [EV, seval])⟩, by omega, rfl⟩
    case rest =>
      rintro e st ⟨rfl, ⟨hy, h5⟩ | ⟨hy, g, h5, hg, hh5⟩⟩
      · rw [hy, rowO_nil]
        simp -implicitDefEqProofs only [ZZ, seval, h5]
        exact endL_tmp (keep_none (by decide)) (.inl rfl) rfl (by simp only [EV, seval]) (.v _)
      · rw [rowO_ne hy]
        simp -implicitDefEqProofs only [ZZ, seval, h5, hh5]
        exact endL_row (keep_none (by decide)) (.inl rfl) rfl (by simp only [EV, seval]; rfl) (by simp only [EV, seval, hh5]) (flat_csInt _)
  · have hd : (decide (0 ≤ i) && decide (i < ns.length)) = false := by
      rw [← Bool.not_eq_true]; simpa using hm
    rw [chlV_big hu hr hm, rowO_nil]
    by_cases h0 : (0 : Int) < ns.length
    · simp -implicitDefEqProofs only [ZZ, seval, evL_loop, k86, hd, h0]
      exact endL_tmp (keep_none (by decide)) (.inl rfl) rfl (by simp only [EV, seval]) (.v _)
    · simp -implicitDefEqProofs only [ZZ, seval, evL_loop, k86, hd, h0]
      exact endL_tmp (keep_none (by decide)) (.inl rfl) rfl (by simp only [EV, seval]) (.v _)
/-- blocktree.Depth -/
theorem c58 (ns : List Node) (hu : UpOk ns) (hr : (nd ns 0).up = -1) (hn : (ns.length : Int) < 1000000) (i : Int) : callL Try.prog 58 [.agg (cTree ⟨ns⟩), .v (.int .i64 i)] = some (.v (.int .i64 (path ns i).length)) := by
  rw [callL_eq Try.prog Try.func58 rfl ok58 _ (ext_none _ (by decide)) rfl]
  simp -implicitDefEqProofs only [ZZ, seval]
  refine use_loop (fun n st => ∃ (c : Int) (m : Nat), (st.env 1 = .v (.int .i64 c) ∧ st.env 2 = .ptr 2 0 0 ∧ st.heap 2 0 = some (.cells (cTree ⟨ns⟩)) ∧ st.env 5 = .v (.int .i64 m)) ∧ (path ns i).length = m + (path ns c).length ∧ n = (path ns c).length)
    (fun e st => e = .exit 0 ∧ st.env 5 = .v (.int .i64 (path ns i).length)) (path ns i).length ?step ?start ?rest
  case step =>
    rintro n st ⟨c, m, hI, hm, hn'⟩
    have hpl := path_lt hu i
    by_cases h0 : 0 ≤ c
    · by_cases h1 : c < ns.length
      · have hp : path ns c = path ns (nd ns c).up ++ [c] := by
          by_cases hc : c = 0
          · subst hc; rw [hr, path_none (i := -1) (by omega), path_zero (by omega)]; rfl
          · exact path_step hu (by omega) h1
        have hpc : (path ns c).length = (path ns (nd ns c).up).length + 1 := by rw [hp]; simp
        have hw : IntKind.i64.wrap ((m : Int) + 1) = ((m + 1 : Nat) : Int) := by rw [w64 _ (by omega) (by omega)]; omega
        refine go_on (st' := ?s9) ?h9 ((path ns (nd ns c).up).length) (by omega) ?q9
        case h9 =>
          simp -implicitDefEqProofs only [ZZ, seval, hI, h0, h1, hw]
          rfl
        case q9 => exact ⟨(nd ns c).up, m + 1, by simp only [EV, seval, hI], by omega, rfl⟩
      · have hp : (path ns c).length = 0 := by rw [path_none (by omega)]; rfl
        refine go_out (e := .exit 0) (st' := ?s10) ?h10 (by simp) ?q10
        case h10 =>
          simp -implicitDefEqProofs only [ZZ, seval, hI, h0, h1]
          rfl
        case q10 => exact ⟨rfl, by simp only [EV, seval, hI]; rw [hm, hp, Nat.add_zero]⟩
    · have hp : (path ns c).length = 0 := by rw [path_none (by omega)]; rfl
      refine go_out (e := .exit 0) (st' := ?s11) ?h11 (by simp) ?q11
      case h11 =>
        simp -implicitDefEqProofs only [ZZ, seval, hI, h0]
        rfl
      case q11 => exact ⟨rfl, by simp only [EV, seval, hI]; rw [hm, hp, Nat.add_zero]⟩
  case start => exact ⟨i, 0, by simp only [EV, seval], by omega, rfl⟩
  case rest =>
    rintro e st ⟨rfl, h5⟩
    simp -implicitDefEqProofs only [ZZ, seval, h5]
    exact endL_tmp (keep_none (by decide)) (.inl rfl) rfl (by simp only [EV, seval]) (.v _)
end Go.Ab.Try
end
section
set_option linter.unusedSimpArgs false
set_option linter.unusedVariables false
set_option maxRecDepth 20000
set_option maxHeartbeats 4000000
namespace Go.Ab.Try
open Classical Go.Proofs Go.Ab
/-- The leaves among the first nodes. -/
noncomputable def lvs (ns : List Node) : Nat → List Int
  | 0 => []
  | k + 1 => if chl ns k ns.length = [] then lvs ns k ++ [(k : Int)] else lvs ns k
theorem lvs_len (ns : List Node) : ∀ k, (lvs ns k).length ≤ k
  | 0 => Nat.le_refl _
  | k + 1 => by
    have := lvs_len ns k
    simp only [lvs]
    split
    · simp; omega
    · omega
/-- blocktree.Leaves -/
theorem c61 (ns : List Node) (hu : UpOk ns) (hr : (nd ns 0).up = -1) (hn : (ns.length : Int) < 1000000) : callL Try.prog 61 [.agg (cTree ⟨ns⟩)] = some (rowO (lvs ns ns.length)) := by
  rw [callL_eq Try.prog Try.func61 rfl ok61 _ (ext_none _ (by decide)) rfl]
  have hmax : (ns.length : Int) ≤ maxLen := by unfold maxLen; omega
  have hb1 : (ns.length : Int) * 1 ≤ 140737488355328 := by omega
  have hnn : (0 : Int) ≤ (ns.length : Int) := by omega
  simp -implicitDefEqProofs only [ZZ, seval, hmax, hb1, hnn, mk_b, Int.toNat_natCast]
  refine use_loop (fun n st => ∃ (k : Nat) (fl : List Bool), (st.env 3 = .own 12 0 ∧ st.heap 12 0 = some (.row 4 1 ns.length (csB fl)) ∧ st.env 14 = .sl ns.length (csNode ns) ∧ st.env 15 = .v (.int .i64 ns.length) ∧ st.env 16 = .v (.int .i64 k)) ∧ fl.length = ns.length ∧ (∀ j : Nat, fl.getD j false = decide (chl ns j k ≠ [])) ∧ k ≤ ns.length ∧ n = ns.length - k)
    (fun e st => e = .exit 0 ∧ ∃ fl : List Bool, st.env 3 = .own 12 0 ∧ st.heap 12 0 = some (.row 4 1 ns.length (csB fl)) ∧ fl.length = ns.length ∧ ∀ j : Nat, fl.getD j false = decide (chl ns j ns.length ≠ [])) ns.length ?step ?start ?rest
  case step =>
    rintro n st ⟨k, fl, hI, hfl, hb, hk, hn'⟩
    by_cases hlt : (k : Int) < ns.length
    · have hw : IntKind.i64.wrap ((k : Int) + 1) = ((k + 1 : Nat) : Int) := by rw [w64 _ (by omega) (by omega)]; omega
      have q0 : (0 : Int) ≤ k := by omega
      have hup := up_lt hu hr q0 hlt
      by_cases hu0 : 0 ≤ (nd ns k).up
      · have hul : (nd ns k).up.toNat < fl.length := by omega
        have hle : (nd ns k).up.toNat + 1 ≤ fl.length := by omega
        have hb' : ∀ j : Nat, (fl.set (nd ns k).up.toNat true).getD j false = decide (chl ns j (k + 1) ≠ []) := by
          intro j
          by_cases hj : j = (nd ns k).up.toNat
          · have : (nd ns k).up = (j : Int) := by omega
            have hs : chl ns j (k + 1) ≠ [] := by simp only [chl]; rw [if_pos this]; simp
            rw [decide_eq_true hs, ← hj]
            simp [show j < fl.length by omega]
          · have : (nd ns k).up ≠ (j : Int) := by omega
            have hs : chl ns j (k + 1) = chl ns j k := by simp only [chl]; rw [if_neg this]
            rw [hs, ← hb j]
            simp [List.getElem?_set_ne (Ne.symm hj)]
        refine go_on (st' := ?s1) ?h1 (ns.length - (k + 1)) (by omega) ?q1
        case h1 =>
          simp -implicitDefEqProofs only [ZZ, seval, hI, hlt, hw, q0, hu0, hup, idx93_own, ioE_b, up_csB hul, len_csB, hle]
          rfl
        case q1 => exact ⟨k + 1, fl.set (nd ns k).up.toNat true, ⟨by simp only [EV, seval, hI], by simp only [EV, seval, hI], by simp only [EV, seval, hI]⟩, by simp [hfl], hb', by omega, rfl⟩
      · have hb' : ∀ j : Nat, fl.getD j false = decide (chl ns j (k + 1) ≠ []) := by
          intro j
          have : (nd ns k).up ≠ (j : Int) := by omega
          have hs : chl ns j (k + 1) = chl ns j k := by simp only [chl]; rw [if_neg this]
          rw [hs]; exact hb j
        refine go_on (st' := ?s2) ?h2 (ns.length - (k + 1)) (by omega) ?q2
        case h2 =>
          simp -implicitDefEqProofs only [ZZ, seval, hI, hlt, hw, q0, hu0]
          rfl
        case q2 => exact ⟨k + 1, fl, by simp only [EV, seval, hI], hfl, hb', by omega, rfl⟩
    · obtain rfl : k = ns.length := by omega
      refine go_out (e := .exit 0) (st' := ?s3) ?h3 (by simp) ?q3
      case h3 =>
        simp -implicitDefEqProofs only [ZZ, seval, hI, hlt]
        rfl
      case q3 => exact ⟨rfl, fl, by simp only [EV, seval, hI], by simp only [EV, seval, hI], hfl, hb⟩
  case start => exact ⟨0, List.replicate ns.length false, by simp only [EV, seval], by simp, fun j => by simp [List.getElem?_replicate, chl]; split <;> rfl, by omega, rfl⟩
  case rest =>
    rintro e st ⟨rfl, fl, h3, hh3, hfl, hb⟩
    simp -implicitDefEqProofs only [ZZ, seval, h3, hh3]
    refine use_loop (fun n st => ∃ k : Nat, (st.env 28 = .own 12 0 ∧ st.heap 12 0 = some (.row 4 1 ns.length (csB fl)) ∧ st.env 29 = .v (.int .i64 ns.length) ∧ st.env 30 = .v (.int .i64 k)) ∧
        ((lvs ns k = [] ∧ st.env 6 = .v (.slice none 0 0)) ∨ (lvs ns k ≠ [] ∧ ∃ g, st.env 6 = .own 40 g ∧ g < st.cnt 40 ∧ st.heap 40 g = some (.row 3 1 (lvs ns k).length (csInt (lvs ns k))))) ∧ k ≤ ns.length ∧ n = ns.length - k)
      (fun e st => e = .exit 2 ∧ ((lvs ns ns.length = [] ∧ st.env 6 = .v (.slice none 0 0)) ∨ (lvs ns ns.length ≠ [] ∧ ∃ g, st.env 6 = .own 40 g ∧ g < st.cnt 40 ∧ st.heap 40 g = some (.row 3 1 (lvs ns ns.length).length (csInt (lvs ns ns.length)))))) ns.length ?step ?start ?rest
    case step =>
      rintro n st ⟨k, hI, h5, hk, hn'⟩
      have hl := lvs_len ns k
      have hl' : ((lvs ns k).length : Int) < 1000000 := by omega
      by_cases hlt : (k : Int) < ns.length
      · have hw : IntKind.i64.wrap ((k : Int) + 1) = ((k + 1 : Nat) : Int) := by rw [w64 _ (by omega) (by omega)]; omega
        have q0 : (0 : Int) ≤ k := by omega
        have hkf : (k : Int).toNat < fl.length := by omega
        have hfb : fl.getD (k : Int).toNat false = decide (chl ns k ns.length ≠ []) := hb k
        by_cases hc : chl ns k ns.length = []
        · have hfv : fl.getD (k : Int).toNat false = false := by rw [hfb, hc]; rfl
          have hs : lvs ns (k + 1) = lvs ns k ++ [(k : Int)] := by simp only [lvs]; rw [if_pos hc]
          rcases h5 with ⟨hy, h5⟩ | ⟨hy, g, h5⟩
          · rw [hy] at hs
            refine go_on (st' := ?s4) ?h4 (ns.length - (k + 1)) (by omega) ?q4
            case h4 =>
              simp -implicitDefEqProofs only [ZZ, seval, hI, h5, hlt, hw, q0, idx93_own, ioE_b, get_csB hkf, hfv]
              rfl
            case q4 => exact ⟨k + 1, by simp only [EV, seval, hI], .inr ⟨by rw [hs]; simp, _, by simp only [EV, seval] <;> rfl, (by simp only [EV, seval] <;> omega), (by rw [hs]; simp only [EV, seval] <;> rfl)⟩, by omega, rfl⟩
          · refine go_on (st' := ?s5) ?h5 (ns.length - (k + 1)) (by omega) ?q5
            case h5 =>
              simp -implicitDefEqProofs only [ZZ, seval, hI, h5, hl', hlt, hw, q0, idx93_own, ioE_b, get_csB hkf, hfv]
              rfl
            case q5 => exact ⟨k + 1, by simp only [EV, seval, hI], .inr ⟨by rw [hs]; simp, _, by simp only [EV, seval] <;> rfl, (by simp only [EV, seval] <;> omega), (by rw [hs]; simp only [EV, seval] <;> rfl)⟩, by omega, rfl⟩
        · have hfv : fl.getD (k : Int).toNat false = true := by rw [hfb]; exact decide_eq_true hc
          have hs : lvs ns (k + 1) = lvs ns k := by simp only [lvs]; rw [if_neg hc]
          refine go_on (st' := ?s6) ?h6 (ns.length - (k + 1)) (by omega) ?q6
          case h6 =>
            simp -implicitDefEqProofs only [ZZ, seval, hI, hlt, hw, q0, idx93_own, ioE_b, get_csB hkf, hfv]
            rfl
          case q6 => exact ⟨k + 1, by simp only [EV, seval, hI], by rw [hs]; simpa only [EV, seval] using h5, by omega, rfl⟩
      · obtain rfl : k = ns.length := by omega
        refine go_out (e := .exit 2) (st' := ?s7) ?h7 (by simp) ?q7
        case h7 =>
          simp -implicitDefEqProofs only [ZZ, seval, hI, hlt]
          rfl
        case q7 => exact ⟨rfl, by simpa only [EV, seval] using h5⟩
    case start => exact ⟨0, by simp only [EV, seval, hh3], .inl ⟨rfl, (by simp only [EV, seval])⟩, by omega, rfl⟩
    case rest =>
      rintro e st ⟨rfl, ⟨hy, h5⟩ | ⟨hy, g, h5, hg, hh5⟩⟩
      · rw [hy, rowO_nil]
        simp -implicitDefEqProofs only [ZZ, seval, h5]
        exact endL_tmp (keep_none (by decide)) (.inl rfl) rfl (by simp only [EV, seval]) (.v _)
      · rw [rowO_ne hy]
        simp -implicitDefEqProofs only [ZZ, seval, h5, hh5]
        exact endL_row (keep_none (by decide)) (.inl rfl) rfl (by simp only [EV, seval]; rfl) (by simp only [EV, seval, hh5]) (flat_csInt _)
/-- The calls of Children. -/
theorem k56 (ns : List Node) (hn : (ns.length : Int) < 1000000) (i : Int) (h : chlV ns i ≠ []) (st : St) (d : Nat) : callFn (callL Try.prog) 56 [.agg (cTree ⟨ns⟩), .v (.int .i64 i)] st (some d) = some { dst := some d, val := .own d (st.cnt d), new := some (d, [.row 3 1 (chlV ns i).length (csInt (chlV ns i))]) } := by
  have hc := c56 ns hn i
  rw [rowO_ne h] at hc
  exact call_uniq (flat2 (flatT _) (.v _)) hc
theorem k56n (ns : List Node) (hn : (ns.length : Int) < 1000000) (i : Int) (h : chlV ns i = []) (st : St) (d : Option Nat) : callFn (callL Try.prog) 56 [.agg (cTree ⟨ns⟩), .v (.int .i64 i)] st d = some { dst := d, val := .v (.slice none 0 0) } := by
  have hc := c56 ns hn i
  rw [h, rowO_nil] at hc
  exact call_flat (flat2 (flatT _) (.v _)) hc (.v _)
theorem k57 (ns : List Node) (hu : UpOk ns) (hr : (nd ns 0).up = -1) (hn : (ns.length : Int) < 1000000) (i : Int) (h : chlV ns i ≠ []) (st : St) (d : Nat) : callFn (callL Try.prog) 57 [.agg (cTree ⟨ns⟩), .v (.int .i64 i)] st (some d) = some { dst := some d, val := .own d (st.cnt d), new := some (d, [.row 3 1 (chlV ns i).length (csInt (chlV ns i))]) } := by
  have hc := c57 ns hu hr hn i
  rw [rowO_ne h] at hc
  exact call_uniq (flat2 (flatT _) (.v _)) hc
theorem k57n (ns : List Node) (hu : UpOk ns) (hr : (nd ns 0).up = -1) (hn : (ns.length : Int) < 1000000) (i : Int) (h : chlV ns i = []) (st : St) (d : Option Nat) : callFn (callL Try.prog) 57 [.agg (cTree ⟨ns⟩), .v (.int .i64 i)] st d = some { dst := d, val := .v (.slice none 0 0) } := by
  have hc := c57 ns hu hr hn i
  rw [h, rowO_nil] at hc
  exact call_flat (flat2 (flatT _) (.v _)) hc (.v _)
/-- ref11.Leaves -/
theorem c62 (ns : List Node) (hu : UpOk ns) (hr : (nd ns 0).up = -1) (hn : (ns.length : Int) < 1000000) : callL Try.prog 62 [.agg (cTree ⟨ns⟩)] = some (rowO (lvs ns ns.length)) := by
  rw [callL_eq Try.prog Try.func62 rfl ok62 _ (ext_none _ (by decide)) rfl]
  simp -implicitDefEqProofs only [ZZ, seval]
  refine use_loop (fun n st => ∃ k : Nat, (st.env 1 = .ptr 1 0 0 ∧ st.heap 1 0 = some (.cells (cTree ⟨ns⟩)) ∧ st.env 4 = .v (.int .i64 k)) ∧
      ((lvs ns k = [] ∧ st.env 3 = .v (.slice none 0 0)) ∨ (lvs ns k ≠ [] ∧ ∃ g, st.env 3 = .own 20 g ∧ g < st.cnt 20 ∧ st.heap 20 g = some (.row 3 1 (lvs ns k).length (csInt (lvs ns k))))) ∧ k ≤ ns.length ∧ n = ns.length - k)
    (fun e st => e = .exit 0 ∧ ((lvs ns ns.length = [] ∧ st.env 3 = .v (.slice none 0 0)) ∨ (lvs ns ns.length ≠ [] ∧ ∃ g, st.env 3 = .own 20 g ∧ g < st.cnt 20 ∧ st.heap 20 g = some (.row 3 1 (lvs ns ns.length).length (csInt (lvs ns ns.length)))))) ns.length ?step ?start ?rest
  case step =>
    rintro n st ⟨k, hI, h5, hk, hn'⟩
    have hl := lvs_len ns k
    have hl' : ((lvs ns k).length : Int) < 1000000 := by omega
    by_cases hlt : (k : Int) < ns.length
    · have hw : IntKind.i64.wrap ((k : Int) + 1) = ((k + 1 : Nat) : Int) := by rw [w64 _ (by omega) (by omega)]; omega
      have hcv : chlV ns k = chl ns k ns.length := if_neg (by omega)
      by_cases hc : chl ns k ns.length = []
      · have hK := k57n ns hu hr hn k (by rw [hcv]; exact hc)
        have hs : lvs ns (k + 1) = lvs ns k ++ [(k : Int)] := by simp only [lvs]; rw [if_pos hc]
        rcases h5 with ⟨hy, h5⟩ | ⟨hy, g, h5⟩
        · rw [hy] at hs
          refine go_on (st' := ?s8) ?h8 (ns.length - (k + 1)) (by omega) ?q8
          case h8 =>
            simp -implicitDefEqProofs only [ZZ, seval, hI, h5, hlt, hw, hK]
            rfl
          case q8 => exact ⟨k + 1, by simp only [EV, seval, hI], .inr ⟨by rw [hs]; simp, _, by simp only [EV, seval] <;> rfl, (by simp only [EV, seval] <;> omega), (by rw [hs]; simp only [EV, seval] <;> rfl)⟩, by omega, rfl⟩
        · refine go_on (st' := ?s9) ?h9 (ns.length - (k + 1)) (by omega) ?q9
          case h9 =>
            simp -implicitDefEqProofs only [ZZ, seval, hI, h5, hl', hlt, hw, hK]
            rfl
          case q9 => exact ⟨k + 1, by simp only [EV, seval, hI], .inr ⟨by rw [hs]; simp, _, by simp only [EV, seval] <;> rfl, (by simp only [EV, seval] <;> omega), (by rw [hs]; simp only [EV, seval] <;> rfl)⟩, by omega, rfl⟩
      · have hK := k57 ns hu hr hn k (by rw [hcv]; exact hc)
        have hq : (((chlV ns k).length : Int) == 0) = false := by rw [hcv]; simp [hc]
        have hs : lvs ns (k + 1) = lvs ns k := by simp only [lvs]; rw [if_neg hc]
        refine go_on (st' := ?s10) ?h10 (ns.length - (k + 1)) (by omega) ?q10
        case h10 =>
          simp -implicitDefEqProofs only [ZZ, seval, hI, hlt, hw, hK, hq]
          rfl
        case q10 => exact ⟨k + 1, by simp only [EV, seval, hI], by rw [hs]; simpa only [EV, seval] using h5, by omega, rfl⟩
    · obtain rfl : k = ns.length := by omega
      refine go_out (e := .exit 0) (st' := ?s11) ?h11 (by simp) ?q11
      case h11 =>
        simp -implicitDefEqProofs only [ZZ, seval, hI, hlt]
        rfl
      case q11 => exact ⟨rfl, by simpa only [EV, seval] using h5⟩
  case start => exact ⟨0, by simp only [EV, seval], .inl ⟨rfl, (by simp only [EV, seval])⟩, by omega, rfl⟩
  case rest =>
    rintro e st ⟨rfl, ⟨hy, h5⟩ | ⟨hy, g, h5, hg, hh5⟩⟩
    · rw [hy, rowO_nil]
      simp -implicitDefEqProofs only [ZZ, seval, h5]
      exact endL_tmp (keep_none (by decide)) (.inl rfl) rfl (by simp only [EV, seval]) (.v _)
    · rw [rowO_ne hy]
      simp -implicitDefEqProofs only [ZZ, seval, h5, hh5]
      exact endL_row (keep_none (by decide)) (.inl rfl) rfl (by simp only [EV, seval]; rfl) (by simp only [EV, seval, hh5]) (flat_csInt _)
end Go.Ab.Try
end
section
set_option linter.unusedSimpArgs false
set_option linter.unusedVariables false
set_option maxRecDepth 20000
set_option maxHeartbeats 4000000
namespace Go.Ab.Try
open Classical Go.Proofs Go.Ab
theorem csNode_take (ns : List Node) : ∀ k : Nat, (csNode ns).take (k * 240) = csNode (ns.take k) := by
  induction ns with
  | nil => intro k; simp [csNode]
  | cons a l ih =>
    intro k
    cases k with
    | zero => simp [csNode]
    | succ k =>
      simp only [csNode, List.flatMap_cons, List.take_succ_cons] at *
      rw [List.take_append, List.take_of_length_le (by simp; omega), len_cNode, show (k + 1) * 240 - 240 = k * 240 by omega, ih]
theorem slice23_to {st : St} {ns : List Node} {hi : Operand} {k : Nat} (h : st.ev hi = .v (.int .i64 k)) (hk : k ≤ ns.length) : sliceA Try.prog st 23 (.sl ns.length (csNode ns)) none (some hi) = some (.sl (ns.take k).length (csNode (ns.take k))) := by
  have hl : (csNode ns).length = ns.length * 240 := by simp
  simp only [sliceA, sl23, hl, h]
  rw [if_pos (by refine ⟨Int.le_refl _, by omega, by omega, trivial⟩)]
  simp only [Int.toNat_zero, Nat.zero_mul, List.drop_zero, Int.sub_zero, Int.toNat_natCast]
  rw [csNode_take, List.length_take, Nat.min_eq_left hk]
theorem findR_mem {ns : List Node} {k : Nat} (hk : k ≤ ns.length) (r : Root) : 0 ≤ findR (ns.take k) r ↔ r ∈ rts ns k := by
  unfold findR rts
  cases h : (ns.take k).findIdx? (fun n => decide (n.block.root = r)) with
  | none =>
    simp only
    rw [List.findIdx?_eq_none_iff] at h
    constructor
    · intro h; omega
    · intro hm
      obtain ⟨n, hn, he⟩ := List.mem_map.1 hm
      have := h n hn
      simp [he] at this
  | some j =>
    simp only
    obtain ⟨h1, h2, _⟩ := List.findIdx?_eq_some_iff_getElem.1 h
    constructor
    · intro _
      exact List.mem_map.2 ⟨_, List.getElem_mem h1, by simpa using h2⟩
    · intro _; omega
/-- ref11.Validate -/
theorem c65 (ns : List Node) (hn : (ns.length : Int) < 1000000) : callL Try.prog 65 [.agg (cTree ⟨ns⟩)] = some (.v (.int .i64 (valV ns))) := by
  rw [callL_eq Try.prog Try.func65 rfl ok65 _ (ext_none _ (by decide)) rfl]
  by_cases h0 : ns.length = 0
  · have hq : ((ns.length : Int) == 0) = true := by simp [h0]
    have hv : valV ns = 11 := if_pos (.inl h0)
    simp -implicitDefEqProofs only [ZZ, seval, hq]
    exact endL_tmp (keep_none (by decide)) (.inl rfl) rfl (by simp only [EV, seval, hv]) (.v _)
  · have hq : ((ns.length : Int) == 0) = false := by simp [h0]
    by_cases h1 : (4096 : Int) < ns.length
    · have hv : valV ns = 11 := if_pos (.inr (by omega))
      simp -implicitDefEqProofs only [ZZ, seval, hq, h1]
      exact endL_tmp (keep_none (by decide)) (.inl rfl) rfl (by simp only [EV, seval, hv]) (.v _)
    · have hv : valV ns = valF ns ns.length := if_neg (by omega)
      rw [hv]
      simp -implicitDefEqProofs only [ZZ, seval, hq, h1]
      refine use_loop (fun n st => ∃ k : Nat, (st.env 1 = .ptr 1 0 0 ∧ st.heap 1 0 = some (.cells (cTree ⟨ns⟩)) ∧ st.env 3 = .v (.int .i64 k)) ∧ valF ns k = 0 ∧ k ≤ ns.length ∧ n = ns.length - k)
        (fun e st => (e = .ret ∧ st.env 2 = .v (.int .i64 (valF ns ns.length))) ∨ (e = .exit 0 ∧ valF ns ns.length = 0)) ns.length ?step ?start ?rest
      case step =>
        rintro n st ⟨k, hI, hz, hk, hn'⟩
        by_cases hlt : (k : Int) < ns.length
        · have hw : IntKind.i64.wrap ((k : Int) + 1) = ((k + 1 : Nat) : Int) := by rw [w64 _ (by omega) (by omega)]; omega
          have q0 : (0 : Int) ≤ k := by omega
          have hat := fun h => valF_at (ns := ns) (k := k) (by omega) hz h
          have hsl := fun st hi h => slice23_to (st := st) (ns := ns) (hi := hi) (k := k) h hk
          have hF : ∀ (r : Root) (st : St) (d : Option Nat), callFn (callL Try.prog) 60 [.agg [.sl (ns.take k).length (csNode (ns.take k))], .agg (cRoot r)] st d = some { dst := d, val := .v (.int .i64 (findR (ns.take k) r)) } := fun r st d => k60 (ns.take k) r (by simp; omega) st d
          cases hst : isSt (nd ns k).status
          · have hE : nodeE ns k = 2 := by unfold nodeE; rw [if_pos (.inl hst)]
            refine go_out (e := .ret) (st' := ?s1) ?h1 (by simp) ?q1
            case h1 =>
              simp -implicitDefEqProofs only [ZZ, seval, hI, hlt, q0, k94, hst]
              rfl
            case q1 => exact .inl ⟨rfl, by rw [hat (by omega), hE]; simp only [EV, seval]⟩
          · by_cases hk0 : k = 0
            · have hki : (k : Int) = 0 := by omega
              have heq : ((k : Int) == 0) = true := by simp [hk0]
              by_cases hup : (nd ns k).up = -1
              · have hu : ((nd ns k).up != -1) = false := by simp [hup]
                have hE : nodeE ns k = 0 := by
                  unfold nodeE
                  rw [if_neg, if_neg, if_pos hki]
                  · rintro ⟨j, j0, j1, _⟩; omega
                  · rintro (h | ⟨_, h⟩ | ⟨h, _⟩)
                    · rw [hst] at h; cases h
                    · exact h hup
                    · omega
                have hm : (0 ≤ findR (ns.take k) (nd ns k).block.root) = False := by
                  rw [findR_mem hk]; simp [rts, hk0]
                have hng : ¬ (0 : Int) < k := by omega
                refine go_on (st' := ?s2) ?h2 (ns.length - (k + 1)) (by omega) ?q2
                case h2 =>
                  simp -implicitDefEqProofs only [ZZ, seval, hI, hlt, q0, k94, hst, hu, hng, heq, hsl, hF, hm, hw]
                  rfl
                case q2 => exact ⟨k + 1, by simp only [EV, seval, hI], by simp only [valF, hz, if_true, hE], by omega, rfl⟩
              · have hu : ((nd ns k).up != -1) = true := by simp [hup]
                have hE : nodeE ns k = 2 := by unfold nodeE; rw [if_pos (.inr (.inl ⟨hki, hup⟩))]
                refine go_out (e := .ret) (st' := ?s3) ?h3 (by simp) ?q3
                case h3 =>
                  simp -implicitDefEqProofs only [ZZ, seval, hI, hlt, q0, k94, hst, hu, heq]
                  rfl
                case q3 => exact .inl ⟨rfl, by rw [hat (by omega), hE]; simp only [EV, seval]⟩
            · have hg : (0 : Int) < k := by omega
              have heq : ((k : Int) == 0) = false := by simp [hk0]
              by_cases hu0 : (nd ns k).up < 0
              · have hE : nodeE ns k = 2 := by unfold nodeE; rw [if_pos (.inr (.inr ⟨hg, .inl hu0⟩))]
                refine go_out (e := .ret) (st' := ?s4) ?h4 (by simp) ?q4
                case h4 =>
                  simp -implicitDefEqProofs only [ZZ, seval, hI, hlt, q0, k94, hst, heq, hg, hu0]
                  rfl
                case q4 => exact .inl ⟨rfl, by rw [hat (by omega), hE]; simp only [EV, seval]⟩
              · by_cases hu1 : (k : Int) ≤ (nd ns k).up
                · have hE : nodeE ns k = 2 := by unfold nodeE; rw [if_pos (.inr (.inr ⟨hg, .inr hu1⟩))]
                  refine go_out (e := .ret) (st' := ?s5) ?h5 (by simp) ?q5
                  case h5 =>
                    simp -implicitDefEqProofs only [ZZ, seval, hI, hlt, q0, k94, hst, heq, hg, hu0, hu1]
                    rfl
                  case q5 => exact .inl ⟨rfl, by rw [hat (by omega), hE]; simp only [EV, seval]⟩
                · have hE0 : nodeE ns k = if ∃ j : Int, 0 ≤ j ∧ j < k ∧ (nd ns j).block.root = (nd ns k).block.root then 9 else if (k : Int) = 0 then 0 else if (nd ns k).block.parent ≠ (nd ns (nd ns k).up).block.root then 10 else if (nd ns k).block.slot ≤ (nd ns (nd ns k).up).block.slot then 14 else 0 := by
                    conv => lhs; unfold nodeE
                    rw [if_neg]
                    rintro (h | ⟨h, _⟩ | ⟨_, h | h⟩)
                    · rw [hst] at h; cases h
                    · omega
                    · omega
                    · omega
                  have u0 : 0 ≤ (nd ns k).up := by omega
                  have u1 : (nd ns k).up < ns.length := by omega
                  by_cases hm' : (nd ns k).block.root ∈ rts ns k
                  · have hm : (0 ≤ findR (ns.take k) (nd ns k).block.root) = True := eq_true ((findR_mem hk _).2 hm')
                    have hE : nodeE ns k = 9 := by rw [hE0, if_pos ((rts_mem hk _).1 hm')]
                    refine go_out (e := .ret) (st' := ?s6) ?h6 (by simp) ?q6
                    case h6 =>
                      simp -implicitDefEqProofs only [ZZ, seval, hI, hlt, q0, k94, hst, heq, hg, hu0, hu1, hsl, hF, hm]
                      rfl
                    case q6 => exact .inl ⟨rfl, by rw [hat (by omega), hE]; simp only [EV, seval]⟩
                  · have hm : (0 ≤ findR (ns.take k) (nd ns k).block.root) = False := eq_false (fun h => hm' ((findR_mem hk _).1 h))
                    rw [if_neg (fun h => hm' ((rts_mem hk _).2 h)), if_neg (by omega)] at hE0
                    by_cases hp : (nd ns k).block.parent = (nd ns (nd ns k).up).block.root
                    · have hpd : decide ((nd ns k).block.parent = (nd ns (nd ns k).up).block.root) = true := decide_eq_true hp
                      rw [if_neg (fun h => h hp)] at hE0
                      by_cases hs : (nd ns k).block.slot ≤ (nd ns (nd ns k).up).block.slot
                      · rw [if_pos hs] at hE0
                        refine go_out (e := .ret) (st' := ?s7) ?h7 (by simp) ?q7
                        case h7 =>
                          simp -implicitDefEqProofs only [ZZ, seval, hI, hlt, q0, k94, hst, heq, hg, hu0, hu1, hsl, hF, hm, u0, u1, hpd, hs]
                          rfl
                        case q7 => exact .inl ⟨rfl, by rw [hat (by omega), hE0]; simp only [EV, seval]⟩
                      · rw [if_neg hs] at hE0
                        refine go_on (st' := ?s8) ?h8 (ns.length - (k + 1)) (by omega) ?q8
                        case h8 =>
                          simp -implicitDefEqProofs only [ZZ, seval, hI, hlt, q0, k94, hst, heq, hg, hu0, hu1, hsl, hF, hm, u0, u1, hpd, hs, hw]
                          rfl
                        case q8 => exact ⟨k + 1, by simp only [EV, seval, hI], by simp only [valF, hz, if_true, hE0], by omega, rfl⟩
                    · have hpd : decide ((nd ns k).block.parent = (nd ns (nd ns k).up).block.root) = false := decide_eq_false hp
                      rw [if_pos hp] at hE0
                      refine go_out (e := .ret) (st' := ?s9) ?h9 (by simp) ?q9
                      case h9 =>
                        simp -implicitDefEqProofs only [ZZ, seval, hI, hlt, q0, k94, hst, heq, hg, hu0, hu1, hsl, hF, hm, u0, u1, hpd]
                        rfl
                      case q9 => exact .inl ⟨rfl, by rw [hat (by omega), hE0]; simp only [EV, seval]⟩
        · obtain rfl : k = ns.length := by omega
          refine go_out (e := .exit 0) (st' := ?s10) ?h10 (by simp) ?q10
          case h10 =>
            simp -implicitDefEqProofs only [ZZ, seval, hI, hlt]
            rfl
          case q10 => exact .inr ⟨rfl, hz⟩
      case start => exact ⟨0, by simp only [EV, seval], rfl, by omega, by omega⟩
      case rest =>
        rintro e st (⟨rfl, h⟩ | ⟨rfl, h⟩)
        · simp -implicitDefEqProofs only [ZZ, seval]
          exact endL_tmp (keep_none (by decide)) (.inl rfl) rfl h (.v _)
        · simp -implicitDefEqProofs only [ZZ, seval]
          exact endL_tmp (keep_none (by decide)) (.inl rfl) rfl (by simp only [EV, seval, h]) (.v _)
theorem k65 (ns : List Node) (hn : (ns.length : Int) < 1000000) (st : St) (d : Option Nat) : callFn (callL Try.prog) 65 [.agg (cTree ⟨ns⟩)] st d = some { dst := d, val := .v (.int .i64 (valV ns)) } := call_flat (flat1 (flatT _)) (c65 ns hn) (.v _)
end Go.Ab.Try
end
section
set_option linter.unusedSimpArgs false
set_option linter.unusedVariables false
set_option maxRecDepth 20000
set_option maxHeartbeats 4000000
namespace Go.Ab.Try
open Classical Go.Proofs Go.Ab
def aN3' : Node := ⟨bk 2 (mkRoot 3) (mkRoot 1), 0, 0⟩
theorem aI3' : insA [aN1, aN2] (bk 2 (mkRoot 3) (mkRoot 1)) 0 = .tup [.agg (cTree ⟨[aN1, aN2, aN3']⟩), .v (.int .i64 0)] := by
  have h1 : findR [aN1, aN2] (mkRoot 3) = -1 := by simp [findR, List.findIdx?_cons, aN1, aN2, bk, mk13, mk23]
  have h2 : findR [aN1, aN2] (mkRoot 1) = 0 := by simp [findR, List.findIdx?_cons, aN1, bk]
  have hE : insE [aN1, aN2] (bk 2 (mkRoot 3) (mkRoot 1)) 0 = 0 := by
    simp only [insE, bk, h1, h2]
    simp [isSt, nd, aN1, bk, zslot]
  unfold insA
  rw [if_pos hE]
  simp only [bk, h2]
  rfl
theorem aUp' : UpOk [aN1, aN2, aN3'] := by
  intro i h0 h1
  have : i = 1 ∨ i = 2 := by simp at h1; omega
  rcases this with rfl | rfl <;> decide
theorem aF3 : findR [aN1, aN2, aN3'] (mkRoot 3) = 2 := by simp [findR, List.findIdx?_cons, aN1, aN2, aN3', bk, mk13, mk23]
theorem aCh : chlV [aN1, aN2, aN3'] 0 = [1, 2] := by
  simp [chlV, chl, nd, aN1, aN2, aN3']
theorem aLv : lvs [aN1, aN2, aN3'] 3 = [1, 2] := by
  simp [lvs, chl, nd, aN1, aN2, aN3']
theorem k61 (ns : List Node) (hu : UpOk ns) (hr : (nd ns 0).up = -1) (hn : (ns.length : Int) < 1000000) (h : lvs ns ns.length ≠ []) (st : St) (d : Nat) : callFn (callL Try.prog) 61 [.agg (cTree ⟨ns⟩)] st (some d) = some { dst := some d, val := .own d (st.cnt d), new := some (d, [.row 3 1 (lvs ns ns.length).length (csInt (lvs ns ns.length))]) } := by
  have hc := c61 ns hu hr hn
  rw [rowO_ne h] at hc
  exact call_uniq (flat1 (flatT _)) hc
theorem k62 (ns : List Node) (hu : UpOk ns) (hr : (nd ns 0).up = -1) (hn : (ns.length : Int) < 1000000) (h : lvs ns ns.length ≠ []) (st : St) (d : Nat) : callFn (callL Try.prog) 62 [.agg (cTree ⟨ns⟩)] st (some d) = some { dst := some d, val := .own d (st.cnt d), new := some (d, [.row 3 1 (lvs ns ns.length).length (csInt (lvs ns ns.length))]) } := by
  have hc := c62 ns hu hr hn
  rw [rowO_ne h] at hc
  exact call_uniq (flat1 (flatT _)) hc
theorem lvs_mem (ns : List Node) (x : Int) : ∀ k : Nat, x ∈ lvs ns k ↔ (0 ≤ x ∧ x < k) ∧ chl ns x ns.length = []
  | 0 => by simp [lvs]; intro h h'; omega
  | k + 1 => by
    have ih := lvs_mem ns x k
    simp only [lvs]
    split
    · rename_i h
      rw [List.mem_append, ih, List.mem_singleton]
      constructor
      · rintro (⟨h1, h2⟩ | rfl)
        · exact ⟨by omega, h2⟩
        · exact ⟨by omega, h⟩
      · rintro ⟨h1, h2⟩
        by_cases hk : x = k
        · exact .inr hk
        · exact .inl ⟨by omega, h2⟩
    · rename_i h
      rw [ih]
      constructor
      · rintro ⟨h1, h2⟩; exact ⟨by omega, h2⟩
      · rintro ⟨h1, h2⟩
        by_cases hk : x = k
        · subst hk; exact absurd h2 h
        · exact ⟨by omega, h2⟩
theorem lvs_ne {ns : List Node} (hu : UpOk ns) (hr : (nd ns 0).up = -1) (h0 : 0 < ns.length) : lvs ns ns.length ≠ [] := by
  intro h
  have : ((ns.length : Int) - 1) ∈ lvs ns ns.length := by
    rw [lvs_mem]
    refine ⟨⟨by omega, by omega⟩, chl_none _ fun j j0 j1 => ?_⟩
    by_cases hj : j = 0
    · subst hj; omega
    · have := hu j (by omega) j1; omega
  rw [h] at this
  cases this
/-- The sanity check of the block trees. -/
theorem c55 : callL Try.prog 55 [] = some (.v (.bool true)) := by
  rw [callL_eq Try.prog Try.func55 rfl ok55 _ (ext_none _ (by decide)) rfl]
  have h2 := aI2
  have h3 := aI3'
  have hl : ([aN1, aN2, aN3'].length : Int) < 1000000 := by decide
  have h59 := k59 [aN1, aN2, aN3'] (mkRoot 3) hl
  rw [aF3] at h59
  have h56 := k56 [aN1, aN2, aN3'] hl 0 (by rw [aCh]; simp)
  rw [aCh] at h56
  have h61 := k61 [aN1, aN2, aN3'] aUp' rfl hl (lvs_ne aUp' rfl (by simp))
  rw [show [aN1, aN2, aN3'].length = 3 from rfl, aLv] at h61
  simp only [aN1, aN2, aN3', bk] at h2 h3 h59 h56 h61
  simp -implicitDefEqProofs only [ZZ, seval, k53, k63, k54, h2, h3, h59, h56, h61, extA, q34, k34L, ev_bs22_2E, beq_self_eq_true]
  exact endL_tmp (keep_none (by decide)) (.inl rfl) rfl (by simp only [EV, seval] <;> rfl) (.v _)
theorem k55 (st : St) (d : Option Nat) : callFn (callL Try.prog) 55 [] st d = some { dst := d, val := .v (.bool true) } := call_flat (by simp) c55 (.v _)
/-- BlocktreeValid -/
theorem c16 (ns : List Node) (hn : (ns.length : Int) ≤ 9223372036854775807) : callL Try.prog 16 [.agg (cTree ⟨ns⟩)] = some (.v (.bool true)) := by
  rw [callL_eq Try.prog Try.func16 rfl ok16 _ (ext_none _ (by decide)) rfl]
  by_cases h : (60 : Int) < ns.length
  · simp -implicitDefEqProofs only [ZZ, seval, h, k55]
    exact endL_tmp (keep_none (by decide)) (.inl rfl) rfl (by simp only [EV, seval] <;> rfl) (.v _)
  · have h49 := k49 ns (by omega)
    have h65 := k65 ns (by omega)
    simp -implicitDefEqProofs only [ZZ, seval, h, k55, h49, h65, beq_self_eq_true]
    exact endL_tmp (keep_none (by decide)) (.inl rfl) rfl (by simp only [EV, seval] <;> rfl) (.v _)
end Go.Ab.Try
end
