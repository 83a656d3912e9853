/-
  Part 10 of the proof: an evaluator of programs, its soundness, and what functions of this program compute.
-/
import Derived.Test.YtmcjkemalibacaaGreatK9
import Derived.Test.YtmcjkemalibacaaGreatK7
set_option linter.all false
set_option maxRecDepth 20000
set_option maxHeartbeats 40000000
namespace Go.Ab.Tryz
open Classical Go.Proofs Go.Ab
theorem flatNT4:Flat (.agg [.v (.slice none 0 0)]):=.agg _ (by simp;exact .v _)
theorem and_bound (x m:Int) (hm:0≤m∧m < 9223372036854775808):0≤IntKind.i64.wrap ↑(BitVec.ofInt IntKind.i64.bits x &&& BitVec.ofInt IntKind.i64.bits m).toNat∧IntKind.i64.wrap ↑(BitVec.ofInt IntKind.i64.bits x &&& BitVec.ofInt IntKind.i64.bits m).toNat≤m:=by
 have h0:(BitVec.ofInt IntKind.i64.bits x &&& BitVec.ofInt IntKind.i64.bits m).toNat≤(BitVec.ofInt IntKind.i64.bits m).toNat:=by rw[BitVec.toNat_and];exact Nat.and_le_right
 have hb:IntKind.i64.bits=64:=rfl
 have h:(BitVec.ofInt IntKind.i64.bits (m:Int)).toNat=m.toNat:=by
  rw[BitVec.toNat_ofInt,hb]
  omega
 rw[h] at h0
 rw[w157 _ (by omega) (by omega)]
 omega
theorem tdiv_bound {i n:Int} (h:0≤i) (hn:0 < n):0≤i.tdiv n∧i.tdiv n≤i:=by
 rw[Int.tdiv_eq_ediv_of_nonneg h]
 exact⟨Int.ediv_nonneg h (by omega),Int.ediv_le_self n h⟩
theorem tmod_bound {i n:Int} (h:0≤i) (hn:0 < n):0≤i.tmod n∧i.tmod n < n:=by
 rw[Int.tmod_eq_emod_of_nonneg h]
 exact⟨Int.emod_nonneg i (by omega),Int.emod_lt_of_pos i hn⟩
theorem fdiv_nn {i:Int} (h:0≤i) (s:Nat):0≤i.fdiv (2 ^ s):=by
 have h2:(0:Int)≤2 ^ s:=Int.pow_nonneg (by decide)
 rw[Int.fdiv_eq_ediv_of_nonneg _ h2]
 exact Int.ediv_nonneg h h2
theorem x145 (l:List Int) (hl:(l.length:Int)≤9223372036854775807) (i:Int) (i0:0≤i) (i1:i < 1000000):∃ k:Int,callL Tryz.prog 145 [.sl l.length (csInt l),.v (.int .i64 i)]=some (.v (.int .i64 k))∧0≤k∧k≤17777215:=by
 rw[cL Tryz.func145 rfl ok145 rfl]
 by_cases h:(l.length:Int)=0
 ·have hq:((l.length:Int) == 0)=true:=by simp[h]
  simp only[ZZ,seval,hq]
  obtain⟨b1,b2⟩:=and_bound i 65535 (by decide)
  exact⟨_,xtmp rfl (by simp only[EV,seval]<;>rfl) (.v _),b1,by omega⟩
 ·have hq:((l.length:Int) == 0)=false:=by rw[beq_eq_false_iff_ne];exact h
  obtain⟨m1,m2⟩:=tmod_bound (n:=(l.length:Int)) i0 (by omega)
  obtain⟨d1,d2⟩:=tdiv_bound (n:=(l.length:Int)) i0 (by omega)
  simp only[ZZ,seval,hq,h,m1,m2]
  obtain⟨b1,b2⟩:=and_bound (it l (i.tmod ↑l.length)) 16777215 (by decide)
  refine⟨_,xtmp rfl (by simp only[EV,seval]<;>rfl) (.v _), ?_, ?_⟩
  all_goals
   rw[w157 (i.tdiv ↑l.length) (by omega) (by omega),w157 _ (by omega) (by omega)]
   omega
noncomputable def bAt (l:List Int) (i:Int):Int:=if h:((l.length:Int)≤9223372036854775807∧0≤i∧i < 1000000) then Classical.choose (x145 l h.1 i h.2.1 h.2.2) else 0
theorem c145 (l:List Int) (hl:(l.length:Int)≤9223372036854775807) (i:Int) (i0:0≤i) (i1:i < 1000000):callL Tryz.prog 145 [.sl l.length (csInt l),.v (.int .i64 i)]=some (.v (.int .i64 (bAt l i)))∧0≤bAt l i∧bAt l i≤17777215:=by
 have h:((l.length:Int)≤9223372036854775807∧0≤i∧i < 1000000):=⟨hl,i0,i1⟩
 unfold bAt
 rw[dif_pos h]
 exact Classical.choose_spec (x145 l h.1 i h.2.1 h.2.2)
theorem k145 (l:List Int) (hl:(l.length:Int)≤9223372036854775807) (i:Int) (i0:0≤i) (i1:i < 1000000) (st:St) (d:Option Nat):callFn (callL Tryz.prog) 145 [.sl l.length (csInt l),.v (.int .i64 i)] st d=some { dst:=d,val:=.v (.int .i64 (bAt l i))}:=call_flat (flat2 (flatSl l) (.v _)) (c145 l hl i i0 i1).1 (.v _)
def mkRoot (n:Int):Root:=((zRoot.set 0 (IntKind.u8.wrap n)).set 1 (IntKind.u8.wrap (n.fdiv (2 ^ min 8 IntKind.i64.bits)))).set 31 (IntKind.u8.wrap (IntKind.i64.wrap (n * 7)))
theorem c30 (n:Int):callL Tryz.prog 30 [.v (.int .i64 n)]=some (.agg (cRoot (mkRoot n))):=by
 rw[cL Tryz.func30 rfl ok30 rfl]
 simp only[ZZ,seval,up_Root_at,Nat.reduceLT]
 exact xcell rfl (by simp only[EV,seval];rfl) (by simp only[ZZ,seval];rfl) (.agg _ (flat_cRoot _))
theorem k30 (n:Int) (st:St) (d:Option Nat):callFn (callL Tryz.prog) 30 [.v (.int .i64 n)] st d=some { dst:=d,val:=.agg (cRoot (mkRoot n))}:=call_flat (flat1 (.v _)) (c30 n) (flatR _)
theorem c157 (b:Block) (s:Int):callL Tryz.prog 157 [.agg (cBlock b),.v (.int .i64 s)]=some (.agg (cTree ⟨[⟨b,-1,s⟩]⟩)):=by
 rw[cL Tryz.func157 rfl ok157 rfl]
 simp only[ZZ,seval]
 exact xcellx rfl (by simp only[EV,seval];rfl) (by simp only[ZZ,seval];rfl) (by simp only[EV,seval,Option.map_some]<;>rfl)
theorem k157 (b:Block) (s:Int) (st:St) (d:Option Nat):callFn (callL Tryz.prog) 157 [.agg (cBlock b),.v (.int .i64 s)] st d=some { dst:=d,val:=.agg (cTree ⟨[⟨b,-1,s⟩]⟩)}:=call_flat (flat2 (flatB _) (.v _)) (c157 b s) (flatT _)
theorem k186 (i:Int) (st:St) (d:Option Nat):callFn (callL Tryz.prog) 186 [.v (.int .i64 i)] st d=some { dst:=d,val:=.v (.bool (isSt i))}:=call_flat (flat1 (.v _)) (c186 i) (.v _)
theorem k46 (ns:List Node) (r:Root) (hn:(ns.length:Int) < 1000000) (st:St) (d:Option Nat):callFn (callL Tryz.prog) 46 [.agg (cTree ⟨ns⟩),.agg (cRoot r)] st d=some { dst:=d,val:=.v (.int .i64 (findR ns r))}:=call_flat (flat2 (flatT _) (flatR _)) (c46 ns r hn) (.v _)
noncomputable def insE (ns:List Node) (b:Block) (s:Int):Int :=
 if isSt s=false then 2 else if 0≤findR ns b.root then 9 else if findR ns b.parent < 0 then 10 else if b.slot≤(nd ns (findR ns b.parent)).block.slot then 14 else if 4096≤(ns.length:Int) then 11 else 0
noncomputable def insA (ns:List Node) (b:Block) (s:Int):AV :=
 if insE ns b s=0 then .tup [.agg (cTree ⟨ns ++ [⟨b,findR ns b.parent,s⟩]⟩),.v (.int .i64 0)] else .tup [.agg [.v (.slice none 0 0)],.v (.int .i64 (insE ns b s))]
theorem findR_range (ns:List Node) (r:Root):-1≤findR ns r∧findR ns r < ns.length:=by
 unfold findR
 cases h:ns.findIdx? (fun n=>decide (n.block.root=r)) with
 | none=>simp only;omega
 | some k =>
   have:=(List.findIdx?_eq_some_iff_getElem.1 h).1
   simp only;omega
theorem c149 (ns:List Node) (hn:(ns.length:Int) < 1000000) (b:Block) (s:Int):callL Tryz.prog 149 [.agg (cTree ⟨ns⟩),.agg (cBlock b),.v (.int .i64 s)]=some (insA ns b s):=by
 rw[cL Tryz.func149 rfl ok149 rfl]
 have hu:=findR_range ns b.parent
 cases hs:isSt s
 ·simp only[ZZ,seval,k186,hs]
  rw[show insA ns b s=.tup [.agg [.v (.slice none 0 0)],.v (.int .i64 2)] from by simp[insA,insE,hs]]
  exact xtwo rfl (by simp only[resA,ZZ,seval];rfl) (by simp only[resA,EV,seval]<;>rfl) (by simp only[EV,seval]<;>rfl) (by simp only[EV,seval]<;>rfl)
 by_cases h1:0≤findR ns b.root
 ·simp only[ZZ,seval,k186,hs,k46,hn,h1]
  rw[show insA ns b s=.tup [.agg [.v (.slice none 0 0)],.v (.int .i64 9)] from by simp[insA,insE,hs,h1]]
  exact xtwo rfl (by simp only[resA,ZZ,seval];rfl) (by simp only[resA,EV,seval]<;>rfl) (by simp only[EV,seval]<;>rfl) (by simp only[EV,seval]<;>rfl)
 by_cases h2:findR ns b.parent < 0
 ·simp only[ZZ,seval,k186,hs,k46,hn,h1,h2]
  rw[show insA ns b s=.tup [.agg [.v (.slice none 0 0)],.v (.int .i64 10)] from by simp[insA,insE,hs,h1,h2]]
  exact xtwo rfl (by simp only[resA,ZZ,seval];rfl) (by simp only[resA,EV,seval]<;>rfl) (by simp only[EV,seval]<;>rfl) (by simp only[EV,seval]<;>rfl)
 have u0:0≤findR ns b.parent:=by omega
 have u1:findR ns b.parent < ns.length:=hu.2
 by_cases h3:b.slot≤(nd ns (findR ns b.parent)).block.slot
 ·simp only[ZZ,seval,k186,hs,k46,hn,h1,h2,u0,u1,h3]
  rw[show insA ns b s=.tup [.agg [.v (.slice none 0 0)],.v (.int .i64 14)] from by simp[insA,insE,hs,h1,h2,h3]]
  exact xtwo rfl (by simp only[resA,ZZ,seval];rfl) (by simp only[resA,EV,seval]<;>rfl) (by simp only[EV,seval]<;>rfl) (by simp only[EV,seval]<;>rfl)
 by_cases h4:4096≤(ns.length:Int)
 ·simp only[ZZ,seval,k186,hs,k46,hn,h1,h2,u0,u1,h3,h4]
  rw[show insA ns b s=.tup [.agg [.v (.slice none 0 0)],.v (.int .i64 11)] from by simp[insA,insE,hs,h1,h2,h3,h4]]
  exact xtwo rfl (by simp only[resA,ZZ,seval];rfl) (by simp only[resA,EV,seval]<;>rfl) (by simp only[EV,seval]<;>rfl) (by simp only[EV,seval]<;>rfl)
 ·simp only[ZZ,seval,k186,hs,k46,hn,h1,h2,u0,u1,h3,h4]
  rw[show insA ns b s=.tup [.agg (cTree ⟨ns ++ [⟨b,findR ns b.parent,s⟩]⟩),.v (.int .i64 0)] from by simp[insA,insE,hs,h1,h2,h3,h4]]
  exact xtwo rfl (by simp only[resA,ZZ,seval];rfl) (by simp only[resA,EV,seval]<;>rfl) (by simp only[EV,seval]<;>rfl) (by simp only[EV,seval]<;>rfl)
theorem flat_insA (ns:List Node) (b:Block) (s:Int):Flat (insA ns b s):=by
 unfold insA
 split
 ·exact .tup _ (flat2 (flatT _) (.v _))
 ·exact .tup _ (flat2 flatNT4 (.v _))
theorem k149 (ns:List Node) (hn:(ns.length:Int) < 1000000) (b:Block) (s:Int) (st:St) (d:Option Nat):callFn (callL Tryz.prog) 149 [.agg (cTree ⟨ns⟩),.agg (cBlock b),.v (.int .i64 s)] st d=some { dst:=d,val:=insA ns b s }:=call_flat (flat3 (flatT _) (flatB _) (.v _)) (c149 ns hn b s) (flat_insA ns b s)
theorem c188 (n:Int):callL Tryz.prog 188 [.v (.int .u64 n)]=some (.v (.bool (decide (1≤n) && decide (n≤64)))):=by
 rw[cL Tryz.func188 rfl ok188 rfl]
 by_cases h:1≤n
 all_goals
  simp only[Z8,seval,h,decide_true,decide_false,Bool.true_and,Bool.false_and]
  exact xtmp rfl (by simp only[E8,seval,h,decide_true,decide_false,Bool.true_and,Bool.false_and]<;>rfl) (.v _)
theorem k188 (n:Int) (st:St) (d:Option Nat):callFn (callL Tryz.prog) 188 [.v (.int .u64 n)] st d=some { dst:=d,val:=.v (.bool (decide (1≤n) && decide (n≤64)))}:=call_flat (flat1 (.v _)) (c188 n) (.v _)
noncomputable def mulV (a b:Int):Int × Int:=if b≠0∧IntKind.u64.wrap (Int.tdiv 18446744073709551615 b) < a then (0,4) else (IntKind.u64.wrap (a * b),0)
theorem c189 (a b:Int):callL Tryz.prog 189 [.v (.int .u64 a),.v (.int .u64 b)]=some (.tup [.v (.int .u64 (mulV a b).1),.v (.int .i64 (mulV a b).2)]):=by
 rw[cL Tryz.func189 rfl ok189 rfl]
 unfold mulV
 by_cases h:b=0
 ·rw[if_neg (fun k=>k.1 h)]
  have hb:(b != 0)=false:=by simp[h]
  simp only[Z8,seval,hb]
  exact xtwo rfl rfl rfl (by simp only[E8,seval]<;>rfl) (by simp only[E8,seval]<;>rfl)
 ·have hb:(b != 0)=true:=by simp[h]
  have hb2:(b=0)=False:=eq_false h
  by_cases h2:IntKind.u64.wrap (Int.tdiv 18446744073709551615 b) < a
  ·rw[if_pos ⟨h,h2⟩]
   simp only[Z8,seval,hb,hb2,h2]
   exact xtwo rfl rfl rfl (by simp only[E8,seval]<;>rfl) (by simp only[E8,seval]<;>rfl)
  ·rw[if_neg (fun k=>h2 k.2)]
   simp only[Z8,seval,hb,hb2,h2]
   exact xtwo rfl rfl rfl (by simp only[E8,seval]<;>rfl) (by simp only[E8,seval]<;>rfl)
theorem k189 (a b:Int) (st:St) (d:Option Nat):callFn (callL Tryz.prog) 189 [.v (.int .u64 a),.v (.int .u64 b)] st d=some { dst:=d,val:=.tup [.v (.int .u64 (mulV a b).1),.v (.int .i64 (mulV a b).2)]}:=call_flat (flat2 (.v _) (.v _)) (c189 a b) (.tup _ (flat2 (.v _) (.v _)))
noncomputable def sofV (e p:Int):Int × Int:=if 1≤p∧p≤64 then mulV e p else (0,3)
theorem c155 (e p:Int):callL Tryz.prog 155 [.v (.int .u64 e),.v (.int .u64 p)]=some (.tup [.v (.int .u64 (sofV e p).1),.v (.int .i64 (sofV e p).2)]):=by
 rw[cL Tryz.func155 rfl ok155 rfl]
 unfold sofV
 by_cases h:1≤p∧p≤64
 ·have h1:(decide (1≤p) && decide (p≤64))=true:=by simp[h]
  rw[if_pos h]
  simp only[Z8,seval,k188,h1,k189,extA]
  exact xtwo rfl rfl rfl (by simp only[E8,seval]<;>rfl) (by simp only[E8,seval]<;>rfl)
 ·have h1:(decide (1≤p) && decide (p≤64))=false:=by
   rw[Bool.eq_false_iff];intro k;simp at k;exact h k
  rw[if_neg h]
  simp only[Z8,seval,k188,h1]
  exact xtwo rfl rfl rfl (by simp only[E8,seval]<;>rfl) (by simp only[E8,seval]<;>rfl)
theorem k155 (e p:Int) (st:St) (d:Option Nat):callFn (callL Tryz.prog) 155 [.v (.int .u64 e),.v (.int .u64 p)] st d=some { dst:=d,val:=.tup [.v (.int .u64 (sofV e p).1),.v (.int .i64 (sofV e p).2)]}:=call_flat (flat2 (.v _) (.v _)) (c155 e p) (.tup _ (flat2 (.v _) (.v _)))
theorem c156 (n a b:Int):callL Tryz.prog 156 [.v (.int .i64 n),.v (.int .i64 a),.v (.int .i64 b)]=some (.v (.bool (decide (a≤n) && decide (n≤b)))):=by
 rw[cL Tryz.func156 rfl ok156 rfl]
 by_cases h:a≤n
 all_goals
  simp only[Z8,seval,h,decide_true,decide_false,Bool.true_and,Bool.false_and]
  exact xtmp rfl (by simp only[E8,seval,h,decide_true,decide_false,Bool.true_and,Bool.false_and]<;>rfl) (.v _)
theorem k156 (n a b:Int) (st:St) (d:Option Nat):callFn (callL Tryz.prog) 156 [.v (.int .i64 n),.v (.int .i64 a),.v (.int .i64 b)] st d=some { dst:=d,val:=.v (.bool (decide (a≤n) && decide (n≤b)))}:=call_flat (flat3 (.v _) (.v _) (.v _)) (c156 n a b) (.v _)
noncomputable def addV (a b:Int):Int × Int:=if IntKind.u64.wrap (18446744073709551615 - b) < a then (0,4) else (IntKind.u64.wrap (a+b),0)
theorem c196 (a b:Int):callL Tryz.prog 196 [.v (.int .u64 a),.v (.int .u64 b)]=some (.tup [.v (.int .u64 (addV a b).1),.v (.int .i64 (addV a b).2)]):=by
 rw[cL Tryz.func196 rfl ok196 rfl]
 unfold addV
 by_cases h:IntKind.u64.wrap (18446744073709551615 - b) < a
 ·rw[if_pos h]
  simp only[Z8,seval,h]
  exact xtwo rfl rfl rfl (by simp only[E8,seval]<;>rfl) (by simp only[E8,seval]<;>rfl)
 ·rw[if_neg h]
  simp only[Z8,seval,h]
  exact xtwo rfl rfl rfl (by simp only[E8,seval]<;>rfl) (by simp only[E8,seval]<;>rfl)
theorem k196 (a b:Int) (st:St) (d:Option Nat):callFn (callL Tryz.prog) 196 [.v (.int .u64 a),.v (.int .u64 b)] st d=some { dst:=d,val:=.tup [.v (.int .u64 (addV a b).1),.v (.int .i64 (addV a b).2)]}:=call_flat (flat2 (.v _) (.v _)) (c196 a b) (.tup _ (flat2 (.v _) (.v _)))
theorem mem_csU64 (l:List Int):∀ c∈csU64 l,MemFree c:=by rw[csU64_eq];intro c hc;obtain⟨x,_,rfl⟩:=List.mem_map.1 hc;exact .v _
theorem c154 (ns:List Node) (i:Int):callL Tryz.prog 154 [.agg (cTree ⟨ns⟩),.v (.int .i64 i)]=some (.v (.bool (decide (0≤i) && decide (i < ns.length)))):=by
 rw[cL Tryz.func154 rfl ok154 rfl]
 by_cases h:0≤i
 all_goals
  simp only[ZZ,seval,h,decide_true,decide_false,Bool.false_eq_true,Bool.true_and,Bool.false_and]
  exact xtmp rfl (by simp only[EV,seval]) (.v _)
theorem k154 (ns:List Node) (i:Int) (st:St) (d:Option Nat):callFn (callL Tryz.prog) 154 [.agg (cTree ⟨ns⟩),.v (.int .i64 i)] st d=some { dst:=d,val:=.v (.bool (decide (0≤i) && decide (i < ns.length)))}:=call_flat (flat2 (flatT _) (.v _)) (c154 ns i) (.v _)
theorem path_self {ns:List Node} (h:UpOk ns) {i:Int} (i0:0≤i) (i1:i < ns.length):i∈path ns i:=by
 by_cases hi:i=0
 ·subst hi;rw[path_zero (by omega)];simp
 ·rw[path_step h (by omega) i1];simp
theorem path_mem {ns:List Node} (h:UpOk ns):∀ (k:Nat) (i:Int),i.toNat=k→0≤i→i < ns.length→∀ x∈path ns i,0≤x∧x≤i:=by
 intro k
 induction k using Nat.strongRecOn with
 | _ k ih =>
   intro i hk i0 i1 x hx
   by_cases hi:i=0
   ·subst hi;rw[path_zero (by omega)] at hx;simp at hx;omega
   ·obtain⟨u0,u1⟩:=h i (by omega) i1
    rw[path_step h (by omega) i1] at hx
    rcases List.mem_append.1 hx with hx | hx
    ·have:=ih (nd ns i).up.toNat (by omega) _ rfl u0 (by omega) x hx
     omega
    ·simp at hx;omega
theorem path_range {ns:List Node} (h:UpOk ns) {i x:Int} (hx:x∈path ns i):0≤x∧x < ns.length:=by
 by_cases hi:0≤i∧i < ns.length
 ·have:=path_mem h _ i rfl hi.1 hi.2 x hx;omega
 ·rw[path_none hi] at hx;simp at hx
def lastLe (ns:List Node) (s:Int) (l:List Int):Int:=l.foldl (fun r x=>if (nd ns x).block.slot≤s then x else r) (-1)
def atV (ns:List Node) (i s:Int):Int:=lastLe ns s (path ns i)
theorem lastLe_app (ns:List Node) (s:Int) (l:List Int) (x:Int):lastLe ns s (l ++ [x])=if (nd ns x).block.slot≤s then x else lastLe ns s l:=by simp[lastLe]
theorem atV_none {ns:List Node} {i:Int} (s:Int) (h:¬ (0≤i∧i < ns.length)):atV ns i s=-1:=by unfold atV;rw[path_none h];rfl
theorem atV_hit {ns:List Node} (h:UpOk ns) {i s:Int} (hi:0≤i∧i < ns.length) (hs:(nd ns i).block.slot≤s):atV ns i s=i:=by
 unfold atV
 by_cases h0:i=0
 ·subst h0;rw[path_zero (by omega)];simp[lastLe,hs]
 ·rw[path_step h (by omega) hi.2,lastLe_app,if_pos hs]
theorem atV_up {ns:List Node} (h:UpOk ns) (hr:(nd ns 0).up=-1) {i s:Int} (hi:0≤i∧i < ns.length) (hs:¬ (nd ns i).block.slot≤s):atV ns i s=atV ns (nd ns i).up s:=by
 by_cases h0:i=0
 ·subst h0;rw[hr,atV_none s (i:=-1) (by omega)];unfold atV;rw[path_zero (by omega)];simp[lastLe,hs]
 ·unfold atV;rw[path_step h (by omega) hi.2,lastLe_app,if_neg hs]
theorem c96 (ns:List Node) (hu:UpOk ns) (hr:(nd ns 0).up=-1) (i s:Int):callL Tryz.prog 96 [.agg (cTree ⟨ns⟩),.v (.int .i64 i),.v (.int .u64 s)]=some (.v (.int .i64 (atV ns i s))):=by
 rw[cL Tryz.func96 rfl ok96 rfl]
 simp only[ZZ,seval]
 refine use_loop (fun n st=>∃ c:Int,st.env 1=.v (.int .i64 c)∧st.env 2=.v (.int .u64 s)∧st.env 3=.ptr 3 0 0∧st.heap 3 0=some (.cells (cTree ⟨ns⟩))∧atV ns i s=atV ns c s∧n=(c+1).toNat)
  (fun e st=>(e=.ret∧st.env 6=.v (.int .i64 (atV ns i s)))∨(e=.exit 0∧atV ns i s=-1)) (i+1).toNat ?step ?start ?rest
 case step =>
  rintro n st ⟨c,h1,h2,h3,hh3,hb,hn'⟩
  by_cases hv:0≤c∧c < ns.length
  ·have hd:(decide (0≤c) && decide (c < ns.length))=true:=by simp[hv.1,hv.2]
   obtain⟨i0,hlt⟩:=hv
   by_cases hs:(nd ns c).block.slot≤s
   ·have hm:atV ns c s=c:=atV_hit hu ⟨i0,hlt⟩ hs
    apply oT (.ret)
    ·simp only[ZZ,seval,h1,h2,h3,hh3,k154,hd,hlt,i0,hs]
     rfl
    ·exact .inl ⟨rfl,by simp only[EV,seval,hb,hm]⟩
   ·have hm:atV ns c s=atV ns (nd ns c).up s:=atV_up hu hr ⟨i0,hlt⟩ hs
    have hup:(nd ns c).up < c∧-1≤(nd ns c).up:=by
     by_cases h0:c=0
     ·subst h0;rw[hr];omega
     ·have:=hu c (by omega) hlt;omega
    apply oN (((nd ns c).up+1).toNat)
    ·simp only[ZZ,seval,h1,h2,h3,hh3,k154,hd,hlt,i0,hs]
     rfl
    ·exact⟨(nd ns c).up,(by simp only[EV,seval]),by simp only[EV,seval,h2],by simp only[EV,seval,h3],by simp only[EV,seval,hh3],hb.trans hm,rfl⟩
  ·have hd:(decide (0≤c) && decide (c < ns.length))=false:=by rw[← Bool.not_eq_true];simpa using hv
   apply oT (.exit 0)
   ·simp only[ZZ,seval,h1,h2,h3,hh3,k154,hd]
    rfl
   ·exact .inr ⟨rfl,hb.trans (atV_none s hv)⟩
 case start=>exact⟨i,(by simp only[EV,seval]),(by simp only[EV,seval]),(by simp only[EV,seval]),(by simp only[EV,seval]),rfl,rfl⟩
 case rest =>
  rintro e st (⟨rfl,h⟩ | ⟨rfl,h⟩)
  ·simp only[ZZ,seval]
   exact xtmp rfl h (.v _)
  ·simp only[ZZ,seval]
   exact xtmp rfl (by simp only[EV,seval,h]) (.v _)
theorem k96 (ns:List Node) (hu:UpOk ns) (hr:(nd ns 0).up=-1) (i s:Int) (st:St) (d:Option Nat):callFn (callL Tryz.prog) 96 [.agg (cTree ⟨ns⟩),.v (.int .i64 i),.v (.int .u64 s)] st d=some { dst:=d,val:=.v (.int .i64 (atV ns i s))}:=call_flat (flat3 (flatT _) (.v _) (.v _)) (c96 ns hu hr i s) (.v _)
theorem take_it {l:List Int} {j:Int} (j0:0≤j) (j1:j < l.length):l.take (j+1).toNat=l.take j.toNat ++ [it l j]:=by
 obtain⟨h,e⟩:=it_get j0 j1
 rw[e,show (j+1).toNat=j.toNat+1 by omega,List.take_succ_eq_append_getElem h]
theorem it_mem {l:List Int} {j:Int} (j0:0≤j) (j1:j < l.length):it l j∈l:=by
 obtain⟨h,e⟩:=it_get j0 j1
 rw[e];exact List.getElem_mem h
theorem c100 (ns:List Node) (hu:UpOk ns) (hn:(ns.length:Int) < 1000000) (i s:Int):callL Tryz.prog 100 [.agg (cTree ⟨ns⟩),.v (.int .i64 i),.v (.int .u64 s)]=some (.v (.int .i64 (atV ns i s))):=by
 rw[cL Tryz.func100 rfl ok100 rfl]
 by_cases hv:0≤i∧i < ns.length
 ·have hl:((path ns i).length:Int) < 1000000:=by have:=path_lt hu i;omega
  have hp:=k76 ns hu hn i hv.1 hv.2
  have hrg:∀ x∈path ns i,0≤x∧x < ns.length:=fun x=>path_range hu
  unfold atV
  generalize path ns i=p at hl hp hrg
  simp only[ZZ,seval,hp]
  refine use_loop (fun n st=>∃ j:Int,st.env 2=.v (.int .u64 s)∧st.env 3=.ptr 3 0 0∧st.heap 3 0=some (.cells (cTree ⟨ns⟩))∧st.env 8=.own 12 0∧st.heap 12 0=some (.row 3 1 p.length (csInt p))∧st.env 9=.v (.int .i64 j)∧st.env 7=.v (.int .i64 (lastLe ns s (p.take j.toNat)))∧0≤j∧j≤p.length∧n=(p.length - j).toNat)
   (fun e st=>e=.exit 0∧st.env 7=.v (.int .i64 (lastLe ns s p))) p.length ?step ?start ?rest
  case step =>
   rintro n st ⟨j,h2,h3,hh3,h8,hh8,h9,h7,j0,j1,hn'⟩
   by_cases hlt:j < p.length
   ·have hw:IntKind.i64.wrap (j+1)=j+1:=w157 _ (by omega) (by omega)
    obtain⟨x0,x1⟩:=hrg _ (it_mem j0 hlt)
    have ht:=take_it j0 hlt
    by_cases hs:(nd ns (it p j)).block.slot≤s
    ·apply oN ((p.length - (j+1)).toNat)
     ·simp only[ZZ,seval,h2,h3,hh3,h8,hh8,h9,hlt,j0,hw,x0,x1,hs]
      rfl
     ·exact⟨j+1,by simp only[EV,seval,h2],by simp only[EV,seval,h3],by simp only[EV,seval,hh3],by simp only[EV,seval,h8],by simp only[EV,seval,hh8],(by simp only[EV,seval]),by simp only[EV,seval,ht,lastLe_app,hs],by omega,by omega,rfl⟩
    ·apply oN ((p.length - (j+1)).toNat)
     ·simp only[ZZ,seval,h2,h3,hh3,h8,hh8,h9,hlt,j0,hw,x0,x1,hs]
      rfl
     ·exact⟨j+1,by simp only[EV,seval,h2],by simp only[EV,seval,h3],by simp only[EV,seval,hh3],by simp only[EV,seval,h8],by simp only[EV,seval,hh8],(by simp only[EV,seval]),by simp only[EV,seval,ht,lastLe_app,hs,h7],by omega,by omega,rfl⟩
   ·have ht:p.take j.toNat=p:=List.take_of_length_le (by omega)
    apply oT (.exit 0)
    ·simp only[ZZ,seval,h2,h3,hh3,h8,hh8,h9,hlt,j0]
     rfl
    ·exact⟨rfl,by rw[← ht];exact h7⟩
  case start=>exact⟨0,(by simp only[EV,seval]),(by simp only[EV,seval]),(by simp only[EV,seval]),(by simp only[EV,seval]),(by simp only[EV,seval]),(by simp only[EV,seval]),(by simp only[EV,seval];rfl),by omega,by omega,by omega⟩
  case rest =>
   rintro e st ⟨rfl,h⟩
   simp only[ZZ,seval,h]
   exact xtmp rfl (by simp only[EV,seval]) (.v _)
 ·rw[atV_none s hv]
  simp only[ZZ,seval,k76n ns i hv,evL_loop,Int.natCast_zero,Int.lt_irrefl,decide_false]
  exact xtmp rfl (by simp only[EV,seval]) (.v _)
theorem k100 (ns:List Node) (hu:UpOk ns) (hn:(ns.length:Int) < 1000000) (i s:Int) (st:St) (d:Option Nat):callFn (callL Tryz.prog) 100 [.agg (cTree ⟨ns⟩),.v (.int .i64 i),.v (.int .u64 s)] st d=some { dst:=d,val:=.v (.int .i64 (atV ns i s))}:=call_flat (flat3 (flatT _) (.v _) (.v _)) (c100 ns hu hn i s) (.v _)
theorem anc_up {ns:List Node} (hu:UpOk ns) {a c:Int} (h1:c < ns.length) (h:a < c) (a0:0≤a):anc ns a c=anc ns a (nd ns c).up:=by
 unfold anc
 rw[decide_eq_decide,path_step hu (by omega) h1]
 simp only[List.mem_append,List.mem_singleton]
 constructor
 ·rintro (hm | rfl)
  ·exact hm
  ·omega
 ·exact .inl
theorem anc_range {ns:List Node} (hu:UpOk ns) {a c:Int} (h:¬ ((0≤a∧a < ns.length)∧(0≤c∧c < ns.length))):anc ns a c=false:=by
 unfold anc
 rw[decide_eq_false_iff_not]
 intro hm
 by_cases hc:0≤c∧c < ns.length
 ·exact h ⟨path_range hu hm,hc⟩
 ·rw[path_none hc] at hm;simp at hm
theorem anc_in {ns:List Node} (hu:UpOk ns) {a c:Int} (h:anc ns a c=true):(0≤a∧a < ns.length)∧(0≤c∧c < ns.length):=by
 by_cases hv:(0≤a∧a < ns.length)∧(0≤c∧c < ns.length)
 ·exact hv
 ·rw[anc_range hu hv] at h;cases h
theorem anc_le {ns:List Node} (hu:UpOk ns) {a c:Int} (h:anc ns a c=true):a≤c:=by
 have hr:=(anc_in hu h).2
 unfold anc at h
 exact (path_mem hu _ c rfl hr.1 hr.2 a (of_decide_eq_true h)).2
def prF (ns:List Node) (i:Int):Nat→List Node × List Int
 | 0=>([],[])
 | k+1 =>
   let p:=prF ns i k
   if anc ns i k=true then (p.1 ++ [{ nd ns k with up:=if (k:Int)=i then -1 else it p.2 (nd ns k).up }],p.2 ++ [(p.1.length:Int)]) else (p.1,p.2 ++ [-1])
theorem prF_idx (ns:List Node) (i:Int):∀ k,(prF ns i k).2.length=k
 | 0=>rfl
 | k+1=>by
   have:=prF_idx ns i k
   simp only[prF]
   split<;>simp[this]
theorem prF_nodes (ns:List Node) (i:Int):∀ k,(prF ns i k).1.length≤k
 | 0=>Nat.le_refl _
 | k+1=>by
   have:=prF_nodes ns i k
   simp only[prF]
   split
   ·simp;exact this
   ·simp;omega
theorem it_app_lt {l m:List Int} {j:Int} (h0:0≤j) (h1:j < l.length):it (l ++ m) j=it l j:=by
 have:j.toNat < l.length:=by omega
 simp[it,List.getElem?_append_left this]
theorem it_app_eq {l:List Int} {x:Int} {j:Int} (h:j=l.length):it (l ++ [x]) j=x:=by
 subst h
 simp[it]
theorem nd_app_lt {l m:List Node} {j:Int} (h0:0≤j) (h1:j < l.length):nd (l ++ m) j=nd l j:=by
 have:j.toNat < l.length:=by omega
 simp[nd,List.getElem?_append_left this]
theorem nd_app_eq {l:List Node} {x:Node} {j:Int} (h:j=l.length):nd (l ++ [x]) j=x:=by
 subst h
 simp[nd]
theorem anc_self {ns:List Node} (hu:UpOk ns) {i:Int} (i0:0≤i) (i1:i < ns.length):anc ns i i=true:=by
 unfold anc
 rw[decide_eq_true_eq]
 by_cases h:i=0
 ·subst h;rw[path_zero (by omega)];simp
 ·rw[path_step hu (by omega) i1];simp
theorem anc_zero {ns:List Node} {a:Int} (h:0 < ns.length):anc ns a 0=decide (a=0):=by
 unfold anc
 rw[path_zero h]
 simp
theorem prF_ne (ns:List Node) (hu:UpOk ns) {i:Int} (i0:0≤i) (i1:i < ns.length):(prF ns i ns.length).1≠[]:=by
 have main:∀ k:Nat,i < k→k≤ns.length→(prF ns i k).1≠[]:=by
  intro k
  induction k with
  | zero=>intro h;omega
  | succ k ih =>
    intro h1 h2
    by_cases hk:i < k
    ·have:=ih hk (by omega)
     simp only[prF]
     split
     ·simp
     ·exact this
    ·have hki:i=k:=by omega
     have:anc ns i k=true:=by rw[← hki];exact anc_self hu i0 i1
     simp[prF,this]
 exact main ns.length i1 (Nat.le_refl _)
def RowI (st:St) (s1 s2:Nat) (y:AV) (l:List Int):Prop :=
 (y=.v (.slice none 0 0)∧l=[])∨(∃ g,y=.own s1 g∧g < st.cnt s1∧st.heap s1 g=some (.row 3 1 l.length (csInt l)))∨(∃ g,y=.own s2 g∧g < st.cnt s2∧st.heap s2 g=some (.row 3 1 l.length (csInt l)))
def RowN (st:St) (s1:Nat) (x:AV) (l:List Node):Prop :=
 (x=.v (.slice none 0 0)∧l=[])∨(∃ g,x=.own s1 g∧g < st.cnt s1∧st.heap s1 g=some (.row 76 240 l.length (csNode l)))
theorem c34 (ns:List Node) (hu:UpOk ns) (hn:(ns.length:Int) < 1000000) (i:Int) (i0:0≤i) (i1:i < ns.length):callL Tryz.prog 34 [.agg (cTree ⟨ns⟩),.v (.int .i64 i)] =
 some (.tup [.agg (cTree ⟨(prF ns i ns.length).1⟩),.sl (prF ns i ns.length).2.length (csInt (prF ns i ns.length).2),.v (.int .i64 0)]):=by
 have hd:(decide (0≤i) && decide (i < ns.length))=true:=by simp[i0,i1]
 rw[cL Tryz.func34 rfl ok34 rfl]
 simp only[ZZ,seval,k87,hd]
 refine use_loop (fun n st=>∃ (k:Nat) (x y:AV),st.env 2=.ptr 2 0 0∧st.heap 2 0=some (.cells (cTree ⟨ns⟩))∧st.env 4=.ptr 4 0 0∧st.heap 4 0=some (.cells [.v (.slice none 0 0)])∧st.env 7=.ptr 7 0 0∧st.heap 7 0=some (.cells [x]) ∧
  st.env 1=.v (.int .i64 i)∧st.env 9=.v (.int .i64 k)∧k≤ns.length∧n=ns.length - k∧st.env 8=y∧RowI st 30 51 y (prF ns i k).2∧RowN st 56 x (prF ns i k).1)
  (fun e st=>e=.exit 0∧∃ (x y:AV),st.env 4=.ptr 4 0 0∧st.heap 4 0=some (.cells [.v (.slice none 0 0)])∧st.env 7=.ptr 7 0 0∧st.heap 7 0=some (.cells [x])∧st.env 8=y∧RowI st 30 51 y (prF ns i ns.length).2∧RowN st 56 x (prF ns i ns.length).1) ns.length ?step ?start ?rest
 case step =>
  rintro n st ⟨k,x,y,h2,hh2,h4,hh4,h7,hh7,h1,h9,hk,hn',h8,hy,hx⟩
  have hlen:=prF_idx ns i k
  have hlen2:=prF_nodes ns i k
  have hl1:((prF ns i k).2.length:Int) < 1000000:=by omega
  have hl2:((prF ns i k).1.length:Int) < 1000000:=by omega
  by_cases hlt:(k:Int) < ns.length
  ·have hw:IntKind.i64.wrap ((k:Int)+1)=((k+1:Nat):Int):=by rw[w157 _ (by omega) (by omega)];simp
   have k0:(0:Int)≤k:=by omega
   by_cases hanc:anc ns i k=true
   ·have hs:prF ns i (k+1)=((prF ns i k).1 ++ [{ nd ns k with up:=if (k:Int)=i then -1 else it (prF ns i k).2 (nd ns k).up }],(prF ns i k).2 ++ [((prF ns i k).1.length:Int)]):=by simp only[prF,hanc,if_true]
    have upb:(k:Int)≠i→0≤(nd ns k).up∧(nd ns k).up < (prF ns i k).2.length:=fun hne=>by
     rcases Nat.eq_zero_or_pos k with h0 | h0
     ·subst h0
      rw[show ((0:Nat):Int)=0 from rfl,anc_zero (by omega)] at hanc
      simp at hanc
      omega
     ·have:=hu k (by omega) hlt
      rw[hlen];omega
    by_cases hki:(k:Int)=i
    ·have hq:((k:Int) == i)=true:=by simp[hki]
     rw[if_pos hki] at hs
     rcases hy with ⟨rfl,hy⟩ | ⟨g,rfl,hg,hy⟩ | ⟨g,rfl,hg,hy⟩<;>rcases hx with ⟨rfl,hx⟩ | ⟨g',rfl,hg',hx⟩
     ·rw[hy,hx] at hs
      apply oN ((ns.length - (k+1)))
      ·simp only[ZZ,seval,h2,hh2,h4,hh4,h7,hh7,h1,h9,h8,hlt,k0,k47 ns hu hn,hanc,hw,hq]
       rfl
      ·exact⟨k+1,_,_,(by simp only[EV,seval,h2]),(by simp only[EV,seval,hh2]),(by simp only[EV,seval,h4]),(by simp only[EV,seval,hh4]),(by simp only[EV,seval,h7]),(by simp only[EV,seval];rfl),(by simp only[EV,seval,h1]),(by simp only[EV,seval]),by omega,by omega,(by simp only[EV,seval];rfl),(by rw[hs];(try simp only[List.nil_append]);exact .inr (.inr ⟨_,rfl,(by simp only[EV,seval]<;>omega),(by simp only[EV,seval]<;>rfl)⟩)),(by rw[hs];(try simp only[List.nil_append]);exact .inr ⟨_,rfl,(by simp only[EV,seval]<;>omega),(by simp only[EV,seval]<;>rfl)⟩)⟩
     ·rw[hy] at hs
      apply oN ((ns.length - (k+1)))
      ·simp only[ZZ,seval,h2,hh2,h4,hh4,h7,hh7,h1,h9,h8,hlt,k0,k47 ns hu hn,hanc,hw,hq,hx,hl2]
       rfl
      ·exact⟨k+1,_,_,(by simp only[EV,seval,h2]),(by simp only[EV,seval,hh2]),(by simp only[EV,seval,h4]),(by simp only[EV,seval,hh4]),(by simp only[EV,seval,h7]),(by simp only[EV,seval];rfl),(by simp only[EV,seval,h1]),(by simp only[EV,seval]),by omega,by omega,(by simp only[EV,seval];rfl),(by rw[hs];(try simp only[List.nil_append]);exact .inr (.inr ⟨_,rfl,(by simp only[EV,seval]<;>omega),(by simp only[EV,seval]<;>rfl)⟩)),(by rw[hs];(try simp only[List.nil_append]);exact .inr ⟨_,rfl,(by simp only[EV,seval]<;>omega),(by simp only[EV,seval]<;>rfl)⟩)⟩
     ·rw[hx] at hs
      apply oN ((ns.length - (k+1)))
      ·simp only[ZZ,seval,h2,hh2,h4,hh4,h7,hh7,h1,h9,h8,hlt,k0,k47 ns hu hn,hanc,hw,hq,hy,hl1]
       rfl
      ·exact⟨k+1,_,_,(by simp only[EV,seval,h2]),(by simp only[EV,seval,hh2]),(by simp only[EV,seval,h4]),(by simp only[EV,seval,hh4]),(by simp only[EV,seval,h7]),(by simp only[EV,seval];rfl),(by simp only[EV,seval,h1]),(by simp only[EV,seval]),by omega,by omega,(by simp only[EV,seval];rfl),(by rw[hs];(try simp only[List.nil_append]);exact .inr (.inr ⟨_,rfl,(by simp only[EV,seval]<;>omega),(by simp only[EV,seval]<;>rfl)⟩)),(by rw[hs];(try simp only[List.nil_append]);exact .inr ⟨_,rfl,(by simp only[EV,seval]<;>omega),(by simp only[EV,seval]<;>rfl)⟩)⟩
     ·apply oN ((ns.length - (k+1)))
      ·simp only[ZZ,seval,h2,hh2,h4,hh4,h7,hh7,h1,h9,h8,hlt,k0,k47 ns hu hn,hanc,hw,hq,hy,hl1,hx,hl2]
       rfl
      ·exact⟨k+1,_,_,(by simp only[EV,seval,h2]),(by simp only[EV,seval,hh2]),(by simp only[EV,seval,h4]),(by simp only[EV,seval,hh4]),(by simp only[EV,seval,h7]),(by simp only[EV,seval];rfl),(by simp only[EV,seval,h1]),(by simp only[EV,seval]),by omega,by omega,(by simp only[EV,seval];rfl),(by rw[hs];(try simp only[List.nil_append]);exact .inr (.inr ⟨_,rfl,(by simp only[EV,seval]<;>omega),(by simp only[EV,seval]<;>rfl)⟩)),(by rw[hs];(try simp only[List.nil_append]);exact .inr ⟨_,rfl,(by simp only[EV,seval]<;>omega),(by simp only[EV,seval]<;>rfl)⟩)⟩
     ·rw[hx] at hs
      apply oN ((ns.length - (k+1)))
      ·simp only[ZZ,seval,h2,hh2,h4,hh4,h7,hh7,h1,h9,h8,hlt,k0,k47 ns hu hn,hanc,hw,hq,hy,hl1]
       rfl
      ·exact⟨k+1,_,_,(by simp only[EV,seval,h2]),(by simp only[EV,seval,hh2]),(by simp only[EV,seval,h4]),(by simp only[EV,seval,hh4]),(by simp only[EV,seval,h7]),(by simp only[EV,seval];rfl),(by simp only[EV,seval,h1]),(by simp only[EV,seval]),by omega,by omega,(by simp only[EV,seval];rfl),(by rw[hs];(try simp only[List.nil_append]);exact .inr (.inr ⟨_,rfl,(by simp only[EV,seval]<;>omega),(by simp only[EV,seval]<;>rfl)⟩)),(by rw[hs];(try simp only[List.nil_append]);exact .inr ⟨_,rfl,(by simp only[EV,seval]<;>omega),(by simp only[EV,seval]<;>rfl)⟩)⟩
     ·apply oN ((ns.length - (k+1)))
      ·simp only[ZZ,seval,h2,hh2,h4,hh4,h7,hh7,h1,h9,h8,hlt,k0,k47 ns hu hn,hanc,hw,hq,hy,hl1,hx,hl2]
       rfl
      ·exact⟨k+1,_,_,(by simp only[EV,seval,h2]),(by simp only[EV,seval,hh2]),(by simp only[EV,seval,h4]),(by simp only[EV,seval,hh4]),(by simp only[EV,seval,h7]),(by simp only[EV,seval];rfl),(by simp only[EV,seval,h1]),(by simp only[EV,seval]),by omega,by omega,(by simp only[EV,seval];rfl),(by rw[hs];(try simp only[List.nil_append]);exact .inr (.inr ⟨_,rfl,(by simp only[EV,seval]<;>omega),(by simp only[EV,seval]<;>rfl)⟩)),(by rw[hs];(try simp only[List.nil_append]);exact .inr ⟨_,rfl,(by simp only[EV,seval]<;>omega),(by simp only[EV,seval]<;>rfl)⟩)⟩
    ·have hq:((k:Int) == i)=false:=by simp[hki]
     obtain⟨u0,u1⟩:=upb hki
     rw[if_neg hki] at hs
     rcases hy with ⟨rfl,hy⟩ | ⟨g,rfl,hg,hy⟩ | ⟨g,rfl,hg,hy⟩<;>rcases hx with ⟨rfl,hx⟩ | ⟨g',rfl,hg',hx⟩
     ·exfalso;rw[hy] at u1;simp at u1;omega
     ·exfalso;rw[hy] at u1;simp at u1;omega
     ·rw[hx] at hs
      apply oN ((ns.length - (k+1)))
      ·simp only[ZZ,seval,h2,hh2,h4,hh4,h7,hh7,h1,h9,h8,hlt,k0,k47 ns hu hn,hanc,hw,hq,u0,u1,hy,hl1]
       rfl
      ·exact⟨k+1,_,_,(by simp only[EV,seval,h2]),(by simp only[EV,seval,hh2]),(by simp only[EV,seval,h4]),(by simp only[EV,seval,hh4]),(by simp only[EV,seval,h7]),(by simp only[EV,seval];rfl),(by simp only[EV,seval,h1]),(by simp only[EV,seval]),by omega,by omega,(by simp only[EV,seval];rfl),(by rw[hs];(try simp only[List.nil_append]);exact .inr (.inr ⟨_,rfl,(by simp only[EV,seval]<;>omega),(by simp only[EV,seval]<;>rfl)⟩)),(by rw[hs];(try simp only[List.nil_append]);exact .inr ⟨_,rfl,(by simp only[EV,seval]<;>omega),(by simp only[EV,seval]<;>rfl)⟩)⟩
     ·apply oN ((ns.length - (k+1)))
      ·simp only[ZZ,seval,h2,hh2,h4,hh4,h7,hh7,h1,h9,h8,hlt,k0,k47 ns hu hn,hanc,hw,hq,u0,u1,hy,hl1,hx,hl2]
       rfl
      ·exact⟨k+1,_,_,(by simp only[EV,seval,h2]),(by simp only[EV,seval,hh2]),(by simp only[EV,seval,h4]),(by simp only[EV,seval,hh4]),(by simp only[EV,seval,h7]),(by simp only[EV,seval];rfl),(by simp only[EV,seval,h1]),(by simp only[EV,seval]),by omega,by omega,(by simp only[EV,seval];rfl),(by rw[hs];(try simp only[List.nil_append]);exact .inr (.inr ⟨_,rfl,(by simp only[EV,seval]<;>omega),(by simp only[EV,seval]<;>rfl)⟩)),(by rw[hs];(try simp only[List.nil_append]);exact .inr ⟨_,rfl,(by simp only[EV,seval]<;>omega),(by simp only[EV,seval]<;>rfl)⟩)⟩
     ·rw[hx] at hs
      apply oN ((ns.length - (k+1)))
      ·simp only[ZZ,seval,h2,hh2,h4,hh4,h7,hh7,h1,h9,h8,hlt,k0,k47 ns hu hn,hanc,hw,hq,u0,u1,hy,hl1]
       rfl
      ·exact⟨k+1,_,_,(by simp only[EV,seval,h2]),(by simp only[EV,seval,hh2]),(by simp only[EV,seval,h4]),(by simp only[EV,seval,hh4]),(by simp only[EV,seval,h7]),(by simp only[EV,seval];rfl),(by simp only[EV,seval,h1]),(by simp only[EV,seval]),by omega,by omega,(by simp only[EV,seval];rfl),(by rw[hs];(try simp only[List.nil_append]);exact .inr (.inr ⟨_,rfl,(by simp only[EV,seval]<;>omega),(by simp only[EV,seval]<;>rfl)⟩)),(by rw[hs];(try simp only[List.nil_append]);exact .inr ⟨_,rfl,(by simp only[EV,seval]<;>omega),(by simp only[EV,seval]<;>rfl)⟩)⟩
     ·apply oN ((ns.length - (k+1)))
      ·simp only[ZZ,seval,h2,hh2,h4,hh4,h7,hh7,h1,h9,h8,hlt,k0,k47 ns hu hn,hanc,hw,hq,u0,u1,hy,hl1,hx,hl2]
       rfl
      ·exact⟨k+1,_,_,(by simp only[EV,seval,h2]),(by simp only[EV,seval,hh2]),(by simp only[EV,seval,h4]),(by simp only[EV,seval,hh4]),(by simp only[EV,seval,h7]),(by simp only[EV,seval];rfl),(by simp only[EV,seval,h1]),(by simp only[EV,seval]),by omega,by omega,(by simp only[EV,seval];rfl),(by rw[hs];(try simp only[List.nil_append]);exact .inr (.inr ⟨_,rfl,(by simp only[EV,seval]<;>omega),(by simp only[EV,seval]<;>rfl)⟩)),(by rw[hs];(try simp only[List.nil_append]);exact .inr ⟨_,rfl,(by simp only[EV,seval]<;>omega),(by simp only[EV,seval]<;>rfl)⟩)⟩
   ·have hanc':anc ns i k=false:=by simpa using hanc
    have hs:prF ns i (k+1)=((prF ns i k).1,(prF ns i k).2 ++ [-1]):=by simp[prF,hanc']
    rcases hy with ⟨rfl,hy⟩ | ⟨g,rfl,hg,hy⟩ | ⟨g,rfl,hg,hy⟩<;>rcases hx with ⟨rfl,hx⟩ | ⟨g',rfl,hg',hx⟩
    ·rw[hy,hx] at hs
     apply oN ((ns.length - (k+1)))
     ·simp only[ZZ,seval,h2,hh2,h4,hh4,h7,hh7,h1,h9,h8,hlt,k0,k47 ns hu hn,hanc',hw]
      rfl
     ·exact⟨k+1,_,_,(by simp only[EV,seval,h2]),(by simp only[EV,seval,hh2]),(by simp only[EV,seval,h4]),(by simp only[EV,seval,hh4]),(by simp only[EV,seval,h7]),(by simp only[EV,seval,hh7];rfl),(by simp only[EV,seval,h1]),(by simp only[EV,seval]),by omega,by omega,(by simp only[EV,seval];rfl),(by rw[hs];(try simp only[List.nil_append]);exact .inr (.inl ⟨_,rfl,(by simp only[EV,seval]<;>omega),(by simp only[EV,seval]<;>rfl)⟩)),(by rw[hs];exact .inl ⟨rfl,rfl⟩)⟩
    ·rw[hy] at hs
     apply oN ((ns.length - (k+1)))
     ·simp only[ZZ,seval,h2,hh2,h4,hh4,h7,hh7,h1,h9,h8,hlt,k0,k47 ns hu hn,hanc',hw,hx,hl2]
      rfl
     ·exact⟨k+1,_,_,(by simp only[EV,seval,h2]),(by simp only[EV,seval,hh2]),(by simp only[EV,seval,h4]),(by simp only[EV,seval,hh4]),(by simp only[EV,seval,h7]),(by simp only[EV,seval,hh7];rfl),(by simp only[EV,seval,h1]),(by simp only[EV,seval]),by omega,by omega,(by simp only[EV,seval];rfl),(by rw[hs];(try simp only[List.nil_append]);exact .inr (.inl ⟨_,rfl,(by simp only[EV,seval]<;>omega),(by simp only[EV,seval]<;>rfl)⟩)),(by rw[hs];exact .inr ⟨_,rfl,(by simp only[EV,seval]<;>omega),(by simp only[EV,seval,hx])⟩)⟩
    ·rw[hx] at hs
     apply oN ((ns.length - (k+1)))
     ·simp only[ZZ,seval,h2,hh2,h4,hh4,h7,hh7,h1,h9,h8,hlt,k0,k47 ns hu hn,hanc',hw,hy,hl1]
      rfl
     ·exact⟨k+1,_,_,(by simp only[EV,seval,h2]),(by simp only[EV,seval,hh2]),(by simp only[EV,seval,h4]),(by simp only[EV,seval,hh4]),(by simp only[EV,seval,h7]),(by simp only[EV,seval,hh7];rfl),(by simp only[EV,seval,h1]),(by simp only[EV,seval]),by omega,by omega,(by simp only[EV,seval];rfl),(by rw[hs];(try simp only[List.nil_append]);exact .inr (.inl ⟨_,rfl,(by simp only[EV,seval]<;>omega),(by simp only[EV,seval]<;>rfl)⟩)),(by rw[hs];exact .inl ⟨rfl,rfl⟩)⟩
    ·apply oN ((ns.length - (k+1)))
     ·simp only[ZZ,seval,h2,hh2,h4,hh4,h7,hh7,h1,h9,h8,hlt,k0,k47 ns hu hn,hanc',hw,hy,hl1,hx,hl2]
      rfl
     ·exact⟨k+1,_,_,(by simp only[EV,seval,h2]),(by simp only[EV,seval,hh2]),(by simp only[EV,seval,h4]),(by simp only[EV,seval,hh4]),(by simp only[EV,seval,h7]),(by simp only[EV,seval,hh7];rfl),(by simp only[EV,seval,h1]),(by simp only[EV,seval]),by omega,by omega,(by simp only[EV,seval];rfl),(by rw[hs];(try simp only[List.nil_append]);exact .inr (.inl ⟨_,rfl,(by simp only[EV,seval]<;>omega),(by simp only[EV,seval]<;>rfl)⟩)),(by rw[hs];exact .inr ⟨_,rfl,(by simp only[EV,seval]<;>omega),(by simp only[EV,seval,hx])⟩)⟩
    ·rw[hx] at hs
     apply oN ((ns.length - (k+1)))
     ·simp only[ZZ,seval,h2,hh2,h4,hh4,h7,hh7,h1,h9,h8,hlt,k0,k47 ns hu hn,hanc',hw,hy,hl1]
      rfl
     ·exact⟨k+1,_,_,(by simp only[EV,seval,h2]),(by simp only[EV,seval,hh2]),(by simp only[EV,seval,h4]),(by simp only[EV,seval,hh4]),(by simp only[EV,seval,h7]),(by simp only[EV,seval,hh7];rfl),(by simp only[EV,seval,h1]),(by simp only[EV,seval]),by omega,by omega,(by simp only[EV,seval];rfl),(by rw[hs];(try simp only[List.nil_append]);exact .inr (.inl ⟨_,rfl,(by simp only[EV,seval]<;>omega),(by simp only[EV,seval]<;>rfl)⟩)),(by rw[hs];exact .inl ⟨rfl,rfl⟩)⟩
    ·apply oN ((ns.length - (k+1)))
     ·simp only[ZZ,seval,h2,hh2,h4,hh4,h7,hh7,h1,h9,h8,hlt,k0,k47 ns hu hn,hanc',hw,hy,hl1,hx,hl2]
      rfl
     ·exact⟨k+1,_,_,(by simp only[EV,seval,h2]),(by simp only[EV,seval,hh2]),(by simp only[EV,seval,h4]),(by simp only[EV,seval,hh4]),(by simp only[EV,seval,h7]),(by simp only[EV,seval,hh7];rfl),(by simp only[EV,seval,h1]),(by simp only[EV,seval]),by omega,by omega,(by simp only[EV,seval];rfl),(by rw[hs];(try simp only[List.nil_append]);exact .inr (.inl ⟨_,rfl,(by simp only[EV,seval]<;>omega),(by simp only[EV,seval]<;>rfl)⟩)),(by rw[hs];exact .inr ⟨_,rfl,(by simp only[EV,seval]<;>omega),(by simp only[EV,seval,hx])⟩)⟩
  ·have hkn:k=ns.length:=by omega
   subst hkn
   apply oT (.exit 0)
   ·simp only[ZZ,seval,h2,hh2,h4,hh4,h7,hh7,h1,h9,h8,hlt]
    rfl
   ·exact⟨rfl,x,y,(by simp only[EV,seval,h4]),(by simp only[EV,seval,hh4]),(by simp only[EV,seval,h7]),(by simp only[EV,seval,hh7]),(by simp only[EV,seval,h8]),hy,hx⟩
 case start=>exact⟨0,_,_,(by simp only[EV,seval]),(by simp only[EV,seval]),(by simp only[EV,seval]),(by simp only[EV,seval]),(by simp only[EV,seval]),(by simp only[EV,seval]<;>rfl),(by simp only[EV,seval]),(by simp only[EV,seval]<;>rfl),by omega,by omega,(by simp only[EV,seval]<;>rfl),.inl ⟨rfl,rfl⟩,.inl ⟨rfl,rfl⟩⟩
 case rest =>
  rintro e st ⟨rfl,x,y,h4,hh4,h7,hh7,h8,hy,hx⟩
  have hlen:=prF_idx ns i ns.length
  have hne:=prF_ne ns hu i0 i1
  rcases hy with ⟨rfl,hy⟩ | ⟨g,rfl,hg,hy⟩ | ⟨g,rfl,hg,hy⟩<;>rcases hx with ⟨rfl,hx⟩ | ⟨g',rfl,hg',hx⟩
  ·exact absurd hx hne
  ·rw[hy] at hlen;simp at hlen;omega
  ·exact absurd hx hne
  ·simp only[ZZ,seval,h4,hh4,h7,hh7,h8]
   exact xthree rfl (by simp only[resA,ZZ,seval,h4,hh4,h7,hh7,h8];rfl) (by simp only[resA,EV,seval]<;>rfl) (by simp only[resA,EV,seval]<;>rfl) (by simp only[EV,seval,hx,Option.map_some]<;>rfl) (by simp only[EV,seval,hy]) (by simp only[EV,seval])
  ·exact absurd hx hne
  ·simp only[ZZ,seval,h4,hh4,h7,hh7,h8]
   exact xthree rfl (by simp only[resA,ZZ,seval,h4,hh4,h7,hh7,h8];rfl) (by simp only[resA,EV,seval]<;>rfl) (by simp only[resA,EV,seval]<;>rfl) (by simp only[EV,seval,hx,Option.map_some]<;>rfl) (by simp only[EV,seval,hy]) (by simp only[EV,seval])
theorem use_loopN {P:Program} {b:Code} {st:St} {k:Ex × St→Option (Ex × St)} {R:Ex→St→Prop} (Inv:Nat→St→Prop) (Q:Ex→St→Prop) (n:Nat)
 (step:∀ n st,Inv n st→∃ e st',evL P b st=some (e,st')∧((e=.normal∧∃ m,m < n∧Inv m st')∨(e≠.normal∧Q e st')))
 (start:Inv n st) (rest:∀ e st',Q e st'→∃ e' st'',k (e,st')=some (e',st'')∧R e' st''):∃ e' st'',bnd (evL P (.loop b) st) k=some (e',st'')∧R e' st'':=by
 obtain⟨e,s1,h1,h2,h3⟩:=loop_main Inv Q step n st start
 rw[h1];exact rest e s1 h3
theorem go_onX {x:Option (Ex × St)} {st':St} {n:Nat} {Inv:Nat→St→Prop} {Q:Ex→St→Prop} (h:x=some (.normal,st')) (m:Nat) (hm:m < n) (hi:Inv m st') :
 ∃ e st',x=some (e,st')∧((e=.normal∧∃ m,m < n∧Inv m st')∨(e≠.normal∧Q e st')):=⟨_,_,h,.inl ⟨rfl,m,hm,hi⟩⟩
theorem ev_bs22_2 {call:Nat→List AV→Option AV} {ops:Array Oper} {st:St} {T:Nat} {pos:String} {aft:Array Edge} (d:Nat) (x y:Operand) {a b:Int} (h1:st.ev x=.v (.int .i64 a)) (h2:st.ev y=.v (.int .i64 b)):evOp Tryz.prog call ops ⟨some d,.buildSlice 22 2 #[(0,x),(1,y)],T,pos,aft,none⟩ st =
 some ((st.new d (.row 3 1 2 (csInt [a,b]))).put (some d) (.own d (st.cnt d))):=by
 rw[ev_buildSlice]
 simp[sl22,ze3,bnd,h1,h2,AV.stor,Value.oneCell',fillA,AV.cells,List.range,List.range.loop,csInt,cInt]
theorem ev_bs22_2E {call:Nat→List AV→Option AV} {ops:Array Oper} {st:St} {T:Nat} {pos:String} {aft:Array Edge} (d:Nat) (x y:Operand):evOp Tryz.prog call ops ⟨some d,.buildSlice 22 2 #[(0,x),(1,y)],T,pos,aft,none⟩ st =
 elI (st.ev x) (fun a=>elI (st.ev y) (fun b=>some ((st.new d (.row 3 1 2 (csInt [a,b]))).put (some d) (.own d (st.cnt d)))) (evOp Tryz.prog call ops ⟨some d,.buildSlice 22 2 #[(0,x),(1,y)],T,pos,aft,none⟩ st))
  (evOp Tryz.prog call ops ⟨some d,.buildSlice 22 2 #[(0,x),(1,y)],T,pos,aft,none⟩ st):=by
 unfold elI
 split
 ·rename_i a h1
  try dsimp only
  split
  ·rename_i b h2;exact ev_bs22_2 d x y h1 h2
  ·rfl
 ·rfl
def dsc (ns:List Node) (i:Int):Nat→List Int
 | 0=>[]
 | k+1=>if anc ns i k=true then dsc ns i k ++ [(k:Int)] else dsc ns i k
theorem dsc_len (ns:List Node) (i:Int):∀ k,(dsc ns i k).length≤k
 | 0=>Nat.le_refl _
 | k+1=>by
   have:=dsc_len ns i k
   simp only[dsc]
   split
   ·simp;omega
   ·omega
theorem dsc_ne {ns:List Node} (hu:UpOk ns) {i:Int} (i0:0≤i) (i1:i < ns.length):∀ k:Nat,i < k→dsc ns i k≠[]
 | 0,h=>by omega
 | k+1,h=>by
   simp only[dsc]
   by_cases hk:i=k
   ·rw[if_pos (by unfold anc;rw[← hk];exact decide_eq_true (path_self hu i0 i1))];simp
   ·have:=dsc_ne hu i0 i1 k (by omega)
    split
    ·simp
    ·exact this
theorem dsc_mem (ns:List Node) (i x:Int):∀ k:Nat,x∈dsc ns i k↔(0≤x∧x < k)∧anc ns i x=true
 | 0=>by simp[dsc];intro h h';omega
 | k+1=>by
   have ih:=dsc_mem ns i x k
   simp only[dsc]
   split
   ·rename_i h
    rw[List.mem_append,ih,List.mem_singleton]
    constructor
    ·rintro (⟨h1,h2⟩ | rfl)
     ·exact⟨by omega,h2⟩
     ·exact⟨by omega,h⟩
    ·rintro⟨h1,h2⟩
     by_cases hk:x=k
     ·exact .inr hk
     ·exact .inl ⟨by omega,h2⟩
   ·rename_i h
    rw[ih]
    constructor
    ·rintro⟨h1,h2⟩;exact⟨by omega,h2⟩
    ·rintro⟨h1,h2⟩
     by_cases hk:x=k
     ·subst hk;exact absurd h2 h
     ·exact⟨by omega,h2⟩
def prOk (ns:List Node) (i:Int):AV:=.tup [.agg (cTree ⟨(prF ns i ns.length).1⟩),.sl (prF ns i ns.length).2.length (csInt (prF ns i ns.length).2),.v (.int .i64 0)]
theorem flat_prOk (ns:List Node) (i:Int):Flat (prOk ns i):=.tup _ (flat3 (flatT _) (flatSl _) (.v _))
theorem k34 (ns:List Node) (hu:UpOk ns) (hn:(ns.length:Int) < 1000000) (i:Int) (h:0≤i∧i < ns.length) (st:St) (d:Option Nat):callFn (callL Tryz.prog) 34 [.agg (cTree ⟨ns⟩),.v (.int .i64 i)] st d=some { dst:=d,val:=prOk ns i }:=call_flat (flat2 (flatT _) (.v _)) (c34 ns hu hn i h.1 h.2) (flat_prOk ns i)
theorem prF_at {ns:List Node} (hu:UpOk ns) {i:Int}:∀ k:Nat,k≤ns.length→∀ a:Int,0≤a→a < k→anc ns i a=true →
 0≤it (prF ns i k).2 a∧it (prF ns i k).2 a < (prF ns i k).1.length∧nd (prF ns i k).1 (it (prF ns i k).2 a)={ nd ns a with up:=if a=i then -1 else it (prF ns i k).2 (nd ns a).up }
 | 0,_,a,a0,a1,_=>by omega
 | k+1,hk,a,a0,a1,ha=>by
   have hl:=prF_idx ns i k
   have hup:a≠i→0≤(nd ns a).up∧(nd ns a).up < a:=fun h=>by
    by_cases ha0:a=0
    ·subst ha0;rw[anc_zero (by omega)] at ha;simp at ha;omega
    ·exact hu a (by omega) (by omega)
   by_cases hak:a < k
   ·obtain⟨h1,h2,h3⟩:=prF_at hu k (by omega) a a0 hak ha
    simp only[prF]
    split
    ·simp only
     rw[it_app_lt a0 (by omega),nd_app_lt h1 h2,h3]
     refine⟨h1,by simp;omega, ?_⟩
     by_cases hai:a=i
     ·rw[if_pos hai,if_pos hai]
     ·obtain⟨u0,u1⟩:=hup hai
      rw[if_neg hai,if_neg hai,it_app_lt u0 (by omega)]
    ·simp only
     rw[it_app_lt a0 (by omega),h3]
     refine⟨h1,h2, ?_⟩
     by_cases hai:a=i
     ·rw[if_pos hai,if_pos hai]
     ·obtain⟨u0,u1⟩:=hup hai
      rw[if_neg hai,if_neg hai,it_app_lt u0 (by omega)]
   ·have hak:a=k:=by omega
    subst hak
    simp only[prF,ha,if_true]
    rw[it_app_eq (by omega),nd_app_eq rfl]
    refine⟨by omega,by simp<;>omega, ?_⟩
    by_cases hai:(k:Int)=i
    ·rw[if_pos hai,if_pos hai]
    ·obtain⟨u0,u1⟩:=hup hai
     rw[if_neg hai,if_neg hai,it_app_lt u0 (by omega)]
theorem prF_stable (ns:List Node) (i:Int):∀ (d k:Nat) (a:Int),0≤a→a < k→it (prF ns i (k+d)).2 a=it (prF ns i k).2 a
 | 0,k,a,_,_=>rfl
 | d+1,k,a,a0,a1=>by
   have ih:=prF_stable ns i d k a a0 a1
   have hl:=prF_idx ns i (k+d)
   rw[← ih,← Nat.add_assoc]
   simp only[prF]
   split
   ·simp only;rw[it_app_lt a0 (by omega)]
   ·simp only;rw[it_app_lt a0 (by omega)]
theorem prF_pos {ns:List Node} {i:Int} {n:Nat} {k:Nat} (hk:k < n) (ha:anc ns i k=true):it (prF ns i n).2 k=(prF ns i k).1.length:=by
 obtain⟨d,rfl⟩:∃ d,n=k+1+d:=⟨n - (k+1),by omega⟩
 rw[prF_stable ns i d (k+1) k (by omega) (by omega)]
 have hl:=prF_idx ns i k
 simp only[prF,ha,if_true]
 rw[it_app_eq (by omega)]
theorem prF_mono {ns:List Node} (hu:UpOk ns) {i:Int} {n:Nat} (hn:n≤ns.length) {a b:Int} (a0:0≤a) (hab:a < b) (hb:b < n) (ha:anc ns i a=true) (hb':anc ns i b=true):it (prF ns i n).2 a < it (prF ns i n).2 b:=by
 obtain⟨k,rfl⟩:∃ k:Nat,b=k:=⟨b.toNat,by omega⟩
 rw[prF_pos (by omega) hb']
 obtain⟨d,rfl⟩:∃ d,n=k+d:=⟨n - k,by omega⟩
 rw[prF_stable ns i d k a a0 hab]
 exact (prF_at hu k (by omega) a a0 hab ha).2.1
theorem prF_onto (ns:List Node) (i:Int):∀ (k:Nat) (m:Int),0≤m→m < (prF ns i k).1.length→∃ a:Int,0≤a∧a < k∧anc ns i a=true∧it (prF ns i k).2 a=m
 | 0,m,m0,m1=>by simp[prF] at m1;omega
 | k+1,m,m0,m1=>by
   have hl:=prF_idx ns i k
   simp only[prF] at m1 ⊢
   split at m1
   ·rename_i h
    rw[if_pos h]
    simp only at m1 ⊢
    by_cases hm:m < (prF ns i k).1.length
    ·obtain⟨a,a0,a1,ha,he⟩:=prF_onto ns i k m m0 hm
     exact⟨a,a0,by omega,ha,by rw[it_app_lt a0 (by omega)];exact he⟩
    ·simp at m1
     exact⟨k,by omega,by omega,h,by rw[it_app_eq (by omega)];omega⟩
   ·rename_i h
    rw[if_neg h]
    simp only at m1 ⊢
    obtain⟨a,a0,a1,ha,he⟩:=prF_onto ns i k m m0 m1
    exact⟨a,a0,by omega,ha,by rw[it_app_lt a0 (by omega)];exact he⟩
end Go.Ab.Tryz
section
namespace Go.Ab.Tryz
open Classical Go.Proofs Go.Ab
variable {ns:List Node} {i:Int}
theorem pr_at (hu:UpOk ns) {a:Int} (ha:anc ns i a=true):0≤it (prF ns i ns.length).2 a∧it (prF ns i ns.length).2 a < (prF ns i ns.length).1.length∧nd (prF ns i ns.length).1 (it (prF ns i ns.length).2 a)={ nd ns a with up:=if a=i then -1 else it (prF ns i ns.length).2 (nd ns a).up }:=by
 have h:=(anc_in hu ha).2
 exact prF_at hu ns.length (Nat.le_refl _) a h.1 h.2 ha
theorem pr_mono (hu:UpOk ns) {a b:Int} (hab:a < b) (ha:anc ns i a=true) (hb:anc ns i b=true):it (prF ns i ns.length).2 a < it (prF ns i ns.length).2 b :=
 prF_mono hu (Nat.le_refl _) (anc_in hu ha).2.1 hab (anc_in hu hb).2.2 ha hb
theorem pr_zero (hu:UpOk ns) (hi:anc ns i i=true):it (prF ns i ns.length).2 i=0:=by
 obtain⟨h1,h2,_⟩:=pr_at hu hi
 obtain⟨a,a0,a1,ha,he⟩:=prF_onto ns i ns.length 0 (Int.le_refl 0) (by omega)
 have:=anc_le hu ha
 by_cases h:i=a
 ·rw[h] at he ⊢
  rw[← h] at he ⊢
  exact he
 ·have:=pr_mono hu (show i < a by omega) hi ha
  omega
theorem pr_up (hu:UpOk ns) {a:Int} (ha:anc ns i a=true) (h:a≠i):0 < a∧(0≤(nd ns a).up∧(nd ns a).up < a)∧anc ns i (nd ns a).up=true:=by
 obtain⟨⟨i0,_⟩,a0,a1⟩:=anc_in hu ha
 have:=anc_le hu ha
 have hp:0 < a:=by omega
 refine⟨hp,hu a hp a1, ?_⟩
 rw[← anc_up hu a1 (by omega) i0];exact ha
theorem pr_upok (hu:UpOk ns) (hi:anc ns i i=true):UpOk (prF ns i ns.length).1:=by
 intro m m0 m1
 obtain⟨a,a0,a1,ha,rfl⟩:=prF_onto ns i ns.length m (by omega) m1
 have hai:a≠i:=by rintro rfl;rw[pr_zero hu hi] at m0;omega
 obtain⟨_,⟨u0,u1⟩,hup⟩:=pr_up hu ha hai
 rw[(pr_at hu ha).2.2]
 simp only[if_neg hai]
 exact⟨(pr_at hu hup).1,pr_mono hu u1 hup ha⟩
end Go.Ab.Tryz
end
namespace Go.Ab.Tryz
open Classical Go.Proofs Go.Ab
structure Vld (ns:List Node):Prop where
 len0:0 < ns.length
 lenM:ns.length≤4096
 up0:(nd ns 0).up=-1
 up:UpOk ns
 par:∀ i:Int,0 < i→i < ns.length→(nd ns i).block.parent=(nd ns (nd ns i).up).block.root
 slot:∀ i:Int,0 < i→i < ns.length→(nd ns (nd ns i).up).block.slot < (nd ns i).block.slot
 roots:∀ i j:Int,0≤i→i < j→j < ns.length→(nd ns i).block.root≠(nd ns j).block.root
 st:∀ i:Int,0≤i→i < ns.length→isSt (nd ns i).status=true
end Go.Ab.Tryz
namespace Go.Ab.Tryz
open Classical Go.Proofs Go.Ab
end Go.Ab.Tryz
namespace Go.Ab.Tryz
open Classical Go.Proofs Go.Ab
noncomputable def expoP (e:Option Ent) (o:Nat):Option AV :=
 match e with
 | some (.cells cs)=>if ∀ c∈cs,Flat c then some (.ip cs o) else none
 | _=>none
theorem expo_clo1 (st:St) (f s g o:Nat):expo st (.clo f [.ptr s g o])=(expoP (st.heap s g) o).map fun y=>.clo f [y]:=by
 have hn:¬ Flat (.clo f [.ptr s g o]):=by intro h;cases h with | clo _ _ h=>exact not_flat_ptr s g o (h _ (by simp))
 unfold expo expoP
 rw[if_neg hn]
 simp only[List.map_cons,List.map_nil]
 unfold expo1
 rw[if_neg (not_flat_ptr s g o)]
 simp only
 cases st.heap s g with
 | none=>rfl
 | some e=>cases e with
   | cells cs =>
     by_cases h:∀ c∈cs,Flat c
     ·simp only[if_pos h,optAll,Option.map_some]
     ·simp only[if_neg h,optAll,Option.map_none]
   | _=>rfl
theorem expoP_root (r:Root) (o:Nat):expoP (some (.cells (cRoot r))) o=some (.ip (cRoot r) o):=if_pos (flat_cRoot r)
theorem c151 (n:Node) (r:Root):callL Tryz.prog 151 [.agg (cNode n),.ip (cRoot r) 0]=some (.v (.bool (decide (n.block.root=r)))):=by
 rw[cL Tryz.func151 rfl ok151 rfl]
 simp only[ZZ,seval]
 exact xtmp rfl (by simp only[EV,seval]) (.v _)
theorem flatIpR (r:Root):Flat (.ip (cRoot r) 0):=.ip _ _ (flat_cRoot r)
theorem k151 (n:Node) (r:Root) (st:St) (d:Option Nat):callFn (callL Tryz.prog) 151 ([.agg (cNode n)] ++ [.ip (cRoot r) 0]) st d=some { dst:=d,val:=.v (.bool (decide (n.block.root=r)))}:=call_flat (flat2 (.agg _ (flat_cNode n)) (flatIpR r)) (c151 n r) (.v _)
theorem c150 (ns:List Node) (hn:(ns.length:Int) < 1000000) (r:Root):callL Tryz.prog 150 [.sl ns.length (csNode ns),.clo 151 [.ip (cRoot r) 0]]=some (.v (.int .i64 (findR ns r))):=by
 rw[cL Tryz.func150 rfl ok150 rfl]
 simp only[ZZ,seval]
 refine use_loop (fun n st=>∃ i:Int,(st.env 0=.sl ns.length (csNode ns)∧st.env 1=.clo 151 [.ip (cRoot r) 0]∧st.env 7=.v (.int .i64 ns.length)∧st.env 8=.v (.int .i64 i))∧0≤i∧i≤ns.length∧n=(ns.length - i).toNat∧∀ j,0≤j→j < i→(nd ns j).block.root≠r)
  (fun e st=>(e=.ret∧st.env 4=.v (.int .i64 (findR ns r)))∨(e=.exit 0∧findR ns r=-1)) ns.length ?step ?start ?rest
 case step =>
  rintro n st ⟨i,hI,i0,i1,hn',hb⟩
  by_cases hlt:i < ns.length
  ·have hw:IntKind.i64.wrap (i+1)=i+1:=w157 _ (by omega) (by omega)
   by_cases hr:(nd ns i).block.root=r
   ·have hd:decide ((nd ns i).block.root=r)=true:=decide_eq_true hr
    apply oT (.ret)
    ·simp only[ZZ,seval,hI,hlt,i0,k151,hd]
     rfl
    ·exact .inl ⟨rfl,by simp only[EV,seval,findR_at i0 hlt hr hb]⟩
   ·have hd:decide ((nd ns i).block.root=r)=false:=decide_eq_false hr
    apply oN ((ns.length - (i+1)).toNat)
    ·simp only[ZZ,seval,hI,hlt,i0,k151,hd,hw]
     rfl
    ·exact⟨i+1,by simp only[EV,seval,hI],by omega,by omega,rfl,fun j j0 j1=>by
     rcases Int.lt_or_eq_of_le (show j≤i by omega) with h | rfl
     ·exact hb j j0 h
     ·exact hr⟩
  ·apply oT (.exit 0)
   ·simp only[ZZ,seval,hI,hlt,i0]
    rfl
   ·exact .inr ⟨rfl,findR_none fun j j0 j1=>hb j j0 (by omega)⟩
 case start=>exact⟨0,(by simp only[EV,seval]),by omega,by omega,by omega,fun j _ _=>by omega⟩
 case rest =>
  rintro e st (⟨rfl,h⟩ | ⟨rfl,h⟩)
  ·simp only[ZZ,seval]
   exact xtmp rfl h (.v _)
  ·simp only[ZZ,seval]
   exact xtmp rfl (by simp only[EV,seval,h]) (.v _)
theorem q150 (args:List AV) (st:St) (d:Option Nat):callFn (callL Tryz.prog) 150 args st d=callQ (callL Tryz.prog) 150 (optAll (args.map (expo st))) (decide (∀ x∈args,Flat x)) st d:=callFn_Q _ _ _ _ _
theorem k150 (ns:List Node) (hn:(ns.length:Int) < 1000000) (r:Root) (fl:Bool) (st:St) (d:Option Nat):callQ (callL Tryz.prog) 150 (some [.sl ns.length (csNode ns),.clo 151 [.ip (cRoot r) 0]]) fl st d=some { dst:=d,val:=.v (.int .i64 (findR ns r))}:=Q_int (c150 ns hn r)
theorem expo_slN (st:St) (n:Nat) (l:List Node):expo st (.sl n (csNode l))=some (.sl n (csNode l)):=expo_id (.sl _ _ (flat_csNode l))
theorem c89 (ns:List Node) (r:Root) (hn:(ns.length:Int) < 1000000):callL Tryz.prog 89 [.agg (cTree ⟨ns⟩),.agg (cRoot r)]=some (.v (.int .i64 (findR ns r))):=by
 rw[cL Tryz.func89 rfl ok89 rfl]
 simp only[ZZ,seval,q150,expo_clo1,expoP_root,expo_slN,k150,hn]
 exact xtmp rfl (by simp only[EV,seval]) (.v _)
theorem k89 (ns:List Node) (r:Root) (hn:(ns.length:Int) < 1000000) (st:St) (d:Option Nat):callFn (callL Tryz.prog) 89 [.agg (cTree ⟨ns⟩),.agg (cRoot r)] st d=some { dst:=d,val:=.v (.int .i64 (findR ns r))}:=call_flat (flat2 (flatT _) (flatR _)) (c89 ns r hn) (.v _)
end Go.Ab.Tryz
namespace Go.Ab.Tryz
open Classical Go.Proofs Go.Ab
end Go.Ab.Tryz
namespace Go.Ab.Tryz
open Classical Go.Proofs Go.Ab
noncomputable def rowO (l:List Int):AV:=if l=[] then .v (.slice none 0 0) else .uniq 3 1 l.length (csInt l)
theorem rowO_nil:rowO []=.v (.slice none 0 0):=if_pos rfl
theorem rowO_ne {l:List Int} (h:l≠[]):rowO l=.uniq 3 1 l.length (csInt l):=if_neg h
def chl (ns:List Node) (i:Int):Nat→List Int
 | 0=>[]
 | k+1=>if (nd ns k).up=i then chl ns i k ++ [(k:Int)] else chl ns i k
theorem chl_len (ns:List Node) (i:Int):∀ k,(chl ns i k).length≤k
 | 0=>Nat.le_refl _
 | k+1=>by
   have:=chl_len ns i k
   simp only[chl]
   split
   ·simp;omega
   ·omega
theorem chl_none {ns:List Node} {i:Int}:∀ k:Nat,(∀ j:Int,0≤j→j < k→(nd ns j).up≠i)→chl ns i k=[]
 | 0,_=>rfl
 | k+1,h=>by
   simp only[chl]
   rw[if_neg (h k (by omega) (by omega))]
   exact chl_none k fun j j0 j1=>h j j0 (by omega)
theorem up_lt {ns:List Node} (hu:UpOk ns) (hr:(nd ns 0).up=-1) {j:Int} (j0:0≤j) (j1:j < ns.length):(nd ns j).up < ns.length:=by
 by_cases h:j=0
 ·subst h;omega
 ·have:=hu j (by omega) j1;omega
def chlV (ns:List Node) (i:Int):List Int:=if i < 0 then [] else chl ns i ns.length
theorem chlV_big {ns:List Node} (hu:UpOk ns) (hr:(nd ns 0).up=-1) {i:Int} (h:¬ (0≤i∧i < ns.length)):chlV ns i=[]:=by
 unfold chlV
 split
 ·rfl
 ·exact chl_none _ fun j j0 j1=>by have:=up_lt hu hr j0 j1;omega
theorem c245 (ns:List Node) (hu:UpOk ns) (hr:(nd ns 0).up=-1) (hn:(ns.length:Int) < 1000000) (i:Int):callL Tryz.prog 245 [.agg (cTree ⟨ns⟩),.v (.int .i64 i)]=some (rowO (chlV ns i)):=by
 rw[cL Tryz.func245 rfl ok245 rfl]
 by_cases hm:0≤i∧i < ns.length
 ·have hd:(decide (0≤i) && decide (i < ns.length))=true:=by simp[hm.1,hm.2]
  rw[show chlV ns i=chl ns i ns.length from if_neg (by omega)]
  simp only[ZZ,seval]
  refine use_loop (fun n st=>∃ k:Nat,(st.env 1=.v (.int .i64 i)∧st.env 2=.ptr 2 0 0∧st.heap 2 0=some (.cells (cTree ⟨ns⟩))∧st.env 6=.v (.int .i64 k)) ∧
   ((chl ns i k=[]∧st.env 5=.v (.slice none 0 0))∨(chl ns i k≠[]∧∃ g,st.env 5=.own 30 g∧g < st.cnt 30∧st.heap 30 g=some (.row 3 1 (chl ns i k).length (csInt (chl ns i k)))))∧k≤ns.length∧n=ns.length - k)
   (fun e st=>e=.exit 0∧((chl ns i ns.length=[]∧st.env 5=.v (.slice none 0 0))∨(chl ns i ns.length≠[]∧∃ g,st.env 5=.own 30 g∧g < st.cnt 30∧st.heap 30 g=some (.row 3 1 (chl ns i ns.length).length (csInt (chl ns i ns.length)))))) ns.length ?step ?start ?rest
  case step =>
   rintro n st ⟨k,hI,h5,hk,hn'⟩
   have hl:=chl_len ns i k
   have hl':((chl ns i k).length:Int) < 1000000:=by omega
   by_cases hlt:(k:Int) < ns.length
   ·have hw:IntKind.i64.wrap ((k:Int)+1)=((k+1:Nat):Int):=by rw[w157 _ (by omega) (by omega)];omega
    have q0:(0:Int)≤k:=by omega
    by_cases hu:(nd ns k).up=i
    ·have hq:((nd ns k).up == i)=true:=by simp[hu]
     have hs:chl ns i (k+1)=chl ns i k ++ [(k:Int)]:=by simp only[chl,hu,if_true]
     rcases h5 with ⟨hy,h5⟩ | ⟨hy,g,h5⟩
     ·rw[hy] at hs
      apply oN (ns.length - (k+1))
      ·simp only[ZZ,seval,hI,h5,hlt,hw,q0,hq,k87,hd]
       rfl
      ·exact⟨k+1,by simp only[EV,seval,hI],.inr ⟨by rw[hs];simp,_,by simp only[EV,seval]<;>rfl,(by simp only[EV,seval]<;>omega),(by rw[hs];simp only[EV,seval]<;>rfl)⟩,by omega,rfl⟩
     ·apply oN (ns.length - (k+1))
      ·simp only[ZZ,seval,hI,h5,hl',hlt,hw,q0,hq,k87,hd]
       rfl
      ·exact⟨k+1,by simp only[EV,seval,hI],.inr ⟨by rw[hs];simp,_,by simp only[EV,seval]<;>rfl,(by simp only[EV,seval]<;>omega),(by rw[hs];simp only[EV,seval]<;>rfl)⟩,by omega,rfl⟩
    ·have hq:((nd ns k).up == i)=false:=by simp[hu]
     have hs:chl ns i (k+1)=chl ns i k:=by simp only[chl,hu,if_false]
     apply oN (ns.length - (k+1))
     ·simp only[ZZ,seval,hI,hlt,hw,q0,hq,k87,hd]
      rfl
     ·exact⟨k+1,by simp only[EV,seval,hI],by rw[hs];simpa only[EV,seval] using h5,by omega,rfl⟩
   ·obtain rfl:k=ns.length:=by omega
    apply oT (.exit 0)
    ·simp only[ZZ,seval,hI,hlt]
     rfl
    ·exact⟨rfl,by simpa only[EV,seval] using h5⟩
  case start=>exact⟨0,(by simp only[EV,seval]),.inl ⟨rfl,(by simp only[EV,seval])⟩,by omega,rfl⟩
  case rest =>
   rintro e st ⟨rfl,⟨hy,h5⟩ | ⟨hy,g,h5,hg,hh5⟩⟩
   ·rw[hy,rowO_nil]
    simp only[ZZ,seval,h5]
    exact xtmp rfl (by simp only[EV,seval]) (.v _)
   ·rw[rowO_ne hy]
    simp only[ZZ,seval,h5,hh5]
    exact xrow rfl (by simp only[EV,seval];rfl) (by simp only[EV,seval,hh5]) (flat_csInt _)
 ·have hd:(decide (0≤i) && decide (i < ns.length))=false:=by
   rw[← Bool.not_eq_true];simpa using hm
  rw[chlV_big hu hr hm,rowO_nil]
  by_cases h0:(0:Int) < ns.length
  ·simp only[ZZ,seval,evL_loop,k87,hd,h0]
   exact xtmp rfl (by simp only[EV,seval]) (.v _)
  ·simp only[ZZ,seval,evL_loop,k87,hd,h0]
   exact xtmp rfl (by simp only[EV,seval]) (.v _)
theorem k245 (ns:List Node) (hu:UpOk ns) (hr:(nd ns 0).up=-1) (hn:(ns.length:Int) < 1000000) (i:Int) (h:chlV ns i≠[]) (st:St) (d:Nat):callFn (callL Tryz.prog) 245 [.agg (cTree ⟨ns⟩),.v (.int .i64 i)] st (some d)=some { dst:=some d,val:=.own d (st.cnt d),new:=some (d,[.row 3 1 (chlV ns i).length (csInt (chlV ns i))])}:=by
 have hc:=c245 ns hu hr hn i
 rw[rowO_ne h] at hc
 exact call_uniq (flat2 (flatT _) (.v _)) hc
theorem k245n (ns:List Node) (hu:UpOk ns) (hr:(nd ns 0).up=-1) (hn:(ns.length:Int) < 1000000) (i:Int) (h:chlV ns i=[]) (st:St) (d:Option Nat):callFn (callL Tryz.prog) 245 [.agg (cTree ⟨ns⟩),.v (.int .i64 i)] st d=some { dst:=d,val:=.v (.slice none 0 0)}:=by
 have hc:=c245 ns hu hr hn i
 rw[h,rowO_nil] at hc
 exact call_flat (flat2 (flatT _) (.v _)) hc (.v _)
end Go.Ab.Tryz
namespace Go.Ab.Tryz
open Classical Go.Proofs Go.Ab
end Go.Ab.Tryz
namespace Go.Ab.Tryz
open Classical Go.Proofs Go.Ab
theorem endK_two [Ext] {P:Program} {f:Nat} {fn:Func} {st:St} {e:Ex} {r1 r2:ResultVar} {x1 x2 y:AV} (hk:Ext.keep f=true) (he:e=.ret∨e=.normal) (hr:fn.results.toList=[r1,r2]) (h1:resA P st r1=some x1) (h2:resA P st r2=some x2)
 (hn:(ownKeys (.tup [x1,x2])).Nodup) (hy:expoU st (.tup [x1,x2])=some y):endL P f fn (e,st)=some y:=by
 have h:finishF P f fn st=some y:=by
  unfold finishF
  rw[hk,if_pos rfl]
  unfold finishK
  rw[hr]
  simp only[List.map_cons,List.map_nil,resA_eq,h1,h2,bnd,optAll,Option.map_some,if_pos hn,hy]
 rcases he with rfl | rfl<;>exact h
theorem expoU_row {st:St} {s g e sz n:Nat} {cs:List AV} (h:st.heap s g=some (.row e sz n cs)) (hf:∀ c∈cs,Flat c):expoU1 st (.agg [.own s g])=some (.agg [.uniq e sz n cs]):=by
 simp only[expoU1,List.map_cons,List.map_nil,expoUC,if_neg (not_flat_own s g),h,if_pos hf,optAll,Option.map_some]
theorem expoU_nil (st:St):expoU1 st (.agg [.v (.slice none 0 0)])=some (.agg [.v (.slice none 0 0)]):=by
 simp only[expoU1,List.map_cons,List.map_nil,expoUC,if_pos (Flat.v _),optAll,Option.map_some]
theorem expoU_v (st:St) (x:Value):expoU1 st (.v x)=some (.v x):=by simp only[expoU1,expoUC,if_pos (Flat.v x)]
theorem expoU_tup {st:St} {a b x y:AV} (h1:expoU1 st a=some x) (h2:expoU1 st b=some y):expoU st (.tup [a,b])=some (.tup [x,y]):=by
 simp only[expoU,List.map_cons,List.map_nil,h1,h2,optAll,Option.map_some]
theorem not_flat_uniq (e sz n:Nat) (cs:List AV):¬ Flat (.uniq e sz n cs):=by intro h;cases h
theorem putRes_U2 {e sz n:Nat} {cs:List AV} {x:Value} {st:St} {d:Nat}:putRes (.tup [.agg [.uniq e sz n cs],.v x]) st (some d)=some { dst:=some d,val:=.tup [.agg [.own d (st.cnt d)],.v x],new:=some (d,[.row e sz n cs])}:=by
 have hn:¬ Flat (.tup [.agg [.uniq e sz n cs],.v x]):=by
  intro h
  cases h with
  | tup _ h =>
    have:=h (.agg [.uniq e sz n cs]) (by simp)
    cases this with
    | agg _ h=>exact not_flat_uniq e sz n cs (h _ (by simp))
 unfold putRes
 rw[if_neg hn]
 rfl
theorem Q_U2 {call:Nat→List AV→Option AV} {g:Nat} {xs:List AV} {d e sz n:Nat} {cs:List AV} {x:Value} {fl:Bool} {st:St} (h:call g xs=some (.tup [.agg [.uniq e sz n cs],.v x])) (hm:∀ c∈cs,MemFree c):callQ call g (some xs) fl st (some d)=some { dst:=some d,val:=.tup [.agg [.own d (st.cnt d)],.v x],new:=some (d,[.row e sz n cs])}:=by
 have hfr:Fresh (.tup [.agg [.uniq e sz n cs],.v x]):=by
  intro y hy
  rcases List.mem_cons.1 hy with rfl | hy
  ·intro c hc
   simp at hc
   subst hc
   exact hm
  ·simp at hy
   subst hy
   exact .v _
 unfold callQ
 simp only[bnd_some,h,hfr,or_true,if_true]
 exact putRes_U2
theorem Q_n2 {call:Nat→List AV→Option AV} {g:Nat} {xs:List AV} {x y:Value} {fl:Bool} {st:St} {d:Option Nat} (h:call g xs=some (.tup [.agg [.v y],.v x])):callQ call g (some xs) fl st d=some { dst:=d,val:=.tup [.agg [.v y],.v x]}:=by
 have hf:∀ z∈[AV.agg [.v y],.v x],Flat z:=flat2 (.agg _ (flat1 (.v _))) (.v _)
 refine Q_of h ?_ (.tup _ hf)
 intro z hz
 rcases List.mem_cons.1 hz with rfl | hz
 ·intro c hc;simp at hc;subst hc;exact .v _
 ·simp at hz;subst hz;exact .v _
theorem get_row {z:Nat} {α:Type} (f:α→List AV) (hf:∀ x,(f x).length=z):∀ (l:List α) (i o:Nat) (hi:i < l.length),o < z→(l.flatMap f)[i * z+o]? = (f l[i])[o]?
 | [],i,o,hi,_=>by simp at hi
 | a :: l,0,o,_,ho=>by
   simp only[List.flatMap_cons,Nat.zero_mul,Nat.zero_add,List.getElem_cons_zero]
   rw[List.getElem?_append_left (by rw[hf];exact ho)]
 | a :: l,i+1,o,hi,ho=>by
   have ih:=get_row f hf l i o (by simpa using hi) ho
   simp only[List.flatMap_cons,List.getElem_cons_succ]
   rw[List.getElem?_append_right (by rw[hf,Nat.succ_mul];omega),hf,show (i+1) * z+o - z=i * z+o by rw[Nat.succ_mul];omega]
   exact ih
theorem upd_row {z:Nat} {α:Type} (f:α→List AV) (hf:∀ x,(f x).length=z) (o e:Nat) (xs:List AV) (hoe:o≤e) (he:e≤z):∀ (l:List α) (i:Nat) (hi:i < l.length) (y:α),upd (f l[i]) o xs e=f y→upd (l.flatMap f) (i * z+o) xs (i * z+e)=(l.set i y).flatMap f
 | [],i,hi,_,_=>by simp at hi
 | a :: l,0,_,y,h=>by
   simp only[List.flatMap_cons,Nat.zero_mul,Nat.zero_add,List.set_cons_zero,List.getElem_cons_zero] at h ⊢
   rw[← h]
   unfold upd
   rw[List.take_append_of_le_length (by rw[hf];omega),List.drop_append_of_le_length (by rw[hf];omega)]
   simp
 | a :: l,i+1,hi,y,h=>by
   have ih:=upd_row f hf o e xs hoe he l i (by simpa using hi) y (by simpa using h)
   simp only[List.flatMap_cons,List.set_cons_succ]
   rw[← ih]
   unfold upd
   have h1:(i+1) * z+o=z+(i * z+o):=by rw[Nat.succ_mul];omega
   have h2:(i+1) * z+e=z+(i * z+e):=by rw[Nat.succ_mul];omega
   rw[h1,h2,List.take_append,List.drop_append,List.take_of_length_le (by rw[hf];omega),List.drop_of_length_le (by rw[hf];omega),hf,Nat.add_sub_cancel_left,Nat.add_sub_cancel_left]
   simp
theorem mem_leafy {l:List Bool} {xs:List AV} (h:Leafy l xs xs):∀ c∈xs,MemFree c:=by
 obtain⟨us,vs,rfl,_,_⟩:=leafy_vs _ _ _ h
 intro c hc
 obtain⟨x,_,rfl⟩:=List.mem_map.1 hc
 exact .v _
theorem mem_csNode (l:List Node):∀ c∈csNode l,MemFree c:=fun c hc=>by
 obtain⟨n,_,h⟩:=List.mem_flatMap.1 hc
 exact mem_leafy (leafy_Node n n) c h
theorem get_nodes {l:List Node} {i:Int} (h0:0≤i) (h1:i < l.length) (o:Nat) (ho:o < 240):(csNode l)[i.toNat * 240+o]? = (cNode (nd l i))[o]?:=by
 obtain⟨h,e⟩:=nd_get h0 h1
 rw[e]
 exact get_row cNode len_cNode l i.toNat o h ho
theorem upd_nodes {l:List Node} {i:Int} (h0:0≤i) (h1:i < l.length) {o e:Nat} {xs:List AV} (hoe:o≤e) (he:e≤240) {y:Node} (h:upd (cNode (nd l i)) o xs e=cNode y):upd (csNode l) (i.toNat * 240+o) xs (i.toNat * 240+e)=csNode (l.set i.toNat y):=by
 obtain⟨hi,e'⟩:=nd_get h0 h1
 rw[e'] at h
 exact upd_row cNode len_cNode o e xs hoe he l i.toNat hi y h
def withSt (n:Node) (s:Int):Node:={ n with status:=s }
def setAt (ns:List Node) (i s:Int):List Node:=ns.set i.toNat (withSt (nd ns i) s)
theorem upd_status {l:List Node} {i s:Int} (h0:0≤i) (h1:i < l.length):upd (csNode l) (i.toNat * 240+239) [.v (.int .i64 s)] (i.toNat * 240+240)=csNode (setAt l i s) :=
 upd_nodes h0 h1 (by decide) (by decide) (up_Node_status (nd l i) _)
theorem get_status {l:List Node} {i:Int} (h0:0≤i) (h1:i < l.length):(csNode l)[i.toNat * 240+239]? = some (.v (.int .i64 (nd l i).status)):=by
 rw[get_nodes h0 h1 239 (by decide)]
 exact get_Node_status (nd l i)
theorem setAt_len (ns:List Node) (i s:Int):(setAt ns i s).length=ns.length:=by simp[setAt]
def chg (to never:Int):List Int→List Node→Option (List Node)
 | [],ns=>some ns
 | i :: l,ns=>if (nd ns i).status=never then none else chg to never l (setAt ns i to)
theorem chg_len {to never:Int}:∀ (l:List Int) (ns r:List Node),chg to never l ns=some r→r.length=ns.length
 | [],ns,r,h=>by simp only[chg,Option.some.injEq] at h;rw[h]
 | i :: l,ns,r,h=>by
   simp only[chg] at h
   split at h
   ·cases h
   ·rw[chg_len l _ r h,setAt_len]
theorem drop_it {l:List Int} {k:Nat} (h:k < l.length):l.drop k=it l k :: l.drop (k+1):=by
 rw[List.drop_eq_getElem_cons h]
 simp[it,h]
theorem keys1 (s g:Nat) (x:Value):(ownKeys (.tup [.agg [.own s g],.v x])).Nodup:=by simp[ownKeys,ownKeys1,ownKey]
theorem keys0 (y x:Value):(ownKeys (.tup [.agg [.v y],.v x])).Nodup:=by simp[ownKeys,ownKeys1,ownKey]
def err2 (e:Int):AV:=.tup [.agg [.v (.slice none 0 0)],.v (.int .i64 e)]
def chS (o:Option (List Node)):AV :=
 match o with
 | none=>.tup [.agg [.v (.slice none 0 0)],.v (.bool false)]
 | some r=>.tup [.agg [.uniq 76 240 r.length (csNode r)],.v (.bool true)]
theorem c247 (ns:List Node) (h0:0 < ns.length) (hn:(ns.length:Int) < 1000000) (l:List Int) (hl:(l.length:Int) < 1000000) (hm:∀ x∈l,0≤x∧x < ns.length) (to never:Int) :
 callL Tryz.prog 247 [.agg (cTree ⟨ns⟩),.sl l.length (csInt l),.v (.int .i64 to),.v (.int .i64 never)]=some (chS (chg to never l ns)):=by
 rw[cL Tryz.func247 rfl ok247 rfl]
 simp only[ZZ,seval,hn]
 refine use_loop (fun n st=>∃ (k:Nat) (cur:List Node),(st.env 1=.sl l.length (csInt l)∧st.env 2=.v (.int .i64 to)∧st.env 3=.v (.int .i64 never)∧st.env 8=.ptr 8 0 0∧st.heap 8 0=some (.cells [.v (.slice none 0 0)])∧st.env 10=.ptr 10 0 0∧st.heap 10 0=some (.cells [.own 14 0])∧st.heap 14 0=some (.row 76 240 cur.length (csNode cur))∧st.env 11=.v (.int .i64 k))∧cur.length=ns.length∧chg to never l ns=chg to never (l.drop k) cur∧k≤l.length∧n=l.length - k)
  (fun e st=>(e=.ret∧chg to never l ns=none∧st.env 8=.ptr 8 0 0∧st.heap 8 0=some (.cells [.v (.slice none 0 0)])∧st.env 9=.v (.bool false))∨(e=.exit 0∧∃ r,chg to never l ns=some r∧st.env 8=.ptr 8 0 0∧st.heap 8 0=some (.cells [.v (.slice none 0 0)])∧st.env 10=.ptr 10 0 0∧st.heap 10 0=some (.cells [.own 14 0])∧st.heap 14 0=some (.row 76 240 r.length (csNode r)))) l.length ?step ?start ?rest
 case step =>
  rintro n st ⟨k,cur,hI,hcl,hc,hk,hn'⟩
  by_cases hlt:(k:Int) < l.length
  ·have q0:(0:Int)≤k:=by omega
   have hw:IntKind.i64.wrap ((k:Int)+1)=((k+1:Nat):Int):=by rw[w157 _ (by omega) (by omega)];omega
   obtain⟨x0,x1⟩:=hm _ (it_mem q0 hlt)
   have x2:it l k < cur.length:=by omega
   rw[drop_it (by omega)] at hc
   simp only[chg] at hc
   have hg:=get_status x0 x2
   by_cases hs:(nd cur (it l k)).status=never
   ·rw[if_pos hs] at hc
    have hb:((nd cur (it l k)).status == never)=true:=by simp[hs]
    apply oT (.ret)
    ·simp only[ZZ,seval,hI,hlt,q0,x0,x2,hg,hb]
     rfl
    ·exact .inl ⟨rfl,hc,by simp only[EV,seval,hI],by simp only[EV,seval,hI],by simp only[EV,seval,hI]⟩
   ·rw[if_neg hs] at hc
    have hb:((nd cur (it l k)).status == never)=false:=by simp[hs]
    have hu:=upd_status (s:=to) x0 x2
    have hle:(it l k).toNat * 240+239+1≤cur.length * 240:=by
     have:((it l k).toNat+1) * 240≤cur.length * 240:=Nat.mul_le_mul_right _ (by omega)
     omega
    have hle2:(it l k).toNat * 240+240≤cur.length * 240:=by omega
    apply oN (l.length - (k+1))
    ·simp only[ZZ,seval,hI,hlt,q0,x0,x2,hg,hb,hu,hle,hle2,hw]
     rfl
    ·exact⟨k+1,setAt cur (it l k) to,by simp only[EV,seval,hI,setAt_len],by rw[setAt_len];exact hcl,hc,by omega,rfl⟩
  ·obtain rfl:k=l.length:=by omega
   rw[List.drop_length] at hc
   apply oT (.exit 0)
   ·simp only[ZZ,seval,hI,hlt]
    rfl
   ·exact .inr ⟨rfl,cur,hc,by simp only[EV,seval,hI]⟩
 case start=>exact⟨0,ns,by simp only[EV,seval]<;>rfl,rfl,rfl,by omega,by omega⟩
 case rest =>
  rintro e st (⟨rfl,hc,hI⟩ | ⟨rfl,r,hc,hI⟩)
  ·rw[hc]
   simp only[ZZ,seval]
   exact endK_two rfl (.inl rfl) rfl (x1:=.agg [.v (.slice none 0 0)]) (x2:=.v (.bool false)) (by simp only[resA,ZZ,seval,hI]) (by simp only[resA,ZZ,seval,hI]) (keys0 _ _) (expoU_tup (expoU_nil _) (expoU_v _ _))
  ·rw[hc]
   simp only[ZZ,seval,hI]
   exact endK_two rfl (.inl rfl) rfl (x1:=.agg [.own 14 0]) (x2:=.v (.bool true)) (by simp only[resA,ZZ,seval,hI]) (by simp only[resA,ZZ,seval,hI]) (keys1 _ _ _) (expoU_tup (expoU_row (by simp only[EV,seval,hI]) (flat_csNode _)) (expoU_v _ _))
theorem path_nz {ns:List Node} (hu:UpOk ns) {c:Int} (c0:0≤c) (c1:c < ns.length):0 < (path ns c).length:=List.length_pos_iff.2 fun h=>by
 have:=path_self hu c0 c1
 rw[h] at this
 cases this
theorem path_last {ns:List Node} (hu:UpOk ns) {c:Int} (c0:0≤c) (c1:c < ns.length):it (path ns c) ((path ns c).length - 1:Int)=c:=by
 by_cases h:c=0
 ·subst h
  rw[path_zero (by omega)]
  rfl
 ·rw[path_step hu (by omega) c1]
  exact it_app_eq (by simp)
theorem c64 (ns:List Node) (hu:UpOk ns) (hn:(ns.length:Int) < 1000000) (i:Int):callL Tryz.prog 64 [.agg (cTree ⟨ns⟩),.v (.int .i64 i)]=some (if dsc ns i ns.length=[] then .v (.slice none 0 0) else .uniq 3 1 (dsc ns i ns.length).length (csInt (dsc ns i ns.length))):=by
 rw[cL Tryz.func64 rfl ok64 rfl]
 have h41:=k47 ns hu hn
 simp only[ZZ,seval]
 refine use_loop (fun n st=>∃ k:Nat,st.env 1=.v (.int .i64 i)∧st.env 2=.ptr 2 0 0∧st.heap 2 0=some (.cells (cTree ⟨ns⟩))∧st.env 6=.v (.int .i64 k) ∧
  ((dsc ns i k=[]∧st.env 5=.v (.slice none 0 0))∨(dsc ns i k≠[]∧∃ g,st.env 5=.own 21 g∧g < st.cnt 21∧st.heap 21 g=some (.row 3 1 (dsc ns i k).length (csInt (dsc ns i k)))))∧k≤ns.length∧n=ns.length - k)
  (fun e st=>e=.exit 0∧((dsc ns i ns.length=[]∧st.env 5=.v (.slice none 0 0))∨(dsc ns i ns.length≠[]∧∃ g,st.env 5=.own 21 g∧g < st.cnt 21∧st.heap 21 g=some (.row 3 1 (dsc ns i ns.length).length (csInt (dsc ns i ns.length)))))) ns.length ?step ?start ?rest
 case step =>
  rintro n st ⟨k,h1,h2,hh2,h6,h5,hk,hn'⟩
  have hdl:=dsc_len ns i k
  have hdl':((dsc ns i k).length:Int) < 1000000:=by omega
  by_cases hlt:(k:Int) < ns.length
  ·have hw:IntKind.i64.wrap ((k:Int)+1)=((k+1:Nat):Int):=by rw[w157 _ (by omega) (by omega)];omega
   cases ha:anc ns i k
   ·have hs:dsc ns i (k+1)=dsc ns i k:=by simp only[dsc,ha,Bool.false_eq_true,if_false]
    rcases h5 with ⟨hy,h5⟩ | ⟨hy,g,h5,hg,hh5⟩
    ·apply oN (ns.length - (k+1))
     ·simp only[ZZ,seval,h1,h2,hh2,h6,h5,hlt,hw,h41,ha]
      rfl
     ·exact⟨k+1,by simp only[EV,seval,h1],by simp only[EV,seval,h2],by simp only[EV,seval,hh2],(by simp only[EV,seval]),.inl ⟨by rw[hs];exact hy,by simp only[EV,seval,h5]⟩,by omega,rfl⟩
    ·apply oN (ns.length - (k+1))
     ·simp only[ZZ,seval,h1,h2,hh2,h6,h5,hh5,hlt,hw,h41,ha]
      rfl
     ·exact⟨k+1,by simp only[EV,seval,h1],by simp only[EV,seval,h2],by simp only[EV,seval,hh2],(by simp only[EV,seval]),.inr ⟨by rw[hs];exact hy,g,by simp only[EV,seval,h5],(by simp only[EV,seval]<;>omega),(by rw[hs];simp only[EV,seval,hh5])⟩,by omega,rfl⟩
   ·have hs:dsc ns i (k+1)=dsc ns i k ++ [(k:Int)]:=by simp only[dsc,ha,if_true]
    rcases h5 with ⟨hy,h5⟩ | ⟨hy,g,h5,hg,hh5⟩
    ·rw[hy] at hs
     apply oN (ns.length - (k+1))
     ·simp only[ZZ,seval,h1,h2,hh2,h6,h5,hlt,hw,h41,ha]
      rfl
     ·exact⟨k+1,by simp only[EV,seval,h1],by simp only[EV,seval,h2],by simp only[EV,seval,hh2],(by simp only[EV,seval]),.inr ⟨by rw[hs];simp,_,by simp only[EV,seval]<;>rfl,(by simp only[EV,seval]<;>omega),(by rw[hs];simp only[EV,seval]<;>rfl)⟩,by omega,rfl⟩
    ·apply oN (ns.length - (k+1))
     ·simp only[ZZ,seval,h1,h2,hh2,h6,h5,hh5,hdl',hlt,hw,h41,ha]
      rfl
     ·exact⟨k+1,by simp only[EV,seval,h1],by simp only[EV,seval,h2],by simp only[EV,seval,hh2],(by simp only[EV,seval]),.inr ⟨by rw[hs];simp,_,by simp only[EV,seval]<;>rfl,(by simp only[EV,seval]<;>omega),(by rw[hs];simp only[EV,seval]<;>rfl)⟩,by omega,rfl⟩
  ·obtain rfl:k=ns.length:=by omega
   apply oT (.exit 0)
   ·simp only[ZZ,seval,h2,hh2,h6,hlt]
    rfl
   ·exact⟨rfl,by simpa only[EV,seval] using h5⟩
 case start=>exact⟨0,(by simp only[EV,seval]),(by simp only[EV,seval]),(by simp only[EV,seval]),(by simp only[EV,seval]),.inl ⟨rfl,(by simp only[EV,seval])⟩,by omega,rfl⟩
 case rest =>
  rintro e st ⟨rfl,⟨hy,h5⟩ | ⟨hy,g,h5,hg,hh5⟩⟩
  ·rw[if_pos hy]
   simp only[ZZ,seval,h5]
   exact xtmp rfl (by simp only[EV,seval]) (.v _)
  ·rw[if_neg hy]
   simp only[ZZ,seval,h5,hh5]
   exact xrow rfl (by simp only[EV,seval];rfl) (by simp only[EV,seval,hh5]) (flat_csInt _)
theorem k64 (ns:List Node) (hu:UpOk ns) (hn:(ns.length:Int) < 1000000) (i:Int) (h:dsc ns i ns.length≠[]) (st:St) (d:Nat):callFn (callL Tryz.prog) 64 [.agg (cTree ⟨ns⟩),.v (.int .i64 i)] st (some d)=some { dst:=some d,val:=.own d (st.cnt d),new:=some (d,[.row 3 1 (dsc ns i ns.length).length (csInt (dsc ns i ns.length))])}:=by
 have hc:=c64 ns hu hn i
 rw[if_neg h] at hc
 exact call_uniq (flat2 (flatT _) (.v _)) hc
end Go.Ab.Tryz
namespace Go.Ab.Tryz
open Classical Go.Proofs Go.Ab
end Go.Ab.Tryz
namespace Go.Ab.Tryz
open Classical Go.Proofs Go.Ab
theorem q247 (args:List AV) (st:St) (d:Option Nat):callFn (callL Tryz.prog) 247 args st d=callQ (callL Tryz.prog) 247 (optAll (args.map (expo st))) (decide (∀ x∈args,Flat x)) st d:=callFn_Q _ _ _ _ _
theorem flat_nil1:Flat (.agg [.v (.slice none 0 0)]):=.agg _ (flat1 (.v _))
theorem flat_err2 (e:Int):Flat (err2 e):=.tup _ (flat2 flat_nil1 (.v _))
def stA (o:Option (List Node)):AV :=
 match o with
 | none=>err2 21
 | some r=>.tup [.agg (cTree ⟨r⟩),.v (.int .i64 0)]
theorem flat_stA (o:Option (List Node)):Flat (stA o):=by
 cases o with
 | none=>exact flat_err2 _
 | some r=>exact .tup _ (flat2 (flatT _) (.v _))
noncomputable def raO (ns:List Node) (i:Int):Option (List Node):=chg 1 2 (path ns i) ns
noncomputable def coO (ns:List Node) (i:Int):Option (List Node):=chg 2 1 (dsc ns i ns.length) ns
noncomputable def raV (ns:List Node) (i:Int):AV:=if 0≤i∧i < ns.length then stA (raO ns i) else err2 10
noncomputable def coV (ns:List Node) (i:Int):AV:=if 0≤i∧i < ns.length then stA (coO ns i) else err2 10
theorem path_in {ns:List Node} (hu:UpOk ns) {i:Int}:∀ x∈path ns i,0≤x∧x < ns.length:=fun x hx=>path_range hu hx
theorem dsc_rng (ns:List Node) (i:Int):∀ x∈dsc ns i ns.length,0≤x∧x < ns.length:=fun x hx=>((dsc_mem ns i x _).1 hx).1
theorem c236 (ns:List Node) (hu:UpOk ns) (hn:(ns.length:Int) < 1000000) (i:Int):callL Tryz.prog 236 [.agg (cTree ⟨ns⟩),.v (.int .i64 i)]=some (raV ns i):=by
 rw[cL Tryz.func236 rfl ok236 rfl]
 unfold raV
 by_cases hm:0≤i∧i < ns.length
 ·rw[if_pos hm]
  have hd:(decide (0≤i) && decide (i < ns.length))=true:=by simp[hm.1,hm.2]
  have h45:=k76 ns hu hn i hm.1 hm.2
  have hpl:=path_lt hu i
  have hc:=c247 ns (by omega) hn (path ns i) (by omega) (path_in hu) 1 2
  unfold raO
  cases ho:chg 1 2 (path ns i) ns with
  | none =>
    rw[ho] at hc
    have hK:=fun (fl:Bool) (st:St) (d:Option Nat)=>Q_n2 (fl:=fl) (st:=st) (d:=d) hc
    simp only[ZZ,seval,k87,hd,h45,q247,hK,extA]
    exact xtwo rfl (by simp only[resA,ZZ,seval];rfl) (by simp only[resA,EV,seval]<;>rfl) (by simp only[EV,seval]<;>rfl) (by simp only[EV,seval]<;>rfl)
  | some r =>
    rw[ho] at hc
    have hK:=fun (fl:Bool) (st:St) (d:Nat)=>Q_U2 (fl:=fl) (st:=st) (d:=d) hc (mem_csNode r)
    simp only[ZZ,seval,k87,hd,h45,q247,hK,extA]
    exact xtwo rfl (by simp only[resA,ZZ,seval];rfl) (by simp only[resA,EV,seval]<;>rfl) (by simp only[EV,seval]<;>rfl) (by simp only[EV,seval]<;>rfl)
 ·rw[if_neg hm]
  have hd:(decide (0≤i) && decide (i < ns.length))=false:=by rw[← Bool.not_eq_true];simpa using hm
  simp only[ZZ,seval,k87,hd]
  exact xtwo rfl (by simp only[resA,ZZ,seval];rfl) (by simp only[resA,EV,seval]<;>rfl) (by simp only[EV,seval]<;>rfl) (by simp only[EV,seval]<;>rfl)
theorem c238 (ns:List Node) (hu:UpOk ns) (hn:(ns.length:Int) < 1000000) (i:Int):callL Tryz.prog 238 [.agg (cTree ⟨ns⟩),.v (.int .i64 i)]=some (coV ns i):=by
 rw[cL Tryz.func238 rfl ok238 rfl]
 unfold coV
 by_cases hm:0≤i∧i < ns.length
 ·rw[if_pos hm]
  have hd:(decide (0≤i) && decide (i < ns.length))=true:=by simp[hm.1,hm.2]
  have h36:=k64 ns hu hn i (dsc_ne hu hm.1 hm.2 _ hm.2)
  have hdl:=dsc_len ns i ns.length
  have hc:=c247 ns (by omega) hn (dsc ns i ns.length) (by omega) (dsc_rng ns i) 2 1
  unfold coO
  cases ho:chg 2 1 (dsc ns i ns.length) ns with
  | none =>
    rw[ho] at hc
    have hK:=fun (fl:Bool) (st:St) (d:Option Nat)=>Q_n2 (fl:=fl) (st:=st) (d:=d) hc
    simp only[ZZ,seval,k87,hd,h36,q247,hK,extA]
    exact xtwo rfl (by simp only[resA,ZZ,seval];rfl) (by simp only[resA,EV,seval]<;>rfl) (by simp only[EV,seval]<;>rfl) (by simp only[EV,seval]<;>rfl)
  | some r =>
    rw[ho] at hc
    have hK:=fun (fl:Bool) (st:St) (d:Nat)=>Q_U2 (fl:=fl) (st:=st) (d:=d) hc (mem_csNode r)
    simp only[ZZ,seval,k87,hd,h36,q247,hK,extA]
    exact xtwo rfl (by simp only[resA,ZZ,seval];rfl) (by simp only[resA,EV,seval]<;>rfl) (by simp only[EV,seval]<;>rfl) (by simp only[EV,seval]<;>rfl)
 ·rw[if_neg hm]
  have hd:(decide (0≤i) && decide (i < ns.length))=false:=by rw[← Bool.not_eq_true];simpa using hm
  simp only[ZZ,seval,k87,hd]
  exact xtwo rfl (by simp only[resA,ZZ,seval];rfl) (by simp only[resA,EV,seval]<;>rfl) (by simp only[EV,seval]<;>rfl) (by simp only[EV,seval]<;>rfl)
theorem flat_raV (ns:List Node) (i:Int):Flat (raV ns i):=by unfold raV;split;exact flat_stA _;exact flat_err2 _
theorem flat_coV (ns:List Node) (i:Int):Flat (coV ns i):=by unfold coV;split;exact flat_stA _;exact flat_err2 _
theorem k236 (ns:List Node) (hu:UpOk ns) (hn:(ns.length:Int) < 1000000) (i:Int) (st:St) (d:Option Nat):callFn (callL Tryz.prog) 236 [.agg (cTree ⟨ns⟩),.v (.int .i64 i)] st d=some { dst:=d,val:=raV ns i }:=call_flat (flat2 (flatT _) (.v _)) (c236 ns hu hn i) (flat_raV ns i)
theorem k238 (ns:List Node) (hu:UpOk ns) (hn:(ns.length:Int) < 1000000) (i:Int) (st:St) (d:Option Nat):callFn (callL Tryz.prog) 238 [.agg (cTree ⟨ns⟩),.v (.int .i64 i)] st d=some { dst:=d,val:=coV ns i }:=call_flat (flat2 (flatT _) (.v _)) (c238 ns hu hn i) (flat_coV ns i)
end Go.Ab.Tryz
namespace Go.Ab.Tryz
open Classical Go.Proofs Go.Ab
end Go.Ab.Tryz
namespace Go.Ab.Tryz
open Classical Go.Proofs Go.Ab
theorem raV_cases (ns:List Node) (hn:(ns.length:Int) < 1000000) (i:Int):(∃ e,raV ns i=.tup [.agg [.v (.slice none 0 0)],.v (.int .i64 e)])∨∃ r:List Node,raV ns i=.tup [.agg (cTree ⟨r⟩),.v (.int .i64 0)]∧(r.length:Int) < 1000000:=by
 unfold raV
 split
 ·cases h:raO ns i with
  | none=>exact .inl ⟨21,rfl⟩
  | some r=>exact .inr ⟨r,rfl,by rw[chg_len _ _ _ h];exact hn⟩
 ·exact .inl ⟨10,rfl⟩
theorem coV_cases (ns:List Node) (hn:(ns.length:Int) < 1000000) (i:Int):(∃ e,coV ns i=.tup [.agg [.v (.slice none 0 0)],.v (.int .i64 e)])∨∃ r:List Node,coV ns i=.tup [.agg (cTree ⟨r⟩),.v (.int .i64 0)]∧(r.length:Int) < 1000000:=by
 unfold coV
 split
 ·cases h:coO ns i with
  | none=>exact .inl ⟨21,rfl⟩
  | some r=>exact .inr ⟨r,rfl,by rw[chg_len _ _ _ h];exact hn⟩
 ·exact .inl ⟨10,rfl⟩
theorem c112 (r:Root):callL Tryz.prog 112 [.agg (cRoot r)]=some (.v (.bool (decide (r=zRoot)))):=by
 rw[cL Tryz.func112 rfl ok112 rfl]
 simp only[ZZ,seval]
 exact xtmp rfl (by simp only[EV,seval]) (.v _)
theorem k112 (r:Root) (st:St) (d:Option Nat):callFn (callL Tryz.prog) 112 [.agg (cRoot r)] st d=some { dst:=d,val:=.v (.bool (decide (r=zRoot)))}:=call_flat (flat1 (flatR _)) (c112 r) (.v _)
def pay (ns:List Node) (x:Int):Root:=(nd ns x).block.payload
noncomputable def firstF (ns:List Node) (p:List Int):Nat→Option Nat
 | 0=>none
 | n+1=>if pay ns (it p ((p.length - (n+1):Nat):Int))=zRoot then firstF ns p n else some (p.length - (n+1))
noncomputable def lastF (ns:List Node) (p:List Int) (h:Root):Nat→Option Nat
 | 0=>none
 | n+1=>if pay ns (it p (n:Int))=h then some n else lastF ns p h n
noncomputable def reachV (ns:List Node) (i:Int) (h:Root):Int × Int :=
 if path ns i=[] then (-1,-1)
 else if h=zRoot then
  match firstF ns (path ns i) (path ns i).length with
  | none=>(-1,i)
  | some k=>(if k=0 then -1 else it (path ns i) ((k:Int) - 1),it (path ns i) k)
 else
  match lastF ns (path ns i) h ((path ns i).length - 1) with
  | none=>(-1,i)
  | some k=>(it (path ns i) k,it (path ns i) ((k:Int)+1))
noncomputable def reA (ns:List Node) (i:Int) (h:Root):AV:=.tup [.v (.int .i64 (reachV ns i h).1),.v (.int .i64 (reachV ns i h).2)]
theorem firstF_lt {ns:List Node} {p:List Int}:∀ (n k:Nat),n≤p.length→firstF ns p n=some k→k < p.length
 | 0,k,_,h=>by simp[firstF] at h
 | n+1,k,hn,h=>by
   simp only[firstF] at h
   split at h
   ·exact firstF_lt n k (by omega) h
   ·simp at h;omega
theorem lastF_lt {ns:List Node} {p:List Int} {h:Root}:∀ (n k:Nat),lastF ns p h n=some k→k < n
 | 0,k,hk=>by simp[lastF] at hk
 | n+1,k,hk=>by
   simp only[lastF] at hk
   split at hk
   ·simp at hk;omega
   ·have:=lastF_lt n k hk;omega
theorem reach_none {ns:List Node} {i:Int} {h:Root} (hp:path ns i=[]):reachV ns i h=(-1,-1):=if_pos hp
theorem nd_set {ns:List Node} {i j:Int} (i0:0≤i) (i1:i < ns.length) (j0:0≤j) (y:Node):nd (ns.set i.toNat y) j=if j=i then y else nd ns j:=by
 unfold nd
 rw[List.getD_eq_getElem?_getD,List.getD_eq_getElem?_getD]
 by_cases h:j=i
 ·subst h
  have:j.toNat < ns.length:=by omega
  simp[this]
 ·rw[if_neg h,List.getElem?_set_ne (by omega)]
theorem chg_some {to never:Int} (hne:to≠never):∀ (l:List Int) (ns r:List Node),(∀ x∈l,0≤x∧x < ns.length)→chg to never l ns=some r →
 (∀ x∈l,(nd ns x).status≠never)∧r.length=ns.length∧∀ j:Int,0≤j→j < ns.length→nd r j=if j∈l then withSt (nd ns j) to else nd ns j
 | [],ns,r,_,h=>by
   simp only[chg,Option.some.injEq] at h
   subst h
   exact⟨by simp,rfl,by simp⟩
 | i :: l,ns,r,hl,h=>by
   simp only[chg] at h
   split at h
   ·cases h
   ·rename_i hs
    obtain⟨i0,i1⟩:=hl i (by simp)
    obtain⟨h1,h2,h3⟩:=chg_some hne l (setAt ns i to) r (fun x hx=>by rw[setAt_len];exact hl x (by simp[hx])) h
    rw[setAt_len] at h2 h3
    have hnd:∀ j:Int,0≤j→nd (setAt ns i to) j=if j=i then withSt (nd ns i) to else nd ns j:=fun j j0=>nd_set i0 i1 j0 _
    refine⟨fun x hx=>?_,h2,fun j j0 j1=>?_⟩
    ·rcases List.mem_cons.1 hx with rfl | hx
     ·exact hs
     ·by_cases hxi:x=i
      ·subst hxi;exact hs
      ·have:=h1 x hx
       rw[hnd x (hl x (by simp[hx])).1,if_neg hxi] at this
       exact this
    ·rw[h3 j j0 j1,hnd j j0]
     by_cases hji:j=i
     ·subst hji
      simp only[if_true,List.mem_cons,true_or]
      split<;>rfl
     ·simp[hji]
structure SameUp (a b:List Node):Prop where
 len:a.length=b.length
 up:∀ j:Int,0≤j→j < a.length→(nd a j).up=(nd b j).up
theorem SameUp.upok {a b:List Node} (h:SameUp a b) (hu:UpOk a):UpOk b:=fun i i0 i1=>by rw[← h.up i (by omega) (by rw[h.len];exact i1)];exact hu i i0 (by rw[h.len];exact i1)
structure Chd (ns r:List Node) (l:List Int) (to:Int):Prop where
 len:r.length=ns.length
 at_:∀ j:Int,0≤j→j < ns.length→nd r j=if j∈l then withSt (nd ns j) to else nd ns j
theorem Chd.su {ns r:List Node} {l:List Int} {to:Int} (h:Chd ns r l to):SameUp ns r where
 len:=h.len.symm
 up:=fun j j0 j1=>by rw[h.at_ j j0 j1];split<;>rfl
theorem Chd.block {ns r:List Node} {l:List Int} {to:Int} (h:Chd ns r l to) {j:Int} (j0:0≤j) (j1:j < ns.length):(nd r j).block=(nd ns j).block:=by
 rw[h.at_ j j0 j1];split<;>rfl
theorem Chd.upE {ns r:List Node} {l:List Int} {to:Int} (h:Chd ns r l to) {j:Int} (j0:0≤j) (j1:j < ns.length):(nd r j).up=(nd ns j).up:=by
 rw[h.at_ j j0 j1];split<;>rfl
theorem Chd.st {ns r:List Node} {l:List Int} {to:Int} (h:Chd ns r l to) {j:Int} (j0:0≤j) (j1:j < ns.length):(nd r j).status=if j∈l then to else (nd ns j).status:=by
 rw[h.at_ j j0 j1];split<;>rfl
structure Raised (ns r:List Node) (i:Int):Prop where
 c:Chd ns r (path ns i) 1
 ok:∀ x∈path ns i,(nd ns x).status≠2
theorem raised_of {ns r:List Node} (hu:UpOk ns) {i:Int} (h:raO ns i=some r):Raised ns r i:=by
 obtain⟨h1,h2,h3⟩:=chg_some (by decide) _ _ _ (path_in hu) h
 exact⟨⟨h2,h3⟩,h1⟩
structure Condemned (ns r:List Node) (i:Int):Prop where
 c:Chd ns r (dsc ns i ns.length) 2
 ok:∀ x∈dsc ns i ns.length,(nd ns x).status≠1
theorem path_upit {ns:List Node} (hu:UpOk ns):∀ (n:Nat) (c:Int),c.toNat=n→0≤c→c < ns.length→∀ k:Int,1≤k→k < (path ns c).length→(nd ns (it (path ns c) k)).up=it (path ns c) (k - 1):=by
 intro n
 induction n using Nat.strongRecOn with
 | _ n ih =>
   intro c hc c0 c1 k k0 k1
   by_cases h:c=0
   ·subst h
    rw[path_zero (by omega)] at k1
    simp at k1
    omega
   ·obtain⟨u0,u1⟩:=hu c (by omega) c1
    rw[path_step hu (by omega) c1] at k1 ⊢
    simp at k1
    by_cases hk:k=(path ns (nd ns c).up).length
    ·rw[it_app_eq hk,it_app_lt (by omega) (by omega),hk,path_last hu u0 (by omega)]
    ·rw[it_app_lt (by omega) (by omega),it_app_lt (by omega) (by omega)]
     exact ih (nd ns c).up.toNat (by omega) _ rfl u0 (by omega) k k0 (by omega)
theorem path_it0 {ns:List Node} (hu:UpOk ns):∀ (n:Nat) (c:Int),c.toNat=n→0≤c→c < ns.length→it (path ns c) 0=0:=by
 intro n
 induction n using Nat.strongRecOn with
 | _ n ih =>
   intro c hc c0 c1
   by_cases h:c=0
   ·subst h;rw[path_zero (by omega)];rfl
   ·obtain⟨u0,u1⟩:=hu c (by omega) c1
    have:=path_nz hu u0 (by omega)
    rw[path_step hu (by omega) c1,it_app_lt (Int.le_refl _) (by omega)]
    exact ih _ (by omega) _ rfl u0 (by omega)
theorem c237 (ns:List Node) (hu:UpOk ns) (hr:(nd ns 0).up=-1) (hn:(ns.length:Int) < 1000000) (i:Int) (h:Root):callL Tryz.prog 237 [.agg (cTree ⟨ns⟩),.v (.int .i64 i),.agg (cRoot h)]=some (reA ns i h):=by
 rw[cL Tryz.func237 rfl ok237 rfl]
 unfold reA
 by_cases hm:0≤i∧i < ns.length
 ·have h45:=k76 ns hu hn i hm.1 hm.2
  have hpl:=path_lt hu i
  have hp0:=path_nz hu hm.1 hm.2
  have hin:=path_in hu (i:=i)
  have hpe:path ns i≠[]:=by intro h;rw[h] at hp0;simp at hp0
  have hq:(((path ns i).length:Int) == 0)=false:=by simp[hpe]
  have hup:=fun k h h'=>path_upit hu _ i rfl hm.1 hm.2 k h h'
  have hi0:=path_it0 hu _ i rfl hm.1 hm.2
  unfold reachV
  rw[if_neg hpe]
  generalize path ns i=p at h45 hpl hp0 hin hq hup hi0
  by_cases hz:h=zRoot
  ·have hd:decide (h=zRoot)=true:=decide_eq_true hz
   rw[if_pos hz]
   simp only[ZZ,seval,h45,hq,hd]
   refine use_loop (fun n st=>∃ k:Nat,(st.env 1=.v (.int .i64 i)∧st.env 3=.ptr 3 0 0∧st.heap 3 0=some (.cells (cTree ⟨ns⟩))∧st.env 8=.own 13 0∧st.heap 13 0=some (.row 3 1 p.length (csInt p))∧st.env 9=.v (.int .i64 k))∧firstF ns p p.length=firstF ns p (p.length - k)∧k≤p.length∧n=p.length - k)
    (fun e st=>(e=.ret∧∃ k,firstF ns p p.length=some k∧st.env 6=.v (.int .i64 (if k=0 then -1 else it p ((k:Int) - 1)))∧st.env 7=.v (.int .i64 (it p k)))∨(e=.exit 0∧firstF ns p p.length=none∧st.env 1=.v (.int .i64 i))) p.length ?step ?start ?rest
   case step =>
    rintro n st ⟨k,hI,hf,hk,hn'⟩
    by_cases hlt:(k:Int) < p.length
    ·have q0:(0:Int)≤k:=by omega
     have hw:IntKind.i64.wrap ((k:Int)+1)=((k+1:Nat):Int):=by rw[w157 _ (by omega) (by omega)];omega
     obtain⟨x0,x1⟩:=hin _ (it_mem q0 hlt)
     obtain⟨m,hm'⟩:∃ m,p.length - k=m+1:=⟨p.length - k - 1,by omega⟩
     rw[hm'] at hf
     simp only[firstF] at hf
     rw[show p.length - (m+1)=k by omega] at hf
     by_cases hpz:pay ns (it p k)=zRoot
     ·rw[if_pos hpz] at hf
      have hd2:decide ((nd ns (it p k)).block.payload=zRoot)=true:=decide_eq_true hpz
      apply oN (p.length - (k+1))
      ·simp only[ZZ,seval,hI,hlt,q0,x0,x1,hd2,hw]
       rfl
      ·exact⟨k+1,by simp only[EV,seval,hI],by rw[hf,show p.length - (k+1)=m by omega],by omega,rfl⟩
     ·rw[if_neg hpz] at hf
      have hd2:decide ((nd ns (it p k)).block.payload=zRoot)=false:=decide_eq_false hpz
      have hupk:(nd ns (it p k)).up=if k=0 then -1 else it p ((k:Int) - 1):=by
       by_cases hk0:k=0
       ·rw[if_pos hk0,show ((k:Int))=0 by omega,hi0,hr]
       ·rw[if_neg hk0,hup k (by omega) hlt]
      apply oT (.ret)
      ·simp only[ZZ,seval,hI,hlt,q0,x0,x1,hd2]
       rfl
      ·exact .inl ⟨rfl,k,hf,by rw[← hupk];simp only[EV,seval],by simp only[EV,seval]⟩
    ·obtain rfl:k=p.length:=by omega
     rw[Nat.sub_self] at hf
     apply oT (.exit 0)
     ·simp only[ZZ,seval,hI,hlt]
      rfl
     ·exact .inr ⟨rfl,hf,by simp only[EV,seval,hI]⟩
   case start=>exact⟨0,by simp only[EV,seval]<;>rfl,rfl,by omega,rfl⟩
   case rest =>
    rintro e st (⟨rfl,k,hf,h6,h7⟩ | ⟨rfl,hf,h1⟩)
    ·rw[hf]
     simp only[ZZ,seval]
     exact xtwo rfl (by simp only[resA,EV,seval,h6]<;>rfl) (by simp only[resA,EV,seval,h7]<;>rfl) (by simp only[EV,seval]<;>rfl) (by simp only[EV,seval]<;>rfl)
    ·rw[hf]
     simp only[ZZ,seval,h1]
     exact xtwo rfl (by simp only[resA,EV,seval]<;>rfl) (by simp only[resA,EV,seval]<;>rfl) (by simp only[EV,seval]<;>rfl) (by simp only[EV,seval]<;>rfl)
  ·have hd:decide (h=zRoot)=false:=decide_eq_false hz
   have hw0:IntKind.i64.wrap ((p.length:Int) - 2)=(p.length:Int) - 2:=w157 _ (by omega) (by omega)
   rw[if_neg hz]
   simp only[ZZ,seval,h45,hq,hd,hw0]
   refine use_loop (fun n st=>∃ m:Nat,(st.env 1=.v (.int .i64 i)∧st.env 3=.ptr 3 0 0∧st.heap 3 0=some (.cells (cTree ⟨ns⟩))∧st.env 5=.ptr 5 0 0∧st.heap 5 0=some (.cells (cRoot h))∧st.env 8=.own 13 0∧st.heap 13 0=some (.row 3 1 p.length (csInt p))∧st.env 10=.v (.int .i64 ((m:Int) - 1)))∧lastF ns p h (p.length - 1)=lastF ns p h m∧m≤p.length - 1∧n=m)
    (fun e st=>(e=.ret∧∃ k,lastF ns p h (p.length - 1)=some k∧st.env 6=.v (.int .i64 (it p k))∧st.env 7=.v (.int .i64 (it p ((k:Int)+1))))∨(e=.exit 2∧lastF ns p h (p.length - 1)=none∧st.env 1=.v (.int .i64 i))) (p.length - 1) ?step ?start ?rest
   case step =>
    rintro n st ⟨m,hI,hf,hm',hn'⟩
    by_cases hlt:(0:Int)≤(m:Int) - 1
    ·obtain⟨k,rfl⟩:∃ k,m=k+1:=⟨m - 1,by omega⟩
     have e1:((k+1:Nat):Int) - 1=k:=by omega
     rw[e1] at hI hlt
     have k1:(k:Int) < p.length:=by omega
     have hw:IntKind.i64.wrap ((k:Int) - 1)=(k:Int) - 1:=w157 _ (by omega) (by omega)
     obtain⟨x0,x1⟩:=hin _ (it_mem hlt k1)
     simp only[lastF] at hf
     by_cases hpz:pay ns (it p k)=h
     ·rw[if_pos hpz] at hf
      have hd2:decide ((nd ns (it p k)).block.payload=h)=true:=decide_eq_true hpz
      have hw1:IntKind.i64.wrap ((k:Int)+1)=(k:Int)+1:=w157 _ (by omega) (by omega)
      have r0:(0:Int)≤(k:Int)+1:=by omega
      have r1:(k:Int)+1 < p.length:=by omega
      apply oT (.ret)
      ·simp only[ZZ,seval,hI,hlt,k1,x0,x1,hd2,hw1,r0,r1]
       rfl
      ·exact .inl ⟨rfl,k,hf,by simp only[EV,seval],by simp only[EV,seval]⟩
     ·rw[if_neg hpz] at hf
      have hd2:decide ((nd ns (it p k)).block.payload=h)=false:=decide_eq_false hpz
      apply oN (k)
      ·simp only[ZZ,seval,hI,hlt,k1,x0,x1,hd2,hw]
       rfl
      ·exact⟨k,by simp only[EV,seval,hI],hf,by omega,rfl⟩
    ·obtain rfl:m=0:=by omega
     apply oT (.exit 2)
     ·simp only[ZZ,seval,hI,hlt]
      rfl
     ·exact .inr ⟨rfl,hf,by simp only[EV,seval,hI]⟩
   case start =>
    have hs:(p.length:Int) - 2=((p.length - 1:Nat):Int) - 1:=by omega
    exact⟨p.length - 1,by simp only[EV,seval,hs],rfl,by omega,rfl⟩
   case rest =>
    rintro e st (⟨rfl,k,hf,h6,h7⟩ | ⟨rfl,hf,h1⟩)
    ·rw[hf]
     simp only[ZZ,seval]
     exact xtwo rfl (by simp only[resA,EV,seval,h6]<;>rfl) (by simp only[resA,EV,seval,h7]<;>rfl) (by simp only[EV,seval]<;>rfl) (by simp only[EV,seval]<;>rfl)
    ·rw[hf]
     simp only[ZZ,seval,h1]
     exact xtwo rfl (by simp only[resA,EV,seval]<;>rfl) (by simp only[resA,EV,seval]<;>rfl) (by simp only[EV,seval]<;>rfl) (by simp only[EV,seval]<;>rfl)
 ·rw[reach_none (path_none hm)]
  have h45:=k76n ns i hm
  simp only[ZZ,seval,h45]
  exact xtwo rfl (by simp only[resA,EV,seval]<;>rfl) (by simp only[resA,EV,seval]<;>rfl) (by simp only[EV,seval]<;>rfl) (by simp only[EV,seval]<;>rfl)
theorem flat_reA (ns:List Node) (i:Int) (h:Root):Flat (reA ns i h):=.tup _ (flat2 (.v _) (.v _))
theorem k237 (ns:List Node) (hu:UpOk ns) (hr:(nd ns 0).up=-1) (hn:(ns.length:Int) < 1000000) (i:Int) (h:Root) (st:St) (d:Option Nat):callFn (callL Tryz.prog) 237 [.agg (cTree ⟨ns⟩),.v (.int .i64 i),.agg (cRoot h)] st d=some { dst:=d,val:=.tup [.v (.int .i64 (reachV ns i h).1),.v (.int .i64 (reachV ns i h).2)]}:=call_flat (flat3 (flatT _) (.v _) (flatR _)) (c237 ns hu hr hn i h) (flat_reA ns i h)
theorem reach_fact {ns:List Node} (hu:UpOk ns) (hr:(nd ns 0).up=-1) {i:Int} (i0:0≤i) (i1:i < ns.length) (h:Root):(reachV ns i h).2∈path ns i∧((reachV ns i h).1 < 0∨((reachV ns i h).1∈path ns i∧(nd ns (reachV ns i h).2).up=(reachV ns i h).1)):=by
 have hp0:=path_nz hu i0 i1
 have hpe:path ns i≠[]:=by intro h;rw[h] at hp0;simp at hp0
 have hself:=path_self hu i0 i1
 have hup:=fun k h h'=>path_upit hu _ i rfl i0 i1 k h h'
 unfold reachV
 rw[if_neg hpe]
 by_cases hz:h=zRoot
 ·rw[if_pos hz]
  cases hf:firstF ns (path ns i) (path ns i).length with
  | none=>exact⟨hself,.inl (by simp)⟩
  | some k =>
    have hk:=firstF_lt _ _ (Nat.le_refl _) hf
    simp only
    refine⟨it_mem (by omega) (by omega), ?_⟩
    by_cases hk0:k=0
    ·rw[if_pos hk0];exact .inl (by omega)
    ·rw[if_neg hk0]
     exact .inr ⟨it_mem (by omega) (by omega),hup k (by omega) (by omega)⟩
 ·rw[if_neg hz]
  cases hf:lastF ns (path ns i) h ((path ns i).length - 1) with
  | none=>exact⟨hself,.inl (by simp)⟩
  | some k =>
    have hk:=lastF_lt _ _ hf
    simp only
    refine⟨it_mem (by omega) (by omega),.inr ⟨it_mem (by omega) (by omega), ?_⟩⟩
    have:=hup ((k:Int)+1) (by omega) (by omega)
    rw[this]
    congr 1
    omega
def KeepV (kv:AV) (l:List Int):Prop:=kv=.sl l.length (csInt l)∨(l=[]∧kv=.v (.slice none 0 0))
theorem KeepV.view {kv:AV} {l:List Int} (h:KeepV kv l) (st:St):sliceView st kv=some (l.length,csInt l):=by
 rcases h with rfl | ⟨rfl,rfl⟩<;>rfl
theorem KeepV.idx {kv:AV} {l:List Int} (h:KeepV kv l) (st:St) {k:IntKind} {i:Int} (h0:0≤i) (h1:i < l.length):indexAddrA Tryz.prog st 22 kv (.v (.int k i))=some (.ip (cInt (it l i)) 0):=by
 rcases h with rfl | ⟨rfl,rfl⟩
 ·exact idx22 st h0 h1
 ·simp at h1;omega
theorem KeepV.flat {kv:AV} {l:List Int} (h:KeepV kv l):Flat kv:=by
 rcases h with rfl | ⟨rfl,rfl⟩
 ·exact flatSl l
 ·exact .v _
def Keeps (ns:List Node) (c:Int) (l:List Int):Prop:=∃ k∈l,anc ns c k=true
noncomputable def cndV (ns:List Node) (i:Int) (h:Root) (l:List Int):AV :=
 if Keeps ns (reachV ns i h).2 l then err2 21
 else if 0≤(reachV ns i h).1 then
  match raO ns (reachV ns i h).1 with
  | none=>err2 21
  | some r=>coV r (reachV ns i h).2
 else coV ns (reachV ns i h).2
noncomputable def judV (ns:List Node) (i:Int) (v:Verdict) (l:List Int):AV :=
 if ¬ (0≤i∧i < ns.length) then err2 10
 else if v.kind=1 then raV ns i
 else if v.kind=2 then cndV ns i v.latest l
 else if v.kind=3∨v.kind=4 then .tup [.agg (cTree ⟨ns⟩),.v (.int .i64 0)]
 else err2 2
theorem flat_cndV (ns:List Node) (i:Int) (h:Root) (l:List Int):Flat (cndV ns i h l):=by
 unfold cndV
 split
 ·exact flat_err2 _
 ·split
  ·split
   ·exact flat_err2 _
   ·exact flat_coV _ _
  ·exact flat_coV _ _
theorem flat_judV (ns:List Node) (i:Int) (v:Verdict) (l:List Int):Flat (judV ns i v l):=by
 unfold judV
 split
 ·exact flat_err2 _
 ·split
  ·exact flat_raV _ _
  ·split
   ·exact flat_cndV _ _ _ _
   ·split
    ·exact .tup _ (flat2 (flatT _) (.v _))
    ·exact flat_err2 _
theorem c222 (ns:List Node) (hu:UpOk ns) (hr:(nd ns 0).up=-1) (hn:(ns.length:Int) < 1000000) (i:Int) (v:Verdict) (l:List Int) (hl:(l.length:Int) < 1000000) {kv:AV} (hkv:KeepV kv l) :
 callL Tryz.prog 222 [.agg (cTree ⟨ns⟩),.v (.int .i64 i),.agg (cVerdict v),kv]=some (judV ns i v l):=by
 rw[cL Tryz.func222 rfl ok222 (by rcases hkv with rfl | ⟨rfl,rfl⟩<;>rfl)]
 have h86:=k87 ns i
 unfold judV
 by_cases hm:0≤i∧i < ns.length
 ·obtain⟨i0,i1⟩:=hm
  have hd:(decide (0≤i) && decide (i < (ns.length:Int)))=true:=by simp[i0,i1]
  rw[hd] at h86
  rw[if_neg (by simp[i0,i1])]
  by_cases h1:v.kind=1
  ·rw[if_pos h1]
   have b1:(v.kind == 1)=true:=by simp[h1]
   have h96:=k236 ns hu hn i
   rcases raV_cases ns hn i with ⟨e,he⟩ | ⟨q,he,_⟩
   all_goals
    rw[he] at h96
    rw[he]
    simp only[ZZ,seval,h86,b1,h96,extA]
    exact xtwo rfl (by simp only[resA,ZZ,seval];rfl) (by simp only[resA,EV,seval]<;>rfl) (by simp only[EV,seval]<;>rfl) (by simp only[EV,seval]<;>rfl)
  ·rw[if_neg h1]
   have b1:(v.kind == 1)=false:=by simp[h1]
   by_cases h2:v.kind=2
   ·rw[if_pos h2]
    have b2:(v.kind == 2)=true:=by simp[h2]
    have b3:(v.kind == 3)=false:=by simp[h2]
    have b4:(v.kind == 4)=false:=by simp[h2]
    have hRe:=k237 ns hu hr hn i v.latest
    have hfact:=reach_fact hu hr i0 i1 v.latest
    have hv:=hkv.view
    have hix:=fun st (k:IntKind) (i:Int) h0 h1=>hkv.idx st (k:=k) (i:=i) h0 h1
    have h46:=k47 ns hu hn
    unfold cndV
    obtain⟨a,ha⟩:∃ a,(reachV ns i v.latest).1=a:=⟨_,rfl⟩
    obtain⟨c,hc⟩:∃ c,(reachV ns i v.latest).2=c:=⟨_,rfl⟩
    rw[ha,hc] at hRe hfact
    rw[ha,hc]
    simp only[ZZ,seval,h86,b1,b2,b3,b4,hRe,extA]
    refine use_loop (fun n st=>∃ k:Nat,(st.env 3=kv∧st.env 4=.ptr 4 0 0∧st.heap 4 0=some (.cells (cTree ⟨ns⟩))∧st.env 8=.ptr 8 0 0∧st.heap 8 0=some (.cells [.v (.slice none 0 0)])∧st.env 10=.v (.int .i64 a)∧st.env 11=.v (.int .i64 c)∧st.env 12=.v (.int .i64 k))∧(∀ j:Int,0≤j→j < k→anc ns c (it l j)=false)∧k≤l.length∧n=l.length - k)
     (fun e st=>(e=.ret∧Keeps ns c l∧st.env 8=.ptr 8 0 0∧st.heap 8 0=some (.cells [.v (.slice none 0 0)])∧st.env 9=.v (.int .i64 21))∨(e=.exit 1∧¬ Keeps ns c l∧st.env 4=.ptr 4 0 0∧st.heap 4 0=some (.cells (cTree ⟨ns⟩))∧st.env 8=.ptr 8 0 0∧st.heap 8 0=some (.cells [.v (.slice none 0 0)])∧st.env 10=.v (.int .i64 a)∧st.env 11=.v (.int .i64 c))) l.length ?step ?start ?rest
    case step =>
     rintro n st ⟨k,hI,hj,hk,hn'⟩
     by_cases hlt:(k:Int) < l.length
     ·have q0:(0:Int)≤k:=by omega
      have hw:IntKind.i64.wrap ((k:Int)+1)=((k+1:Nat):Int):=by rw[w157 _ (by omega) (by omega)];omega
      cases hA:anc ns c (it l k)
      ·apply oN (l.length - (k+1))
       ·simp only[ZZ,seval,hI,hlt,q0,hv,hix,h46,hA,hw]
        rfl
       ·exact⟨k+1,by simp only[EV,seval,hI],fun j j0 j1=>by
        by_cases hjk:j < k
        ·exact hj j j0 hjk
        ·rw[show j=(k:Int) by omega];exact hA,by omega,rfl⟩
      ·apply oT (.ret)
       ·simp only[ZZ,seval,hI,hlt,q0,hv,hix,h46,hA]
        rfl
       ·exact .inl ⟨rfl,⟨_,it_mem q0 hlt,hA⟩,by simp only[EV,seval,hI],by simp only[EV,seval,hI],by simp only[EV,seval,hI]⟩
     ·obtain rfl:k=l.length:=by omega
      have hno:¬ Keeps ns c l:=by
       rintro⟨x,hx,hxa⟩
       obtain⟨j,hj',rfl⟩:=List.getElem_of_mem hx
       have:=hj j (by omega) (by omega)
       rw[show it l (j:Int)=l[j] by simp[it,hj']] at this
       rw[this] at hxa
       cases hxa
      apply oT (.exit 1)
      ·simp only[ZZ,seval,hI,hv,hlt]
       rfl
      ·exact .inr ⟨rfl,hno,by simp only[EV,seval,hI]⟩
    case start=>exact⟨0,by simp only[EV,seval],fun j _ _=>by omega,by omega,by omega⟩
    case rest =>
     rintro e st (⟨rfl,hk,hI⟩ | ⟨rfl,hk,hI⟩)
     ·rw[if_pos hk]
      simp only[ZZ,seval]
      exact xtwo rfl (by simp only[resA,ZZ,seval,hI];rfl) (by simp only[resA,EV,seval,hI]<;>rfl) (by simp only[EV,seval]<;>rfl) (by simp only[EV,seval]<;>rfl)
     ·rw[if_neg hk]
      by_cases h0:0≤a
      ·rw[if_pos h0]
       have hap:a∈path ns i:=by
        rcases hfact.2 with h | h
        ·omega
        ·exact h.1
       obtain⟨_,a1⟩:=path_in hu a hap
       have h96:=k236 ns hu hn a
       rw[show raV ns a=stA (raO ns a) from if_pos ⟨h0,a1⟩] at h96
       cases ho:raO ns a with
       | none =>
         rw[ho] at h96
         simp only[stA,err2] at h96
         simp only[ZZ,seval,hI,h0,h96,extA]
         exact xtwo rfl (by simp only[resA,ZZ,seval,hI];rfl) (by simp only[resA,EV,seval,hI]<;>rfl) (by simp only[EV,seval]<;>rfl) (by simp only[EV,seval]<;>rfl)
       | some r =>
         rw[ho] at h96
         simp only[stA] at h96
         have hR:=raised_of hu ho
         have hu2:=hR.c.su.upok hu
         have h97:=k238 r hu2 (by rw[hR.c.len];exact hn) c
         rcases coV_cases r (by rw[hR.c.len];exact hn) c with ⟨e,he⟩ | ⟨q,he,_⟩
         all_goals
          rw[he] at h97
          simp only[he]
          simp only[ZZ,seval,hI,h0,h96,h97,extA]
          exact xtwo rfl (by simp only[resA,ZZ,seval,hI];rfl) (by simp only[resA,EV,seval,hI]<;>rfl) (by simp only[EV,seval]<;>rfl) (by simp only[EV,seval]<;>rfl)
      ·rw[if_neg h0]
       have h97:=k238 ns hu hn c
       rcases coV_cases ns hn c with ⟨e,he⟩ | ⟨q,he,_⟩
       all_goals
        rw[he] at h97
        rw[he]
        simp only[ZZ,seval,hI,h0,h97,extA]
        exact xtwo rfl (by simp only[resA,ZZ,seval,hI];rfl) (by simp only[resA,EV,seval,hI]<;>rfl) (by simp only[EV,seval]<;>rfl) (by simp only[EV,seval]<;>rfl)
   ·rw[if_neg h2]
    have b2:(v.kind == 2)=false:=by simp[h2]
    by_cases h3:v.kind=3
    ·rw[if_pos (.inl h3)]
     have b3:(v.kind == 3)=true:=by simp[h3]
     simp only[ZZ,seval,h86,b1,b2,b3]
     exact xtwo rfl (by simp only[resA,ZZ,seval];rfl) (by simp only[resA,EV,seval]<;>rfl) (by simp only[EV,seval]<;>rfl) (by simp only[EV,seval]<;>rfl)
    ·have b3:(v.kind == 3)=false:=by simp[h3]
     by_cases h4:v.kind=4
     ·rw[if_pos (.inr h4)]
      have b4:(v.kind == 4)=true:=by simp[h4]
      simp only[ZZ,seval,h86,b1,b2,b3,b4]
      exact xtwo rfl (by simp only[resA,ZZ,seval];rfl) (by simp only[resA,EV,seval]<;>rfl) (by simp only[EV,seval]<;>rfl) (by simp only[EV,seval]<;>rfl)
     ·rw[if_neg (by omega)]
      have b4:(v.kind == 4)=false:=by simp[h4]
      simp only[ZZ,seval,h86,b1,b2,b3,b4]
      exact xtwo rfl (by simp only[resA,ZZ,seval];rfl) (by simp only[resA,EV,seval]<;>rfl) (by simp only[EV,seval]<;>rfl) (by simp only[EV,seval]<;>rfl)
 ·rw[if_pos hm]
  have hd:(decide (0≤i) && decide (i < (ns.length:Int)))=false:=by
   by_cases h0:0≤i
   ·have:¬ i < ns.length:=fun h=>hm ⟨h0,h⟩
    simp[this]
   ·simp[h0]
  rw[hd] at h86
  simp only[ZZ,seval,h86]
  exact xtwo rfl (by simp only[resA,ZZ,seval];rfl) (by simp only[resA,EV,seval]<;>rfl) (by simp only[EV,seval]<;>rfl) (by simp only[EV,seval]<;>rfl)
end Go.Ab.Tryz
